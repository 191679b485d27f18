/- A part of the proof: Mi1 Sp1 Sp2 Sp3 Sp4 Ma1. -/
import Derived.Test.YtaegkccfbmekbaaGreatNq17
import Derived.Test.YtaegkccfbmekbaaGreatNq20
set_option linter.all false
section
namespace Go.Hx
def ac1 (a b:AS):Bool:=tg b a
def tq (l:List AS):List AS:=a94 ac1 l
def okM (l:List AS) (i k:Nat):Bool:=(List.range k).all fun j=>decide (j = i) || !tg (l.getD j default) (l.getD i default)
theorem aks (l:List AS) (i k:Nat):okM l i (k + 1) = (okM l i k && (decide (k = i) || !tg (l.getD k default) (l.getD i default))):=by
 unfold okM
 rw [List.range_succ,List.all_append]
 simp
theorem okM_succ' (l:List AS) (i k:Nat):okM l i (k + 1) = (okM l i k && (decide ((k:Int) = i) || !tg (l.getD k default) (l.getD i default))):=by
 rw [aks,decide_eq_decide.2 (show (k:Int) = i ↔ k = i by omega)]
theorem adw {l:List AS} {i:Nat} (hn:l.Nodup) (hi:i < l.length):okM l i l.length = !xj ac1 l (l.getD i default):=by
 rw [Bool.eq_iff_iff]
 unfold okM xj ac1
 rw [List.all_eq_true,Bool.not_eq_true',List.any_eq_false]
 constructor
 · intro h b hb hc
   obtain ⟨j,hj,rfl⟩:=List.getElem_of_mem hb
   have:=h j (List.mem_range.2 hj)
   simp only [Bool.and_eq_true,decide_eq_true_eq,Bool.or_eq_true,Bool.not_eq_true',List.getD_eq_getElem?_getD,List.getElem?_eq_getElem hj,List.getElem?_eq_getElem hi,Option.getD_some] at this hc
   rcases this with h1 | h1
   · subst h1;exact hc.1 rfl
   · rw [hc.2] at h1;cases h1
 · intro h j hj
   have hj:=List.mem_range.1 hj
   have:=h l[j] (List.getElem_mem hj)
   simp only [List.getD_eq_getElem?_getD,List.getElem?_eq_getElem hj,List.getElem?_eq_getElem hi,Option.getD_some,Bool.or_eq_true,decide_eq_true_eq,Bool.not_eq_true',Bool.and_eq_true] at this ⊢
   by_cases e:j = i
   · exact .inl e
   · right
     rw [Bool.eq_false_iff]
     intro hs
     refine this ⟨fun he=>e ?_,hs⟩
     exact ((List.getElem_inj hn).1 he).symm
def mf (l:List AS) (i:Nat):List AS:=((ord l).take i).filter fun x=>!xj ac1 (ord l) x
theorem a13 {l:List AS} {i:Nat} (hi:i < (ord l).length) (h:okM (ord l) i (ord l).length = true):mf l (i + 1) = mf l i ++ [(ord l).getD i default]:=by
 rw [adw (a7n l) hi] at h
 unfold mf
 rw [c8 hi,List.filter_append]
 simp only [List.filter_cons,h,if_true,List.filter_nil]
theorem a1l {l:List AS} {i:Nat} (hi:i < (ord l).length) (h:okM (ord l) i (ord l).length = false):mf l (i + 1) = mf l i:=by
 rw [adw (a7n l) hi] at h
 unfold mf
 rw [c8 hi,List.filter_append]
 simp only [List.filter_cons,h,Bool.false_eq_true,if_false,List.filter_nil,List.append_nil]
theorem aiz (l:List AS) (i:Nat):(mf l i).length ≤ i:=by
 unfold mf
 exact Nat.le_trans (List.length_filter_le _ _) (by rw [List.length_take];omega)
theorem ago (l:List AS):mf l (ord l).length = tq l:=by
 unfold mf tq a94
 rw [List.take_length]
theorem aln {l:List AS} {z:AS}:z ∈ tq l ↔ z ∈ l ∧ ∀ b ∈ l,sub b z → b = z:=by
 unfold tq a94
 rw [List.mem_filter,t7,Bool.not_eq_true',Bool.eq_false_iff]
 refine and_congr Iff.rfl ?_
 unfold xj ac1 tg
 rw [Ne,List.any_eq_true]
 constructor
 · intro h b hb hs
   apply Classical.byContradiction
   intro hne
   exact h ⟨b,t7.2 hb,by rw [Bool.and_eq_true,decide_eq_true_eq,decide_eq_true_eq];exact ⟨fun e=>hne e.symm,hs⟩⟩
 · rintro h ⟨b,hb,hc⟩
   rw [Bool.and_eq_true,decide_eq_true_eq,decide_eq_true_eq] at hc
   exact hc.1 (h b (t7.1 hb) hc.2).symm
theorem ach (l:List AS):ir (tq l):=List.Pairwise.filter _ (f7 l)
theorem ajt (l:List AS):(tq l).length ≤ l.length:=Nat.le_trans (List.length_filter_le _ _) (t6 l)
def mc (p:AS → Bool) (o:List AS) (x:AS):List AS:=if p x && !(o.any fun y=>decide (sub y x)) then o ++ [x] else o
def gv (p:AS → Bool) (l:List AS):List AS:=l.foldl (mc p) []
theorem lj (p:AS → Bool) (l:List AS) (x:AS):gv p (l ++ [x]) = mc p (gv p l) x:=by
 unfold gv;rw [List.foldl_append];rfl
theorem aec {y x:AS} (h:sub y x) (hne:y ≠ x):bef y x = true:=by
 rw [gk]
 have h1:=a6j h
 have h2:=ac6 h hne
 omega
theorem a0q (p:AS → Bool):∀ l:List AS,ir l → (∀ x ∈ l,∀ y,sub y x → y ∈ l) → ∀ z,z ∈ gv p l ↔ z ∈ l ∧ p z = true ∧ ∀ y,sub y z → p y = true → y = z:=by
 intro l
 have key:∀ n,∀ l:List AS,l.length = n → ir l → (∀ x ∈ l,∀ y,sub y x → y ∈ l) → ∀ z,z ∈ gv p l ↔ z ∈ l ∧ p z = true ∧ ∀ y,sub y z → p y = true → y = z:=by
  intro n
  induction n with
  | zero =>
   intro l hl _ _ z
   obtain rfl:=List.eq_nil_of_length_eq_zero hl
   simp [gv]
  | succ n ih =>
   intro l hl ho hc z
   obtain ⟨l',x,rfl⟩:∃ l' x,l = l' ++ [x]:=by
    have hne:l ≠ []:=fun e=>by subst e;cases hl
    exact ⟨l.dropLast,l.getLast hne,(List.dropLast_concat_getLast hne).symm⟩
   have hl':l'.length = n:=by simpa using hl
   obtain ⟨ho1,_,ho2⟩:=List.pairwise_append.1 ho
   have hx:∀ y ∈ l',bef y x = true:=fun y hy=>ho2 y hy x (by simp)
   have hc':∀ w ∈ l',∀ y,sub y w → y ∈ l':=fun w hw y hy=>by
    rcases List.mem_append.1 (hc w (by simp [hw]) y hy) with h | h
    · exact h
    · obtain rfl:y = x:=by simpa using h
      by_cases e:y = w
      · subst e;exact hw
      · have:=a3o (aec hy e)
        rw [hx w hw] at this;cases this
   have hin:∀ y,sub y x → y ≠ x → y ∈ l':=fun y hy hne=>by
    rcases List.mem_append.1 (hc x (by simp) y hy) with h | h
    · exact h
    · exact absurd (by simpa using h) hne
   have hxn:x ∉ l':=fun h=>by have:=hx x h;rw [kx] at this;cases this
   have ih':=ih l' hl' ho1 hc'
   have below:∀ k (y:AS),y.toNat ≤ k → y ∈ l' → p y = true → ∃ y',sub y' y ∧ y' ∈ gv p l':=by
    intro k
    induction k with
    | zero =>
     intro y hk hy hp
     refine ⟨y,yc y,(ih' y).2 ⟨hy,hp,fun w hw _=>?_⟩⟩
     apply Classical.byContradiction
     intro hne
     have h2:=ac6 hw hne
     omega
    | succ k ihk =>
     intro y hk hy hp
     by_cases hm:∀ w,sub w y → p w = true → w = y
     · exact ⟨y,yc y,(ih' y).2 ⟨hy,hp,hm⟩⟩
     · obtain ⟨w,hw⟩:=Classical.not_forall.1 hm
       obtain ⟨hw1,hw⟩:=Classical.not_imp.1 hw
       obtain ⟨hw2,hw3⟩:=Classical.not_imp.1 hw
       have h2:=ac6 hw1 hw3
       obtain ⟨y',h1,h3⟩:=ihk w (by omega) (hc' y hy w hw1) hw2
       exact ⟨y',rh h1 hw1,h3⟩
   rw [lj]
   unfold mc
   by_cases hp:p x = true
   · by_cases ha:∃ y ∈ gv p l',sub y x
     · obtain ⟨y,hy,hs⟩:=ha
       have hany:((gv p l').any fun y=>decide (sub y x)) = true:=List.any_eq_true.2 ⟨y,hy,decide_eq_true hs⟩
       rw [hp,hany]
       simp only [Bool.not_true,Bool.and_false,Bool.false_eq_true,if_false]
       rw [ih' z]
       constructor
       · rintro ⟨h1,h2⟩;exact ⟨by simp [h1],h2⟩
       · rintro ⟨h1,h2⟩
         rcases List.mem_append.1 h1 with h | h
         · exact ⟨h,h2⟩
         · obtain rfl:z = x:=by simpa using h
           obtain ⟨q1,q2,_⟩:=(ih' y).1 hy
           exact absurd (h2.2 y hs q2 ▸ q1) hxn
     · have hany:((gv p l').any fun y=>decide (sub y x)) = false:=by
        rw [List.any_eq_false]
        intro y hy hd
        exact ha ⟨y,hy,of_decide_eq_true hd⟩
       rw [hp,hany]
       simp only [Bool.not_false,Bool.and_true,if_true]
       rw [List.mem_append,ih' z,List.mem_append,List.mem_singleton]
       constructor
       · rintro (⟨h1,h2⟩ | rfl)
         · exact ⟨.inl h1,h2⟩
         · refine ⟨.inr rfl,hp,fun y hy hpy=>?_⟩
           apply Classical.byContradiction
           intro hne
           obtain ⟨y',h1,h2⟩:=below y.toNat y (Nat.le_refl _) (hin y hy hne) hpy
           exact ha ⟨y',h2,rh h1 hy⟩
       · rintro ⟨h1 | h1,h2⟩
         · exact .inl ⟨h1,h2⟩
         · exact .inr h1
   · have hp:p x = false:=by simpa using hp
     rw [hp]
     simp only [Bool.false_and,Bool.false_eq_true,if_false]
     rw [ih' z]
     constructor
     · rintro ⟨h1,h2⟩;exact ⟨by simp [h1],h2⟩
     · rintro ⟨h1,h2,h3⟩
       rcases List.mem_append.1 h1 with h | h
       · exact ⟨h,h2,h3⟩
       · obtain rfl:z = x:=by simpa using h
         rw [hp] at h2;cases h2
 exact key l.length l rfl
theorem t8 (p:AS → Bool):∀ l:List AS,(gv p l).Sublist l:=by
 intro l
 have:∀ n,∀ l:List AS,l.length = n → (gv p l).Sublist l:=by
  intro n
  induction n with
  | zero =>
   intro l hl
   obtain rfl:=List.eq_nil_of_length_eq_zero hl
   exact List.Sublist.refl _
  | succ n ih =>
   intro l hl
   obtain ⟨l',x,rfl⟩:∃ l' x,l = l' ++ [x]:=by
    have hne:l ≠ []:=fun e=>by subst e;cases hl
    exact ⟨l.dropLast,l.getLast hne,(List.dropLast_concat_getLast hne).symm⟩
   rw [lj]
   have h:=ih l' (by simpa using hl)
   unfold mc
   split
   · exact h.append (List.Sublist.refl _)
   · exact h.trans (List.sublist_append_left _ _)
 exact this l.length l rfl
theorem alm {p:AS → Bool} {l:List AS} (h:ir l):ir (gv p l):=h.sublist (t8 p l)
theorem a8g {p:AS → Bool} {s:AS} {l:List AS} (hl:∀ z,z ∈ l ↔ sub z s ∧ p z = true):gv p (ou s) = tq l:=by
 refine ku (alm (f7 _)) (ach _) fun z=>?_
 rw [a0q p (ou s) (f7 _) (fun x hx y hy=>lx.2 (rh hy (lx.1 hx))),aln,lx,hl]
 constructor
 · rintro ⟨h1,h2,h3⟩
   exact ⟨⟨h1,h2⟩,fun b hb hs=>h3 b hs ((hl b).1 hb).2⟩
 · rintro ⟨⟨h1,h2⟩,h3⟩
   exact ⟨h1,h2,fun y hy hp=>h3 y ((hl y).2 ⟨rh hy h1,hp⟩) hy⟩
end Go.Hx
end
section
namespace Go.Hx
def sgn (a b:Int):Int:=if a < b then -1 else if b < a then 1 else 0
def bAt (s:ByteArray) (i:Nat):Int:=cu s i
def ke:List UInt8 → List UInt8 → Int
 | [],[]=>0
 | [],_ :: _=>-1
 | _ :: _,[]=>1
 | x :: xs,y :: ys=>if x = y then ke xs ys else sgn x.toNat y.toNat
abbrev bl (s:ByteArray):List UInt8:=s.data.toList
def m8 (a b:ByteArray):Int:=ke (bl a) (bl b)
theorem i5 (s:ByteArray):(bl s).length = s.size:=Array.length_toList
theorem a7t:∀ (i:Nat) (a b:List UInt8),i < a.length → i < b.length → a.getD i 0 = b.getD i 0 → ke (a.drop i) (b.drop i) = ke (a.drop (i + 1)) (b.drop (i + 1))
 | 0,x :: xs,y :: ys,_,_,h=>by
  simp only [List.getD_cons_zero] at h
  simp [ke,h]
 | i + 1,x :: xs,y :: ys,h1,h2,h=>by
  simp only [List.getD_cons_succ] at h
  simpa using a7t i xs ys (by simpa using h1) (by simpa using h2) h
 | _,[],_,h1,_,_=>by simp at h1
 | _,_ :: _,[],_,h2,_=>by simp at h2
theorem a7r:∀ (i:Nat) (a b:List UInt8),i < a.length → i < b.length → a.getD i 0 ≠ b.getD i 0 → ke (a.drop i) (b.drop i) = sgn (a.getD i 0).toNat (b.getD i 0).toNat
 | 0,x :: xs,y :: ys,_,_,h=>by
  simp only [List.getD_cons_zero] at h
  simp [ke,h]
 | i + 1,x :: xs,y :: ys,h1,h2,h=>by
  simp only [List.getD_cons_succ] at h ⊢
  simpa using a7r i xs ys (by simpa using h1) (by simpa using h2) h
 | _,[],_,h1,_,_=>by simp at h1
 | _,_ :: _,[],_,h2,_=>by simp at h2
theorem a3m:∀ (i:Nat) (a b:List UInt8),i ≤ a.length → i ≤ b.length → (i = a.length ∨ i = b.length) → ke (a.drop i) (b.drop i) = sgn a.length b.length
 | 0,[],[],_,_,_=>by simp [ke,sgn]
 | 0,[],_ :: _,_,_,_=>by simp [ke,sgn] <;> omega
 | 0,_ :: _,[],_,_,_=>by simp [ke,sgn] <;> omega
 | 0,_ :: _,_ :: _,_,_,h=>by simp at h
 | i + 1,x :: xs,y :: ys,h1,h2,h=>by
  have:=a3m i xs ys (by simpa using h1) (by simpa using h2) (by simpa using h)
  simp only [List.drop_succ_cons,this,List.length_cons,sgn]
  repeat' split
  all_goals first | rfl | omega
 | i + 1,[],_,h1,_,_=>by simp at h1
 | i + 1,_ :: _,[],_,h2,_=>by simp at h2
theorem a8d:∀ {a b:List UInt8},ke a b = 0 ↔ a = b
 | [],[]=>by simp [ke]
 | [],_ :: _=>by simp [ke]
 | _ :: _,[]=>by simp [ke]
 | x :: xs,y :: ys=>by
  simp only [ke]
  by_cases h:x = y
  · simp [h,a8d]
  · have:¬ x.toNat = y.toNat:=fun e=>h (UInt8.toNat_inj.1 e)
    simp only [h,if_false,sgn,List.cons.injEq,false_and,iff_false]
    repeat' split
    all_goals omega
theorem a4f (a b:ByteArray) (i j:Nat):cu a i = cu b j ↔ (bl a).getD i 0 = (bl b).getD j 0:=by
 unfold cu
 rw [Int.natCast_inj,UInt8.toNat_inj]
theorem ad6 {a b:ByteArray}:m8 a b = 0 ↔ a = b:=by
 unfold m8
 rw [a8d]
 exact ⟨fun h=>ByteArray.ext (Array.ext' h),fun h=>by rw [h]⟩
def kj (a b:Val):Int :=
 if sgn a.kind b.kind ≠ 0 then sgn a.kind b.kind else if sgn a.num b.num ≠ 0 then sgn a.num b.num else m8 a.str b.str
theorem pt {a b:Int}:sgn a b = 0 ↔ a = b:=by
 unfold sgn
 repeat' split
 all_goals omega
theorem v6 {a b:Val}:kj a b = 0 ↔ a = b:=by
 unfold kj
 cases a;cases b
 simp only [Val.mk.injEq]
 split
 · rename_i h;rw [Ne,pt] at h
   constructor
   · intro e;rw [pt] at e;exact absurd e h
   · rintro ⟨e,_⟩;exact absurd e h
 · rename_i h;rw [Ne,pt,Classical.not_not] at h
   split
   · rename_i h2;rw [Ne,pt] at h2
     constructor
     · intro e;rw [pt] at e;exact absurd e h2
     · rintro ⟨_,e,_⟩;exact absurd e h2
   · rename_i h2;rw [Ne,pt,Classical.not_not] at h2
     rw [ad6]
     exact ⟨fun e=>⟨h,h2,e⟩,fun e=>e.2.2⟩
def ia:List Val → List Val → Int
 | [],[]=>0
 | [],_ :: _=>-1
 | _ :: _,[]=>1
 | x :: xs,y :: ys=>if kj x y ≠ 0 then kj x y else ia xs ys
theorem a4c:∀ (i:Nat) (a b:List Val),i < a.length → i < b.length → kj (a.getD i default) (b.getD i default) = 0 → ia (a.drop i) (b.drop i) = ia (a.drop (i + 1)) (b.drop (i + 1))
 | 0,x :: xs,y :: ys,_,_,h=>by
  simp only [List.getD_cons_zero] at h
  simp [ia,h]
 | i + 1,x :: xs,y :: ys,h1,h2,h=>by
  simp only [List.getD_cons_succ] at h
  simpa using a4c i xs ys (by simpa using h1) (by simpa using h2) h
 | _,[],_,h1,_,_=>by simp at h1
 | _,_ :: _,[],_,h2,_=>by simp at h2
theorem a40:∀ (i:Nat) (a b:List Val),i < a.length → i < b.length → kj (a.getD i default) (b.getD i default) ≠ 0 → ia (a.drop i) (b.drop i) = kj (a.getD i default) (b.getD i default)
 | 0,x :: xs,y :: ys,_,_,h=>by
  simp only [List.getD_cons_zero] at h
  simp [ia,h]
 | i + 1,x :: xs,y :: ys,h1,h2,h=>by
  simp only [List.getD_cons_succ] at h ⊢
  simpa using a40 i xs ys (by simpa using h1) (by simpa using h2) h
 | _,[],_,h1,_,_=>by simp at h1
 | _,_ :: _,[],_,h2,_=>by simp at h2
theorem a0u:∀ (i:Nat) (a b:List Val),i ≤ a.length → i ≤ b.length → (i = a.length ∨ i = b.length) → ia (a.drop i) (b.drop i) = sgn a.length b.length
 | 0,[],[],_,_,_=>by simp [ia,sgn]
 | 0,[],_ :: _,_,_,_=>by simp [ia,sgn] <;> omega
 | 0,_ :: _,[],_,_,_=>by simp [ia,sgn] <;> omega
 | 0,_ :: _,_ :: _,_,_,h=>by simp at h
 | i + 1,x :: xs,y :: ys,h1,h2,h=>by
  have:=a0u i xs ys (by simpa using h1) (by simpa using h2) (by simpa using h)
  simp only [List.drop_succ_cons,this,List.length_cons,sgn]
  repeat' split
  all_goals first | rfl | omega
 | i + 1,[],_,h1,_,_=>by simp at h1
 | i + 1,_ :: _,[],_,h2,_=>by simp at h2
theorem a5h:∀ {a b:List Val},ia a b = 0 ↔ a = b
 | [],[]=>by simp [ia]
 | [],_ :: _=>by simp [ia]
 | _ :: _,[]=>by simp [ia]
 | x :: xs,y :: ys=>by
  simp only [ia]
  split
  · rename_i h
    refine ⟨fun e=>absurd e h,fun e=>?_⟩
    simp only [List.cons.injEq] at e
    exact absurd (v6.2 e.1) h
  · rename_i h
    rw [Ne,Classical.not_not,v6] at h
    simp [h,a5h]
end Go.Hx
end
section
namespace Go.Hx
abbrev emp:ByteArray:=⟨#[]⟩
def dg (v:Val):Bool :=
 if v.kind = 0 then decide (v.num = 0) && decide (v.str = emp)
 else if v.kind = 1 then decide (v.str = emp)
 else if v.kind = 2 then decide (v.num = 0) && decide (v.str.size ≤ 200)
 else decide (v.kind = 3) && decide (1 ≤ v.num) && decide (v.str = emp)
def Val.ok (v:Val):Prop:=v.str.size ≤ 68719476736
def rl (l:List Val):Prop:=∀ j,j < l.length → (l.getD j default).ok
def Row.ok (r:Row):Prop:=r.vals.length ≤ 68719476736 ∧ rl r.vals
def js (l:List Row):Prop:=∀ j,j < l.length → (l.getD j default).ok
def Tbl.ok (t:Tbl):Prop:=t.attrs.length ≤ 68719476736 ∧ t.rows.length ≤ 68719476736 ∧ js t.rows
def avz (d:DB):Prop:=d.length ≤ 68719476736 ∧ ∀ j,j < d.length → Tbl.ok (d.getD j default)
def Chg.ok (x:Chg):Prop:=x.table.ok ∧ x.row.ok ∧ x.value.ok
def ars (l:List Chg):Prop:=∀ j,j < l.length → (l.getD j default).ok
def ltr (c:Int):Bool:=(decide (97 ≤ c) && decide (c ≤ 122)) || (decide (65 ≤ c) && decide (c ≤ 90)) || decide (c = 95)
def dig (c:Int):Bool:=decide (48 ≤ c) && decide (c ≤ 57)
abbrev aeq:ByteArray:=⟨#[110,117,108,108]⟩
def aah (s:ByteArray):Bool:=(List.range s.size).all fun i=>ltr (cu s i) || dig (cu s i)
def ib (s:ByteArray):Bool:=decide (s.size ≠ 0) && decide (s.size ≤ 24) && ltr (cu s 0) && decide (s ≠ aeq) && aah s
def a6w (l:List ByteArray) (s:ByteArray):Int:=idx (fun x=>decide (x = s)) l
def mi (l:List ByteArray) (i:Nat):Bool:=ib (l.getD i default) && decide (a6w (l.take i) (l.getD i default) < 0)
def xy (l:List ByteArray):Bool:=(List.range l.length).all (mi l)
def ej (n:Nat) (before:Int):List Row → Int
 | []=>0
 | r :: rs=>if r.id ≤ before then 1 else if r.vals.length ≠ n then 6 else if (r.vals.all dg) = false then 1 else ej n r.id rs
def c6 (t:Tbl):Int :=
 if ib t.name = false then 1 else if 16 < t.attrs.length ∨ 1000 < t.rows.length then 3 else if xy t.attrs = false then 1 else ej t.attrs.length 0 t.rows
theorem abb {n:Nat} {l:List Row} {i:Nat} {b:Int} (hi:i < l.length):ej n b (l.drop i) = if (l.getD i default).id ≤ b then 1 else if (l.getD i default).vals.length ≠ n then 6 else if ((l.getD i default).vals.all dg) = false then 1 else ej n (l.getD i default).id (l.drop (i + 1)):=by
 rw [List.drop_eq_getElem_cons hi,ej]
 simp only [List.getD,List.getElem?_eq_getElem hi,Option.getD_some]
def awh (l:List Row) (id:Int):Option Nat:=l.findIdx? fun r=>decide (r.id = id)
def az (l:List Row) (id:Int):Int:=idx (fun r=>decide (r.id = id)) l
def j9 (d:DB) (s:ByteArray):Int:=idx (fun t=>decide (t.name = s)) d
def a3t (d:DB) (t:Tbl):Int:=if c6 t ≠ 0 then c6 t else if 0 ≤ j9 d t.name then 5 else if 50 ≤ d.length then 3 else 0
theorem go {p:Nat → Bool} {n i:Nat} (hi:i < n) (h:p i = false):(List.range n).all p = false:=by
 rw [List.all_eq_false];exact ⟨i,List.mem_range.2 hi,by simp [h]⟩
theorem jf {p:Nat → Bool} {n:Nat} (h:∀ j,j < n → p j = true):(List.range n).all p = true:=by
 rw [List.all_eq_true];exact fun j hj=>h j (List.mem_range.1 hj)
theorem pf {s:ByteArray} (h:s.size = 0):ib s = false:=by simp [ib,h]
theorem nj {s:ByteArray} (h:24 < s.size):ib s = false:=by
 have:¬ s.size ≤ 24:=by omega
 simp [ib,this]
theorem u5 {s:ByteArray} (h:ltr (cu s 0) = false):ib s = false:=by simp [ib,h]
theorem zm {s:ByteArray} {i:Nat} (hi:(i:Int) = 0) (h:ltr (cu s i) = false):ib s = false:=by
 obtain rfl:i = 0:=by omega
 exact u5 h
theorem aqf {s:ByteArray} {i:Nat} (hz:0 < i → ltr (cu s 0) = true) (h:i = 0 → ltr (cu s i) = true):ltr (cu s 0) = true:=by
 by_cases e:i = 0
 · subst e;exact h rfl
 · exact hz (by omega)
theorem ly {s:ByteArray} (h:s = aeq):ib s = false:=by simp [ib,h]
theorem qp {s:ByteArray} {i:Nat} (hi:i < s.size) (h1:ltr (cu s i) = false) (h2:dig (cu s i) = false):ib s = false:=by
 have:aah s = false:=go hi (by simp [h1,h2])
 simp [ib,this]
theorem ag8 {s:ByteArray} (h0:s.size ≠ 0) (h1:s.size ≤ 24) (h2:ltr (cu s 0) = true) (h3:s ≠ aeq) (h4:∀ j,j < s.size → (ltr (cu s j) || dig (cu s j)) = true):ib s = true:=by
 have:aah s = true:=jf h4
 simp [ib,this,h0,h1,h2,h3]
theorem u6 {s:ByteArray}:s.size = 0 ↔ s = emp:=by
 constructor
 · intro h
   refine ByteArray.ext (Array.ext' ?_)
   have:s.data.toList.length = 0:=by rw [Array.length_toList];exact h
   exact List.eq_nil_of_length_eq_zero this
 · rintro rfl;rfl
theorem adt {α:Type} {p:α → Bool} {l:List α}:decide (0 ≤ idx p l) = l.any p:=by
 unfold idx
 cases h:l.findIdx? p with
 | none =>
  rw [List.findIdx?_eq_none_iff] at h
  have:l.any p = false:=by rw [List.any_eq_false];intro x hx;simp [h x hx]
  simp [this]
 | some i =>
  rw [List.findIdx?_eq_some_iff_getElem] at h
  obtain ⟨hi,hp,_⟩:=h
  have:l.any p = true:=by rw [List.any_eq_true];exact ⟨_,List.getElem_mem hi,hp⟩
  simp [this]
theorem ah2 {α:Type} {p:α → Bool} {l:List α}:idx p l < l.length:=by
 unfold idx
 cases h:l.findIdx? p with
 | none=>simp;omega
 | some i =>
  rw [List.findIdx?_eq_some_iff_getElem] at h
  simp [h.1]
theorem al8 {α:Type} [Inhabited α] {p:α → Bool} {l:List α} (h:0 ≤ idx p l):(idx p l).toNat < l.length ∧ p (l.getD (idx p l).toNat default) = true:=by
 unfold idx at h ⊢
 cases h2:l.findIdx? p with
 | none=>simp [h2] at h
 | some i =>
  rw [List.findIdx?_eq_some_iff_getElem] at h2
  obtain ⟨hi,hp,_⟩:=h2
  simp [List.getD,hi,hp]
theorem acz {l:List Val}:(!l.any fun v=>!dg v) = l.all dg:=by
 induction l with
 | nil=>rfl
 | cons x l ih=>simp only [List.any_cons,List.all_cons,Bool.not_or,Bool.not_not,ih]
def ofI (k:Int):Val :=
 if k = 0 then ⟨1,0,emp⟩ else if k = 1 then ⟨1,1,emp⟩ else if k = 2 then ⟨1,2,emp⟩ else if k = 3 then ⟨0,0,emp⟩ else if k = 4 then ⟨2,0,⟨#[97]⟩⟩ else if k = 5 then ⟨2,0,⟨#[98]⟩⟩
 else if k = 6 then ⟨2,0,emp⟩ else if k = 7 then ⟨3,1,emp⟩ else if k = 8 then ⟨1, -1,emp⟩ else if k = 9 then ⟨2,0,⟨#[97,98]⟩⟩ else if k = 10 then ⟨3,2,emp⟩ else ⟨1,7,emp⟩
def ofV (c:UInt8):Val:=ofI ((c.toNat:Int) % 12)
def a5z (x:Opn):ByteArray:=[⟨#[114]⟩,⟨#[115]⟩,⟨#[116]⟩,emp].getD (x.name.toNat % 4) default
def amk (x:Opn):Row:=⟨x.id,x.vals.map ofV⟩
def ni:List ByteArray:=[⟨#[97]⟩,⟨#[98]⟩,⟨#[99]⟩,⟨#[100]⟩,⟨#[101]⟩,⟨#[102]⟩,⟨#[103]⟩,⟨#[104]⟩]
def gl (l:List UInt8) (n:Nat):List Val:=(List.range n).map fun k=>ofV (l.getD k default)
def alg (x:Rcp) (n:Nat):List Row:=(List.range x.rows.length).map fun (i:Nat)=>⟨1 + (i:Int) * (1 + (x.gap.toNat:Int) % 3),gl (x.rows.getD i default) n⟩
def aqb (x:Rcp) (n:Nat):Tbl:=⟨⟨#[114]⟩,ni.take n,alg x n⟩
def amj (x:Opn):Tbl:={ aqb x.t (x.t.attrs.toNat % 4) with name:=a5z x }
theorem agr {β:Type} [Inhabited β] (f:Nat → β) (n i:Nat) (h:i < n):((List.range n).map f).getD i default = f i:=by
 simp [List.getD,h]
end Go.Hx
end
section
namespace Go.Hx
abbrev T0:Tbl:=⟨emp,[],[]⟩
def jt (r:Row):List Row → List Row
 | []=>[r]
 | x :: xs=>if r.id < x.id then r :: x :: xs else x :: jt r xs
def c4 (t:Tbl) (r:Row):Int :=
 if c6 t ≠ 0 then c6 t else if r.vals.length ≠ t.attrs.length then 6 else if r.id ≤ 0 ∨ r.vals.all dg = false then 1
 else if 0 ≤ az t.rows r.id then 5 else if 1000 ≤ t.rows.length then 3 else 0
def gj (t:Tbl) (r:Row):Tbl:=if c4 t r = 0 then { t with rows:=jt r t.rows } else T0
def dq (t:Tbl) (id:Int):Int:=if c6 t ≠ 0 then c6 t else if 0 ≤ az t.rows id then 0 else 4
def ml (t:Tbl) (id:Int):Tbl:=if dq t id = 0 then { t with rows:=t.rows.eraseIdx (az t.rows id).toNat } else T0
def cz (t:Tbl) (id attr:Int) (v:Val):Int :=
 if c6 t ≠ 0 then c6 t else if ¬ 0 ≤ az t.rows id then 4 else if attr < 0 ∨ (t.attrs.length:Int) ≤ attr then 6 else if dg v = false then 1 else 0
def ll (l:List Row) (i k:Nat) (v:Val):List Row:=l.set i { l.getD i default with vals:=(l.getD i default).vals.set k v }
def chT (t:Tbl) (id attr:Int) (v:Val):Tbl:=if cz t id attr v = 0 then { t with rows:=ll t.rows (az t.rows id).toNat attr.toNat v } else T0
def a5s (t:Tbl) (c:Chg):Int :=
 if c.kind = 2 then c4 t c.row
 else if ¬ 0 ≤ az t.rows c.row.id then 4
 else if ¬ (t.rows.getD (max (az t.rows c.row.id) 0).toNat default).vals = c.row.vals then 16
 else if c.kind = 3 then dq t c.row.id
 else cz t c.row.id c.attr c.value
def a32 (t:Tbl) (c:Chg):Tbl:=if c.kind = 2 then gj t c.row else if c.kind = 3 then ml t c.row.id else chT t c.row.id c.attr c.value
def qa (d:DB) (s:ByteArray):Tbl:=d.getD (j9 d s).toNat default
def it (d:DB) (c:Chg):Int :=
 if c.kind = 1 then (if c.name ≠ c.table.name then 1 else a3t d c.table)
 else if c.kind < 1 ∨ 4 < c.kind then 1
 else if j9 d c.name < 0 then 4
 else a5s (qa d c.name) c
def y6 (d:DB) (c:Chg):DB :=
 if it d c ≠ 0 then d
 else if c.kind = 1 then d ++ [c.table]
 else d.set (j9 d c.name).toNat (a32 (qa d c.name) c)
theorem aE2 {d:DB} {c:Chg} (h:c.kind = 1) (h2:c.name = c.table.name):it d c = a3t d c.table:=by rw [it,if_pos h,if_neg (by simp [h2])]
theorem aE5 {d:DB} {c:Chg} (h:2 ≤ c.kind ∧ c.kind ≤ 4) (h2:¬ j9 d c.name < 0):it d c = a5s (qa d c.name) c:=by rw [it,if_neg (by omega),if_neg (by omega),if_neg h2]
theorem aru {d:DB} {c:Chg} {e:Int} (h:it d c = e) (he:e ≠ 0):y6 d c = d:=by rw [y6,if_pos (by rw [h];exact he)]
theorem aD1 {d:DB} {c:Chg} (h:it d c = 0) (h1:c.kind = 1):y6 d c = d ++ [c.table]:=by rw [y6,if_neg (by simp [h]),if_pos h1]
theorem aD2 {d:DB} {c:Chg} {u:Tbl} (h:it d c = 0) (h1:¬ c.kind = 1) (hu:a32 (qa d c.name) c = u):y6 d c = d.set (j9 d c.name).toNat u:=by rw [y6,if_neg (by simp [h]),if_neg h1,hu]
def dbV (d:DB):Prop:=d.length ≤ 50 ∧ ∀ j,j < d.length → c6 (d.getD j default) = 0
def aue (d:DB):List Chg → Int
 | []=>0
 | c :: cs=>if it d c ≠ 0 then it d c else aue (y6 d c) cs
def a8z (d:DB):List Chg → DB
 | []=>d
 | c :: cs=>if it d c ≠ 0 then [] else a8z (y6 d c) cs
def avs (s:Stt) (l:List Chg):Stt:=if l.length = 0 then s else ⟨s.done ++ [l],[],false,[]⟩
def awr (s:Stt) (c:Chg):Stt:=if s.opn = true then { s with now:=s.now ++ [c] } else avs s [c]
def au9 (x:Opn):Bool:=decide (x.vals.length ≤ 20) && decide (x.t.rows.length ≤ 6) && x.t.rows.all fun r=>decide (r.length ≤ 20)
def few (l:List Opn) (most:Int):Bool:=l.all au9 && decide ((l.length:Int) ≤ most)
end Go.Hx
end
section
namespace Go.Hx
theorem a0r {n:Nat} {b:Int} {x:Row} {l:List Row} (h:ej n b (x :: l) = 0):b < x.id ∧ x.vals.length = n ∧ x.vals.all dg = true ∧ ej n x.id l = 0:=by
 simp only [ej] at h
 split at h
 · omega
 · split at h
   · omega
   · split at h
     · omega
     · rename_i h1 h2 h3
       exact ⟨by omega,by omega,by simpa using h3,h⟩
theorem gm {n:Nat}:∀ {l:List Row} {b:Int},ej n b l = 0 → ∀ x ∈ l,b < x.id ∧ x.vals.length = n ∧ x.vals.all dg = true
 | [],_,_,x,hx=>by cases hx
 | y :: l,b,h,x,hx=>by
  obtain ⟨h1,h2,h3,h4⟩:=a0r h
  rcases List.mem_cons.1 hx with rfl | hx
  · exact ⟨h1,h2,h3⟩
  · obtain ⟨g1,g2⟩:=gm h4 x hx
    exact ⟨by omega,g2⟩
abbrev gc (l:List Row):Prop:=l.Pairwise fun a b=>a.id < b.id
theorem fu {n:Nat}:∀ {l:List Row} {b:Int},ej n b l = 0 → gc l
 | [],_,_=>List.Pairwise.nil
 | y :: l,b,h=>by
  obtain ⟨h1,h2,h3,h4⟩:=a0r h
  exact List.Pairwise.cons (fun x hx=>(gm h4 x hx).1) (fu h4)
theorem sd {n:Nat}:∀ {l:List Row} {b:Int},(∀ x ∈ l,b < x.id ∧ x.vals.length = n ∧ x.vals.all dg = true) → gc l → ej n b l = 0
 | [],_,_,_=>rfl
 | y :: l,b,h,hs=>by
  obtain ⟨h1,h2,h3⟩:=h y (by simp)
  unfold gc at hs
  rw [List.pairwise_cons] at hs
  simp only [ej]
  rw [if_neg (by omega),if_neg (by omega),if_neg (by simp [h3])]
  exact sd (fun x hx=>⟨hs.1 x hx,(h x (by simp [hx])).2⟩) hs.2
structure TOk (t:Tbl):Prop where
 nm:ib t.name = true
 na:t.attrs.length ≤ 16
 nr:t.rows.length ≤ 1000
 nms:xy t.attrs = true
 rs:ej t.attrs.length 0 t.rows = 0
theorem ek {t:Tbl}:c6 t = 0 ↔ TOk t:=by
 constructor
 · intro h
   unfold c6 at h
   split at h
   · omega
   · split at h
     · omega
     · split at h
       · omega
       · rename_i h1 h2 h3
         exact ⟨by simpa using h1,by omega,by omega,by simpa using h3,h⟩
 · rintro ⟨h1,h2,h3,h4,h5⟩
   unfold c6
   rw [if_neg (by simp [h1]),if_neg (by omega),if_neg (by simp [h4]),h5]
theorem afr {v:Val} (h:dg v = true):v.str.size ≤ 200:=by
 unfold dg at h
 have e0:emp.size = 0:=rfl
 split at h
 · simp only [Bool.and_eq_true,decide_eq_true_eq] at h;rw [h.2];omega
 · split at h
   · simp only [decide_eq_true_eq] at h;rw [h];omega
   · split at h
     · simp only [Bool.and_eq_true,decide_eq_true_eq] at h;omega
     · simp only [Bool.and_eq_true,decide_eq_true_eq] at h;rw [h.2];omega
theorem ao2 {l:List Val} (h:l.all dg = true):rl l:=by
 intro j hj
 rw [l4 l j hj]
 have:=afr (List.all_eq_true.1 h _ (List.getElem_mem hj))
 unfold Val.ok
 omega
theorem TOk.ok {t:Tbl} (h:TOk t):t.ok:=by
 refine ⟨by have:=h.na;omega,by have:=h.nr;omega,fun j hj=>?_⟩
 rw [l4 _ j hj]
 obtain ⟨_,h2,h3⟩:=gm h.rs _ (List.getElem_mem hj)
 exact ⟨by have:=h.na;omega,ao2 h3⟩
theorem js.sub {l l':List Row} (h:js l) (hs:∀ x ∈ l',x ∈ l):js l':=by
 intro j hj
 rw [l4 _ j hj]
 obtain ⟨k,hk,e⟩:=List.getElem_of_mem (hs _ (List.getElem_mem hj))
 rw [← e,← l4 _ k hk]
 exact h k hk
theorem aid {t:Tbl} (h:c6 t = 0):t.ok:=(ek.1 h).ok
def dy (l:List Row) (k:Nat) (r:Row):List Row:=l.take k ++ r :: l.drop k
theorem lw {l:List Row} {k:Nat} {r:Row} (h:k ≤ l.length):(dy l k r).length = l.length + 1:=by simp [dy];omega
theorem xa {l:List Row} {k:Nat} {r:Row} (h:k ≤ l.length):(dy l k r).getD k default = r:=by
 simp [dy,List.getD,List.getElem?_append,h]
theorem sj {l:List Row} {k:Nat} {r:Row} (h0:0 < k) (h:k ≤ l.length):(dy l k r).getD (k - 1) default = l.getD (k - 1) default:=by
 simp only [dy,List.getD]
 rw [List.getElem?_append_left (by simp;omega),List.getElem?_take,if_pos (by omega)]
theorem ajh {l:List Row} {r:Row}:dy l l.length r = l ++ [r]:=by simp [dy]
theorem a0i {l:List Row} {k i:Nat} {r:Row} (h:k ≤ l.length):(dy l k r)[i]? = if i < k then l[i]? else if i = k then some r else l[i - 1]?:=by
 simp only [dy]
 by_cases h1:i < k
 · rw [if_pos h1,List.getElem?_append_left (by simp;omega),List.getElem?_take,if_pos h1]
 · rw [if_neg h1,List.getElem?_append_right (by simp;omega),List.length_take,Nat.min_eq_left h]
   by_cases h2:i = k
   · subst h2;simp
   · rw [if_neg h2]
     obtain ⟨d,rfl⟩:∃ d,i = k + 1 + d:=⟨i - k - 1,by omega⟩
     rw [show k + 1 + d - k = d + 1 by omega,List.getElem?_cons_succ,List.getElem?_drop]
     congr 1
     omega
theorem afu {l:List Row} {k:Nat} {r:Row} (h0:0 < k) (h:k ≤ l.length):((dy l k r).set k (l.getD (k - 1) default)).set (k - 1) r = dy l (k - 1) r:=by
 apply List.ext_getElem?
 intro i
 rw [a0i (by omega),List.getElem?_set,List.getElem?_set,List.length_set,lw h,a0i h]
 by_cases h1:k - 1 = i
 · subst h1
   rw [if_pos rfl,if_pos (by omega),if_neg (by omega),if_pos rfl]
 · rw [if_neg h1]
   by_cases h2:k = i
   · subst h2
     rw [if_pos rfl,if_pos (by omega),if_neg (by omega),if_neg (by omega),List.getD,List.getElem?_eq_getElem (by omega)]
     rfl
   · rw [if_neg h2]
     by_cases h3:i < k
     · rw [if_pos h3,if_pos (by omega)]
     · rw [if_neg h3,if_neg (by omega),if_neg (by omega),if_neg (by omega)]
theorem sk:∀ {l:List Row} {k:Nat} {r:Row},gc l → k ≤ l.length → (∀ j,k ≤ j → j < l.length → r.id < (l.getD j default).id) → (k = 0 ∨ ¬ r.id < (l.getD (k - 1) default).id) → dy l k r = jt r l
 | [],k,r,_,hk,_,_=>by
  obtain rfl:k = 0:=by simpa using hk
  rfl
 | x :: l,0,r,hs,hk,h1,h2=>by
  have:=h1 0 (Nat.le_refl _) (by simp)
  simp only [List.getD_cons_zero] at this
  simp [dy,jt,this]
 | x :: l,k + 1,r,hs,hk,h1,h2=>by
  have h2:=h2.resolve_left (by omega)
  unfold gc at hs
  rw [List.pairwise_cons] at hs
  have hx:¬ r.id < x.id:=by
   cases k with
   | zero=>simpa using h2
   | succ k =>
    have hk':k < l.length:=by simp at hk;omega
    simp only [Nat.add_sub_cancel,List.getD_cons_succ] at h2
    have:=hs.1 _ (List.getElem_mem hk')
    rw [l4 _ _ hk'] at h2
    omega
  have ih:=sk (l:=l) (k:=k) (r:=r) hs.2 (by simpa using hk) (fun j hj hl=>by
   have:=h1 (j + 1) (by omega) (by simpa using hl)
   simpa using this) (by
   cases k with
   | zero=>exact .inl rfl
   | succ k =>
    refine .inr ?_
    simp only [Nat.add_sub_cancel,List.getD_cons_succ] at h2 ⊢
    exact h2)
  simp only [jt,if_neg hx,← ih]
  simp [dy]
theorem xv {r:Row}:∀ {l:List Row},(jt r l).length = l.length + 1
 | []=>rfl
 | x :: l=>by
  simp only [jt]
  split
  · simp
  · simp [xv (l:=l)]
theorem gz {t:Tbl} {r:Row} {e:Int} (h:c4 t r = e) (he:e ≠ 0):gj t r = T0:=by rw [gj,if_neg (by rw [h];exact he)]
theorem l6 {t:Tbl} {r:Row} (h:c4 t r = 0):gj t r = ⟨t.name,t.attrs,jt r t.rows⟩:=by rw [gj,if_pos h]
theorem yo {t:Tbl} {i e:Int} (h:dq t i = e) (he:e ≠ 0):ml t i = T0:=by rw [ml,if_neg (by rw [h];exact he)]
theorem nu {t:Tbl} {i:Int} (h:dq t i = 0):ml t i = ⟨t.name,t.attrs,t.rows.eraseIdx (az t.rows i).toNat⟩:=by rw [ml,if_pos h]
theorem ks {t:Tbl} {i a e:Int} {v:Val} (h:cz t i a v = e) (he:e ≠ 0):chT t i a v = T0:=by rw [chT,if_neg (by rw [h];exact he)]
theorem qt {t:Tbl} {i a:Int} {v:Val} (h:cz t i a v = 0):chT t i a v = ⟨t.name,t.attrs,ll t.rows (az t.rows i).toNat a.toNat v⟩:=by rw [chT,if_pos h]
theorem a2r {t:Tbl} {r:Row} (h:c4 t r = 0):c6 t = 0 ∧ r.vals.length = t.attrs.length ∧ 0 < r.id ∧ r.vals.all dg = true ∧ az t.rows r.id < 0 ∧ t.rows.length < 1000:=by
 unfold c4 at h
 split at h
 · omega
 · split at h
   · omega
   · split at h
     · omega
     · split at h
       · omega
       · split at h
         · omega
         · rename_i h1 h2 h3 h4 h5
           rw [not_or] at h3
           exact ⟨by omega,by omega,by omega,by simpa using h3.2,by omega,by omega⟩
theorem abw {α:Type} {l:List α} {i:Nat}:l.take i ++ l.drop (i + 1) = l.eraseIdx i:=(List.eraseIdx_eq_take_drop_succ l i).symm
theorem ake {l:List Row} {k k' m':Nat} {r:Row} (h0:0 < k) (hk:k ≤ l.length) (h:((dy l k r).getD k' default).id < ((dy l k r).getD m' default).id) (hk':k' = k) (hm':m' = k - 1):r.id < (l.getD (k - 1) default).id:=by
 subst hk' hm'
 rwa [xa hk,sj h0 hk] at h
theorem ajl {l:List Row} {k k' m':Nat} {r:Row} (h0:0 < k) (hk:k ≤ l.length) (h:¬ ((dy l k r).getD k' default).id < ((dy l k r).getD m' default).id) (hk':k' = k) (hm':m' = k - 1):¬ r.id < (l.getD (k - 1) default).id:=by
 subst hk' hm'
 rwa [xa hk,sj h0 hk] at h
theorem ak8 {l:List Row} {k k' m':Nat} {r:Row} (h0:0 < k) (hk:k ≤ l.length) (hk':k' = k) (hm':m' = k - 1) {n:Nat} (hn:n = l.length + 1) {e:TypeId} :
 CoO (.arr true 2 e n (fz (fz (lf Row.c (dy l k r)) k' 0 [lf Row.c (dy l k r) m' 0,lf Row.c (dy l k r) m' 1]) m' 0 [lf Row.c (dy l k r) k' 0,lf Row.c (dy l k r) k' 1])) (.arr true 2 e n (lf Row.c (dy l (k - 1) r))):=by
 subst hk' hm'
 rw [← afu h0 hk]
 refine a6p (fun h=>h) (by rw [lw hk];exact hn) (by rw [lw hk];omega) (by rw [lw hk];omega) rfl rfl (lt2 ?_ ?_) (lt2 ?_ ?_)
 · exact CoP.of_eq (by show Row.c ((dy l k' r).getD (k' - 1) default) 0 = _;rw [sj h0 hk])
 · exact CoP.of_eq (by show Row.c ((dy l k' r).getD (k' - 1) default) 1 = _;rw [sj h0 hk])
 · exact CoP.of_eq (by show Row.c ((dy l k' r).getD k' default) 0 = _;rw [xa hk])
 · exact CoP.of_eq (by show Row.c ((dy l k' r).getD k' default) 1 = _;rw [xa hk])
theorem asw {l:List Row} {a b:Nat} (ha:a ≤ l.length) {f0:Nat → Nat → PV} {e:TypeId}:CoO (.arr true 2 e (0 + a + (l.length - b)) (eo (0 + a) (eo 0 f0 (lf Row.c l)) (fun i j=>lf Row.c l (b + i) j))) (.arr true 2 e (l.take a ++ l.drop b).length (lf Row.c (l.take a ++ l.drop b))):=by
 refine ⟨fun h=>h,rfl,rfl,by simp;omega,fun i j hi hj=>CoP.of_eq ?_⟩
 unfold eo
 rw [Nat.zero_add]
 simp only [Nat.not_lt_zero,if_false,Nat.sub_zero,lf,List.getD]
 by_cases h:i < a
 · rw [if_pos h,List.getElem?_append_left (by simp;omega),List.getElem?_take,if_pos h]
 · rw [if_neg h,List.getElem?_append_right (by simp;omega),List.getElem?_drop,List.length_take,Nat.min_eq_left ha]
theorem ye {l:List Row} {i k:Nat} {v:Val}:(ll l i k v).length = l.length:=by simp [ll]
theorem a7o {l:List Row} {i0 k k' m:Nat} {v:Val} {ps:List PV} {id:Nat} (hi0:i0 < l.length) (hm:m = (l.getD i0 default).vals.length) (hk:k < m) (hk':k' = k) (hp:ps.length = 3) (h:∀ j,j < 3 → CoP (ps.getD j .any) (v.c j)) :
 ∀ i j,i < l.length → j < 2 → (∃ n,n5 i0 (.ref id m) (lf Row.c l) i j = .ref id n ∧ n = m ∧ CoP (.sl m 3 false (fz (lf Val.c (l.getD i0 default).vals) k' 0 ps)) (lf Row.c (ll l i0 k v) i j)) ∨ CoH (n5 i0 (.ref id m) (lf Row.c l) i j) (.p (lf Row.c (ll l i0 k v) i j)):=by
 intro i j hi hj
 unfold n5
 by_cases hii:i = i0
 · subst hii
   rcases j with _ | _ | j
   · rw [if_neg (by omega)]
     refine .inr (CoP.of_eq ?_)
     unfold ll
     rw [qo rfl hi];rfl
   · rw [if_pos ⟨rfl,rfl⟩]
     refine .inl ⟨m,rfl,rfl, ?_⟩
     unfold ll
     rw [qo rfl hi]
     refine CoP.sl (by simp [hm]) (.inl rfl) (fun h=>h) fun a b ha hb=>?_
     unfold fz
     by_cases hak:a = k
     · rw [if_pos ⟨by omega,Nat.zero_le _,by omega⟩,qo hak (by omega),Nat.sub_zero];exact h b hb
     · rw [if_neg (by omega),uo hak];exact CoP.refl _
   · omega
 · rw [if_neg (by omega)]
   refine .inr (CoP.of_eq ?_)
   unfold ll
   rw [uo hii]
theorem zf {l:List Row} {id:Int} (h:0 ≤ az l id):(max (az l id) 0).toNat < l.length:=by
 have:=ah2 (p:=fun r:Row=>decide (r.id = id)) (l:=l)
 unfold az at *
 omega
theorem TOk.width {t:Tbl} (h:TOk t) {i:Nat} (hi:i < t.rows.length):(t.rows.getD i default).vals.length = t.attrs.length:=by
 rw [l4 _ _ hi]
 exact (gm h.rs _ (List.getElem_mem hi)).2.1
theorem arw {d:DB} {s:ByteArray} (h:¬ j9 d s < 0):(j9 d s).toNat < d.length:=by
 have:=ah2 (p:=fun t:Tbl=>decide (t.name = s)) (l:=d)
 unfold j9 at *
 omega
theorem dbV.at {d:DB} (h:dbV d) {s:ByteArray} (hs:¬ j9 d s < 0):TOk (qa d s):=ek.1 (h.2 _ (arw hs))
theorem apo {d:DB} {t:Tbl} (h:a3t d t = 0):c6 t = 0 ∧ j9 d t.name < 0 ∧ d.length < 50:=by
 unfold a3t at h
 split at h
 · omega
 · split at h
   · omega
   · split at h
     · omega
     · exact ⟨by omega,by omega,by omega⟩
theorem ap4 {l:List Row} {r:Row} {g:Nat → Nat → PV} {e:TypeId} (hg:∀ j,j < 2 → CoP (g 0 j) (r.c j)):CoO (.arr true 2 e (l.length + 1) (eo l.length (lf Row.c l) g)) (.arr true 2 e (l.length + 1) (lf Row.c (dy l l.length r))):=by
 rw [ajh]
 have:=ab1 (wr:=true) (wr':=true) (s:=2) (e:=e) (c:=Row.c) (l:=l) (g:=g) [r] (fun h=>h) (m:=1) rfl (fun i j hi hj=>by
  obtain rfl:i = 0:=by simpa using hi
  exact hg j hj)
 simpa using this
end Go.Hx
end
section
namespace Go.Hx
def agT (a b:Row):Nat → AS
 | 0=>0
 | i + 1=>if kj (a.vals.getD i default) (b.vals.getD i default) = 0 then agT a b i ||| ((1:AS) <<< i) else agT a b i
def agR (a b:Row):AS:=agT a b a.vals.length
theorem au2 {a b:Row} {i:Nat} (h:kj (a.vals.getD i default) (b.vals.getD i default) = 0):agT a b (i + 1) = agT a b i ||| ((1:AS) <<< i):=if_pos h
theorem a8w {a b:Row} {i:Nat} (h:¬ kj (a.vals.getD i default) (b.vals.getD i default) = 0):agT a b (i + 1) = agT a b i:=if_neg h
theorem a79 {a b:Row}:∀ (i k:Nat),k < 32 → (agT a b i).getLsbD k = (decide (k < i) && decide (a.vals.getD k default = b.vals.getD k default))
 | 0,k,hk=>by simp [agT]
 | i + 1,k,hk=>by
  unfold agT
  by_cases h:kj (a.vals.getD i default) (b.vals.getD i default) = 0
  · rw [if_pos h,BitVec.getLsbD_or,a79 i k hk,l3 i k hk]
    by_cases e:k = i
    · subst e
      rw [decide_eq_true (v6.1 h)];simp
    · have:(k < i + 1) = (k < i):=by apply propext;omega
      simp [e,this]
  · rw [if_neg h,a79 i k hk]
    by_cases e:k = i
    · subst e
      have:¬ a.vals.getD k default = b.vals.getD k default:=fun e=>h (v6.2 e)
      rw [decide_eq_false this];simp
    · have:(k < i + 1) = (k < i):=by apply propext;omega
      simp [this]
theorem a15 {a b:Row} {k:Nat} (hk:k < 32):(agR a b).getLsbD k = (decide (k < a.vals.length) && decide (a.vals.getD k default = b.vals.getD k default)):=a79 _ _ hk
theorem pw {a b:Row} (h:a.vals.length = b.vals.length):agR a b = agR b a:=by
 apply BitVec.eq_of_getLsbD_eq
 intro i hi
 rw [a15 hi,a15 hi,h,decide_eq_decide.2 (show a.vals.getD i default = b.vals.getD i default ↔ b.vals.getD i default = a.vals.getD i default from eq_comm)]
def prs:List Row → List AS
 | []=>[]
 | r :: l=>l.map (agR r) ++ prs l
def xq (l:List Row) (i:Nat):List AS:=(l.drop (i + 1)).map (agR (l.getD i default))
def l7 (l:List Row) (i k:Nat):List AS:=((List.range i).map (xq l)).flatten ++ ((xq l i).take (k - (i + 1)))
theorem ag7:∀ l:List Row,prs l = ((List.range l.length).map (xq l)).flatten
 | []=>rfl
 | r :: l=>by
  rw [prs,ag7 l,List.length_cons,List.range_succ_eq_map,List.map_cons,List.flatten_cons,List.map_map]
  rfl
theorem a7q (l:List Row):l7 l 0 1 = []:=by simp [l7]
theorem a00 (l:List Row) (i:Nat):(xq l i).length = l.length - (i + 1):=by simp [xq]
theorem a8a {l:List Row} {i k:Nat} (hi:i < k) (hk:k < l.length):l7 l i (k + 1) = l7 l i k ++ [agR (l.getD i default) (l.getD k default)]:=by
 unfold l7
 rw [List.append_assoc]
 congr 1
 rw [show k + 1 - (i + 1) = (k - (i + 1)) + 1 by omega,List.take_add_one]
 congr 1
 unfold xq
 rw [List.getElem?_map,List.getElem?_drop,show i + 1 + (k - (i + 1)) = k by omega,List.getElem?_eq_getElem hk,List.getD_eq_getElem?_getD (l:=l) (i:=k),List.getElem?_eq_getElem hk]
 rfl
theorem a8j {l:List Row} {i k:Nat} (hk:l.length ≤ k):l7 l i k = l7 l (i + 1) (i + 1 + 1):=by
 unfold l7
 rw [List.take_of_length_le (by rw [a00];omega),List.range_succ,List.map_append,List.flatten_append,Nat.sub_self,List.take_zero,List.append_nil]
 simp
theorem alj (l:List Row):l7 l l.length (l.length + 1) = prs l:=by
 unfold l7
 rw [ag7,Nat.sub_self,List.take_zero,List.append_nil]
theorem a1m:∀ l:List Row,(prs l).length ≤ l.length * l.length
 | []=>by simp [prs]
 | r :: l=>by
  have:=a1m l
  simp only [prs,List.length_append,List.length_map,List.length_cons]
  rw [Nat.add_mul,Nat.mul_add];omega
theorem abm (l:List Row) (i k:Nat) (hi:i ≤ l.length):(l7 l i k).length ≤ l.length * l.length + l.length:=by
 unfold l7
 rw [List.length_append,List.length_take,a00]
 have h:∀ i,i ≤ l.length → (((List.range i).map (xq l)).flatten).length ≤ i * l.length:=by
  intro i
  induction i with
  | zero=>intro _;simp
  | succ i ih =>
   intro hi
   rw [List.range_succ,List.map_append,List.flatten_append,List.length_append]
   have:=ih (by omega)
   have h2:=a00 l i
   simp only [List.map_cons,List.map_nil,List.flatten_cons,List.flatten_nil,List.append_nil]
   rw [Nat.add_mul];omega
 have h1:=h i hi
 have h2:i * l.length ≤ l.length * l.length:=Nat.mul_le_mul_right _ hi
 omega
theorem xe:∀ {l:List Row} {p:AS},p ∈ prs l ↔ ∃ i k,i < k ∧ k < l.length ∧ p = agR (l.getD i default) (l.getD k default)
 | [],p=>by simp [prs]
 | r :: l,p=>by
  rw [prs,List.mem_append,xe,List.mem_map]
  constructor
  · rintro (⟨x,hx,rfl⟩ | ⟨i,k,h1,h2,rfl⟩)
    · obtain ⟨k,hk,rfl⟩:=List.getElem_of_mem hx
      refine ⟨0,k + 1,by omega,by simpa using hk, ?_⟩
      simp [List.getD,hk]
    · exact ⟨i + 1,k + 1,by omega,by simpa using h2,by simp⟩
  · rintro ⟨i,k,h1,h2,rfl⟩
    obtain ⟨k,rfl⟩:∃ k',k = k' + 1:=⟨k - 1,by omega⟩
    have hk:k < l.length:=by simpa using h2
    cases i with
    | zero=>exact .inl ⟨l[k],List.getElem_mem hk,by simp [List.getD,hk]⟩
    | succ i=>exact .inr ⟨i,k,by omega,hk,by simp⟩
def Wid (n:Nat) (l:List Row):Prop:=∀ x ∈ l,x.vals.length = n
theorem a0l {n:Nat}:∀ {l:List Row} {i:Nat},Wid n l → i < l.length → ∀ s,(prs l).count s = (prs (l.eraseIdx i)).count s + ((l.eraseIdx i).map fun x=>agR x (l.getD i default)).count s
 | [],i,_,hi,s=>absurd hi (Nat.not_lt_zero _)
 | r :: l,0,hw,_,s=>by
  have e:l.map (agR r) = l.map fun x=>agR x r:=List.map_congr_left fun x hx=>pw (by rw [hw r (by simp),hw x (by simp [hx])])
  simp only [prs,List.eraseIdx_cons_zero,List.getD_cons_zero,List.count_append,e]
  omega
 | r :: l,i + 1,hw,hi,s=>by
  have hi':i < l.length:=by simpa using hi
  have ih:=a0l (l:=l) (i:=i) (fun x hx=>hw x (by simp [hx])) hi' s
  simp only [prs,List.eraseIdx_cons_succ,List.getD_cons_succ,List.count_append,List.map_cons,List.count_cons,ih]
  have hperm:((l.map (agR r)).count s) = (((l.eraseIdx i).map (agR r)).count s) + (if agR r (l.getD i default) == s then 1 else 0):=by
   have hl:l = l.take i ++ l.getD i default :: l.drop (i + 1):=by
    rw [List.getD_eq_getElem?_getD,List.getElem?_eq_getElem hi',Option.getD_some,← List.drop_eq_getElem_cons hi',List.take_append_drop]
   have he:l.eraseIdx i = l.take i ++ l.drop (i + 1):=List.eraseIdx_eq_take_drop_succ l i
   rw [he]
   conv=>lhs;rw [hl]
   simp only [List.map_append,List.map_cons,List.count_append,List.count_cons]
   omega
  rw [hperm]
  omega
def cw (l:List Row) (s:AS):Int:=((prs l).count s:Int)
def f5 (l:List Row) (r:Row) (y:Int) (c:AS → Int):AS → Int:=fun s=>c s + y * (((l.filter fun x=>decide (x.id ≠ r.id)).map fun x=>agR x r).count s:Int)
theorem ah8 (r:Row) (y:Int) (c:AS → Int):f5 [] r y c = c:=by funext s;simp [f5]
theorem zg {l:List Row} {i:Nat} {r:Row} {y:Int} {c:AS → Int} (hi:i < l.length) (h:(l.getD i default).id = r.id):f5 (l.take (i + 1)) r y c = f5 (l.take i) r y c:=by
 funext s
 unfold f5
 have e:([l.getD i default].filter fun x=>decide (x.id ≠ r.id)) = []:=by
  rw [List.filter_cons,if_neg (by simpa using h)];rfl
 rw [c8 hi,List.filter_append,e,List.append_nil]
theorem agm {l:List Row} {i:Nat} {r:Row} {y:Int} {c:AS → Int} (hi:i < l.length) (h:¬ (l.getD i default).id = r.id):f5 (l.take (i + 1)) r y c = fun s=>if s = agR (l.getD i default) r then f5 (l.take i) r y c s + y else f5 (l.take i) r y c s:=by
 funext s
 unfold f5
 rw [c8 hi,List.filter_append]
 have e:(agR (l.getD i default) r == s) = decide (s = agR (l.getD i default) r):=by
  rw [Bool.eq_iff_iff,beq_iff_eq,decide_eq_true_iff];exact eq_comm
 simp only [ne_eq,h,not_false_eq_true,decide_true,List.filter_cons,if_true,List.filter_nil,List.map_append,List.map_cons,List.map_nil,List.count_append,List.count_cons,List.count_nil,e,decide_eq_true_eq]
 by_cases hs:s = agR (l.getD i default) r
 · rw [if_pos hs,if_pos hs]
   push_cast
   rw [Int.mul_add]
   omega
 · rw [if_neg hs,if_neg hs]
   simp
theorem a89 {l:List Row} (hs:gc l) {i:Nat} (hi:i < l.length):(l.filter fun x=>decide (x.id ≠ (l.getD i default).id)) = l.eraseIdx i:=by
 have hl:l = l.take i ++ l.getD i default :: l.drop (i + 1):=by
  rw [List.getD_eq_getElem?_getD,List.getElem?_eq_getElem hi,Option.getD_some,← List.drop_eq_getElem_cons hi,List.take_append_drop]
 rw [List.eraseIdx_eq_take_drop_succ]
 generalize l.getD i default = r at *
 generalize l.take i = u at *
 generalize l.drop (i + 1) = v at *
 subst hl
 obtain ⟨_,h2,h3⟩:=List.pairwise_append.1 hs
 obtain ⟨h4,_⟩:=List.pairwise_cons.1 h2
 rw [List.filter_append,List.filter_cons]
 rw [List.filter_eq_self.2 fun x hx=>decide_eq_true (by have:=h3 x hx r (by simp);omega),List.filter_eq_self.2 fun x hx=>decide_eq_true (by have:=h4 x hx;omega)]
 simp
theorem ae9 {n:Nat} {l:List Row} {i:Nat} (hw:Wid n l) (hs:gc l) (hi:i < l.length):f5 l (l.getD i default) (-1) (cw l) = cw (l.eraseIdx i):=by
 funext s
 unfold f5 cw
 rw [a89 hs hi,a0l hw hi s]
 push_cast
 omega
theorem adr {n:Nat} {l:List Row} {i:Nat} (hw:Wid n l) (hs:gc l) (hi:i < l.length):f5 l (l.getD i default) 1 (cw (l.eraseIdx i)) = cw l:=by
 funext s
 unfold f5 cw
 rw [a89 hs hi,a0l hw hi s]
 push_cast
 omega
theorem amy (l:List Row) (s:AS):0 ≤ cw l s:=Int.natCast_nonneg _
theorem a9s {l:List Row} {s:AS}:cw l s ≠ 0 ↔ s ∈ prs l:=by
 unfold cw
 rw [← List.count_pos_iff (a:=s) (l:=prs l)]
 omega
theorem ano (l:List Row) (s:AS):cw l s ≤ l.length * l.length:=by
 unfold cw
 have h1:=List.count_le_length (a:=s) (l:=prs l)
 have h2:=a1m l
 exact_mod_cast Nat.le_trans h1 h2
end Go.Hx
end

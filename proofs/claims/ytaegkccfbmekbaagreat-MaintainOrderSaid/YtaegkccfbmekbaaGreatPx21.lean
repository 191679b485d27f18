/- A part of the proof: Mi1 Sp1 Sp2 Sp3 Sp4 Ma1. -/
import Derived.Test.YtaegkccfbmekbaaGreatPx17
import Derived.Test.YtaegkccfbmekbaaGreatPx20
set_option linter.all false
section
namespace Go.Hx
def abe (a b:AS):Bool:=tz b a
def tw (l:List AS):List AS:=a92 abe l
def okM (l:List AS) (i k:Nat):Bool:=(List.range k).all fun j=>decide (j = i) || !tz (l.getD j default) (l.getD i default)
theorem ak4 (l:List AS) (i k:Nat):okM l i (k + 1) = (okM l i k && (decide (k = i) || !tz (l.getD k default) (l.getD i default))):=by
 unfold okM
 rw [List.range_succ,List.all_append]
 simp
theorem okM_succ' (l:List AS) (i k:Nat):okM l i (k + 1) = (okM l i k && (decide ((k:Int) = i) || !tz (l.getD k default) (l.getD i default))):=by
 rw [ak4,decide_eq_decide.2 (show (k:Int) = i ↔ k = i by omega)]
theorem aec {l:List AS} {i:Nat} (hn:l.Nodup) (hi:i < l.length):okM l i l.length = !xo abe l (l.getD i default):=by
 rw [Bool.eq_iff_iff]
 unfold okM xo abe
 rw [List.all_eq_true,Bool.not_eq_true',List.any_eq_false]
 constructor
 · intro h b hb hc
   obtain ⟨j,hj,rfl⟩:=List.getElem_of_mem hb
   have:=h j (List.mem_range.2 hj)
   simp only [Bool.and_eq_true,decide_eq_true_eq,Bool.or_eq_true,Bool.not_eq_true',List.getD_eq_getElem?_getD,List.getElem?_eq_getElem hj,List.getElem?_eq_getElem hi,Option.getD_some] at this hc
   rcases this with h1 | h1
   · subst h1;exact hc.1 rfl
   · rw [hc.2] at h1;cases h1
 · intro h j hj
   have hj:=List.mem_range.1 hj
   have:=h l[j] (List.getElem_mem hj)
   simp only [List.getD_eq_getElem?_getD,List.getElem?_eq_getElem hj,List.getElem?_eq_getElem hi,Option.getD_some,Bool.or_eq_true,decide_eq_true_eq,Bool.not_eq_true',Bool.and_eq_true] at this ⊢
   by_cases e:j = i
   · exact .inl e
   · right
     rw [Bool.eq_false_iff]
     intro hs
     refine this ⟨fun he=>e ?_,hs⟩
     exact ((List.getElem_inj hn).1 he).symm
def mn (l:List AS) (i:Nat):List AS:=((ord l).take i).filter fun x=>!xo abe (ord l) x
theorem a1a {l:List AS} {i:Nat} (hi:i < (ord l).length) (h:okM (ord l) i (ord l).length = true):mn l (i + 1) = mn l i ++ [(ord l).getD i default]:=by
 rw [aec (a80 l) hi] at h
 unfold mn
 rw [ce hi,List.filter_append]
 simp only [List.filter_cons,h,if_true,List.filter_nil]
theorem a17 {l:List AS} {i:Nat} (hi:i < (ord l).length) (h:okM (ord l) i (ord l).length = false):mn l (i + 1) = mn l i:=by
 rw [aec (a80 l) hi] at h
 unfold mn
 rw [ce hi,List.filter_append]
 simp only [List.filter_cons,h,Bool.false_eq_true,if_false,List.filter_nil,List.append_nil]
theorem ah8 (l:List AS) (i:Nat):(mn l i).length ≤ i:=by
 unfold mn
 exact Nat.le_trans (List.length_filter_le _ _) (by rw [List.length_take];omega)
theorem agt (l:List AS):mn l (ord l).length = tw l:=by
 unfold mn tw a92
 rw [List.take_length]
theorem ajr {l:List AS} {z:AS}:z ∈ tw l ↔ z ∈ l ∧ ∀ b ∈ l,sub b z → b = z:=by
 unfold tw a92
 rw [List.mem_filter,tc,Bool.not_eq_true',Bool.eq_false_iff]
 refine and_congr Iff.rfl ?_
 unfold xo abe tz
 rw [Ne,List.any_eq_true]
 constructor
 · intro h b hb hs
   apply Classical.byContradiction
   intro hne
   exact h ⟨b,tc.2 hb,by rw [Bool.and_eq_true,decide_eq_true_eq,decide_eq_true_eq];exact ⟨fun e=>hne e.symm,hs⟩⟩
 · rintro h ⟨b,hb,hc⟩
   rw [Bool.and_eq_true,decide_eq_true_eq,decide_eq_true_eq] at hc
   exact hc.1 (h b (tc.1 hb) hc.2).symm
theorem ac6 (l:List AS):iz (tw l):=List.Pairwise.filter _ (fe l)
theorem alf (l:List AS):(tw l).length ≤ l.length:=Nat.le_trans (List.length_filter_le _ _) (su l)
def mr (p:AS → Bool) (o:List AS) (x:AS):List AS:=if p x && !(o.any fun y=>decide (sub y x)) then o ++ [x] else o
def i5 (p:AS → Bool) (l:List AS):List AS:=l.foldl (mr p) []
theorem lq (p:AS → Bool) (l:List AS) (x:AS):i5 p (l ++ [x]) = mr p (i5 p l) x:=by
 unfold i5;rw [List.foldl_append];rfl
theorem aeb {y x:AS} (h:sub y x) (hne:y ≠ x):bef y x = true:=by
 rw [gq]
 have h1:=a5x h
 have h2:=ab6 h hne
 omega
theorem zr (p:AS → Bool):∀ l:List AS,iz l → (∀ x ∈ l,∀ y,sub y x → y ∈ l) → ∀ z,z ∈ i5 p l ↔ z ∈ l ∧ p z = true ∧ ∀ y,sub y z → p y = true → y = z:=by
 intro l
 have key:∀ n,∀ l:List AS,l.length = n → iz l → (∀ x ∈ l,∀ y,sub y x → y ∈ l) → ∀ z,z ∈ i5 p l ↔ z ∈ l ∧ p z = true ∧ ∀ y,sub y z → p y = true → y = z:=by
  intro n
  induction n with
  | zero =>
   intro l hl _ _ z
   obtain rfl:=List.eq_nil_of_length_eq_zero hl
   simp [i5]
  | succ n ih =>
   intro l hl ho hc z
   obtain ⟨l',x,rfl⟩:∃ l' x,l = l' ++ [x]:=by
    have hne:l ≠ []:=fun e=>by subst e;cases hl
    exact ⟨l.dropLast,l.getLast hne,(List.dropLast_concat_getLast hne).symm⟩
   have hl':l'.length = n:=by simpa using hl
   obtain ⟨ho1,_,ho2⟩:=List.pairwise_append.1 ho
   have hx:∀ y ∈ l',bef y x = true:=fun y hy=>ho2 y hy x (by simp)
   have hc':∀ w ∈ l',∀ y,sub y w → y ∈ l':=fun w hw y hy=>by
    rcases List.mem_append.1 (hc w (by simp [hw]) y hy) with h | h
    · exact h
    · obtain rfl:y = x:=by simpa using h
      by_cases e:y = w
      · subst e;exact hw
      · have:=a3a (aeb hy e)
        rw [hx w hw] at this;cases this
   have hin:∀ y,sub y x → y ≠ x → y ∈ l':=fun y hy hne=>by
    rcases List.mem_append.1 (hc x (by simp) y hy) with h | h
    · exact h
    · exact absurd (by simpa using h) hne
   have hxn:x ∉ l':=fun h=>by have:=hx x h;rw [l6] at this;cases this
   have ih':=ih l' hl' ho1 hc'
   have below:∀ k (y:AS),y.toNat ≤ k → y ∈ l' → p y = true → ∃ y',sub y' y ∧ y' ∈ i5 p l':=by
    intro k
    induction k with
    | zero =>
     intro y hk hy hp
     refine ⟨y,yx y,(ih' y).2 ⟨hy,hp,fun w hw _=>?_⟩⟩
     apply Classical.byContradiction
     intro hne
     have h2:=ab6 hw hne
     omega
    | succ k ihk =>
     intro y hk hy hp
     by_cases hm:∀ w,sub w y → p w = true → w = y
     · exact ⟨y,yx y,(ih' y).2 ⟨hy,hp,hm⟩⟩
     · obtain ⟨w,hw⟩:=Classical.not_forall.1 hm
       obtain ⟨hw1,hw⟩:=Classical.not_imp.1 hw
       obtain ⟨hw2,hw3⟩:=Classical.not_imp.1 hw
       have h2:=ab6 hw1 hw3
       obtain ⟨y',h1,h3⟩:=ihk w (by omega) (hc' y hy w hw1) hw2
       exact ⟨y',ru h1 hw1,h3⟩
   rw [lq]
   unfold mr
   by_cases hp:p x = true
   · by_cases ha:∃ y ∈ i5 p l',sub y x
     · obtain ⟨y,hy,hs⟩:=ha
       have hany:((i5 p l').any fun y=>decide (sub y x)) = true:=List.any_eq_true.2 ⟨y,hy,decide_eq_true hs⟩
       rw [hp,hany]
       simp only [Bool.not_true,Bool.and_false,Bool.false_eq_true,if_false]
       rw [ih' z]
       constructor
       · rintro ⟨h1,h2⟩;exact ⟨by simp [h1],h2⟩
       · rintro ⟨h1,h2⟩
         rcases List.mem_append.1 h1 with h | h
         · exact ⟨h,h2⟩
         · obtain rfl:z = x:=by simpa using h
           obtain ⟨q1,q2,_⟩:=(ih' y).1 hy
           exact absurd (h2.2 y hs q2 ▸ q1) hxn
     · have hany:((i5 p l').any fun y=>decide (sub y x)) = false:=by
        rw [List.any_eq_false]
        intro y hy hd
        exact ha ⟨y,hy,of_decide_eq_true hd⟩
       rw [hp,hany]
       simp only [Bool.not_false,Bool.and_true,if_true]
       rw [List.mem_append,ih' z,List.mem_append,List.mem_singleton]
       constructor
       · rintro (⟨h1,h2⟩ | rfl)
         · exact ⟨.inl h1,h2⟩
         · refine ⟨.inr rfl,hp,fun y hy hpy=>?_⟩
           apply Classical.byContradiction
           intro hne
           obtain ⟨y',h1,h2⟩:=below y.toNat y (Nat.le_refl _) (hin y hy hne) hpy
           exact ha ⟨y',h2,ru h1 hy⟩
       · rintro ⟨h1 | h1,h2⟩
         · exact .inl ⟨h1,h2⟩
         · exact .inr h1
   · have hp:p x = false:=by simpa using hp
     rw [hp]
     simp only [Bool.false_and,Bool.false_eq_true,if_false]
     rw [ih' z]
     constructor
     · rintro ⟨h1,h2⟩;exact ⟨by simp [h1],h2⟩
     · rintro ⟨h1,h2,h3⟩
       rcases List.mem_append.1 h1 with h | h
       · exact ⟨h,h2,h3⟩
       · obtain rfl:z = x:=by simpa using h
         rw [hp] at h2;cases h2
 exact key l.length l rfl
theorem tq (p:AS → Bool):∀ l:List AS,(i5 p l).Sublist l:=by
 intro l
 have:∀ n,∀ l:List AS,l.length = n → (i5 p l).Sublist l:=by
  intro n
  induction n with
  | zero =>
   intro l hl
   obtain rfl:=List.eq_nil_of_length_eq_zero hl
   exact List.Sublist.refl _
  | succ n ih =>
   intro l hl
   obtain ⟨l',x,rfl⟩:∃ l' x,l = l' ++ [x]:=by
    have hne:l ≠ []:=fun e=>by subst e;cases hl
    exact ⟨l.dropLast,l.getLast hne,(List.dropLast_concat_getLast hne).symm⟩
   rw [lq]
   have h:=ih l' (by simpa using hl)
   unfold mr
   split
   · exact h.append (List.Sublist.refl _)
   · exact h.trans (List.sublist_append_left _ _)
 exact this l.length l rfl
theorem ale {p:AS → Bool} {l:List AS} (h:iz l):iz (i5 p l):=h.sublist (tq p l)
theorem a8k {p:AS → Bool} {s:AS} {l:List AS} (hl:∀ z,z ∈ l ↔ sub z s ∧ p z = true):i5 p (p8 s) = tw l:=by
 refine l5 (ale (fe _)) (ac6 _) fun z=>?_
 rw [zr p (p8 s) (fe _) (fun x hx y hy=>ly.2 (ru hy (ly.1 hx))),ajr,ly,hl]
 constructor
 · rintro ⟨h1,h2,h3⟩
   exact ⟨⟨h1,h2⟩,fun b hb hs=>h3 b hs ((hl b).1 hb).2⟩
 · rintro ⟨⟨h1,h2⟩,h3⟩
   exact ⟨h1,h2,fun y hy hp=>h3 y ((hl y).2 ⟨ru hy h1,hp⟩) hy⟩
end Go.Hx
end
section
namespace Go.Hx
def sgn (a b:Int):Int:=if a < b then -1 else if b < a then 1 else 0
def bAt (s:ByteArray) (i:Nat):Int:=ct s i
def ks:List UInt8 → List UInt8 → Int
 | [],[]=>0
 | [],_ :: _=>-1
 | _ :: _,[]=>1
 | x :: xs,y :: ys=>if x = y then ks xs ys else sgn x.toNat y.toNat
abbrev bl (s:ByteArray):List UInt8:=s.data.toList
def md (a b:ByteArray):Int:=ks (bl a) (bl b)
theorem ia (s:ByteArray):(bl s).length = s.size:=Array.length_toList
theorem a8l:∀ (i:Nat) (a b:List UInt8),i < a.length → i < b.length → a.getD i 0 = b.getD i 0 → ks (a.drop i) (b.drop i) = ks (a.drop (i + 1)) (b.drop (i + 1))
 | 0,x :: xs,y :: ys,_,_,h=>by
  simp only [List.getD_cons_zero] at h
  simp [ks,h]
 | i + 1,x :: xs,y :: ys,h1,h2,h=>by
  simp only [List.getD_cons_succ] at h
  simpa using a8l i xs ys (by simpa using h1) (by simpa using h2) h
 | _,[],_,h1,_,_=>by simp at h1
 | _,_ :: _,[],_,h2,_=>by simp at h2
theorem a7n:∀ (i:Nat) (a b:List UInt8),i < a.length → i < b.length → a.getD i 0 ≠ b.getD i 0 → ks (a.drop i) (b.drop i) = sgn (a.getD i 0).toNat (b.getD i 0).toNat
 | 0,x :: xs,y :: ys,_,_,h=>by
  simp only [List.getD_cons_zero] at h
  simp [ks,h]
 | i + 1,x :: xs,y :: ys,h1,h2,h=>by
  simp only [List.getD_cons_succ] at h ⊢
  simpa using a7n i xs ys (by simpa using h1) (by simpa using h2) h
 | _,[],_,h1,_,_=>by simp at h1
 | _,_ :: _,[],_,h2,_=>by simp at h2
theorem a2q:∀ (i:Nat) (a b:List UInt8),i ≤ a.length → i ≤ b.length → (i = a.length ∨ i = b.length) → ks (a.drop i) (b.drop i) = sgn a.length b.length
 | 0,[],[],_,_,_=>by simp [ks,sgn]
 | 0,[],_ :: _,_,_,_=>by simp [ks,sgn] <;> omega
 | 0,_ :: _,[],_,_,_=>by simp [ks,sgn] <;> omega
 | 0,_ :: _,_ :: _,_,_,h=>by simp at h
 | i + 1,x :: xs,y :: ys,h1,h2,h=>by
  have:=a2q i xs ys (by simpa using h1) (by simpa using h2) (by simpa using h)
  simp only [List.drop_succ_cons,this,List.length_cons,sgn]
  repeat' split
  all_goals first | rfl | omega
 | i + 1,[],_,h1,_,_=>by simp at h1
 | i + 1,_ :: _,[],_,h2,_=>by simp at h2
theorem a7u:∀ {a b:List UInt8},ks a b = 0 ↔ a = b
 | [],[]=>by simp [ks]
 | [],_ :: _=>by simp [ks]
 | _ :: _,[]=>by simp [ks]
 | x :: xs,y :: ys=>by
  simp only [ks]
  by_cases h:x = y
  · simp [h,a7u]
  · have:¬ x.toNat = y.toNat:=fun e=>h (UInt8.toNat_inj.1 e)
    simp only [h,if_false,sgn,List.cons.injEq,false_and,iff_false]
    repeat' split
    all_goals omega
theorem a4t (a b:ByteArray) (i j:Nat):ct a i = ct b j ↔ (bl a).getD i 0 = (bl b).getD j 0:=by
 unfold ct
 rw [Int.natCast_inj,UInt8.toNat_inj]
theorem aco {a b:ByteArray}:md a b = 0 ↔ a = b:=by
 unfold md
 rw [a7u]
 exact ⟨fun h=>ByteArray.ext (Array.ext' h),fun h=>by rw [h]⟩
def kp (a b:Val):Int :=
 if sgn a.kind b.kind ≠ 0 then sgn a.kind b.kind else if sgn a.num b.num ≠ 0 then sgn a.num b.num else md a.str b.str
theorem pe {a b:Int}:sgn a b = 0 ↔ a = b:=by
 unfold sgn
 repeat' split
 all_goals omega
theorem vo {a b:Val}:kp a b = 0 ↔ a = b:=by
 unfold kp
 cases a;cases b
 simp only [Val.mk.injEq]
 split
 · rename_i h;rw [Ne,pe] at h
   constructor
   · intro e;rw [pe] at e;exact absurd e h
   · rintro ⟨e,_⟩;exact absurd e h
 · rename_i h;rw [Ne,pe,Classical.not_not] at h
   split
   · rename_i h2;rw [Ne,pe] at h2
     constructor
     · intro e;rw [pe] at e;exact absurd e h2
     · rintro ⟨_,e,_⟩;exact absurd e h2
   · rename_i h2;rw [Ne,pe,Classical.not_not] at h2
     rw [aco]
     exact ⟨fun e=>⟨h,h2,e⟩,fun e=>e.2.2⟩
def ik:List Val → List Val → Int
 | [],[]=>0
 | [],_ :: _=>-1
 | _ :: _,[]=>1
 | x :: xs,y :: ys=>if kp x y ≠ 0 then kp x y else ik xs ys
theorem a5g:∀ (i:Nat) (a b:List Val),i < a.length → i < b.length → kp (a.getD i default) (b.getD i default) = 0 → ik (a.drop i) (b.drop i) = ik (a.drop (i + 1)) (b.drop (i + 1))
 | 0,x :: xs,y :: ys,_,_,h=>by
  simp only [List.getD_cons_zero] at h
  simp [ik,h]
 | i + 1,x :: xs,y :: ys,h1,h2,h=>by
  simp only [List.getD_cons_succ] at h
  simpa using a5g i xs ys (by simpa using h1) (by simpa using h2) h
 | _,[],_,h1,_,_=>by simp at h1
 | _,_ :: _,[],_,h2,_=>by simp at h2
theorem a4n:∀ (i:Nat) (a b:List Val),i < a.length → i < b.length → kp (a.getD i default) (b.getD i default) ≠ 0 → ik (a.drop i) (b.drop i) = kp (a.getD i default) (b.getD i default)
 | 0,x :: xs,y :: ys,_,_,h=>by
  simp only [List.getD_cons_zero] at h
  simp [ik,h]
 | i + 1,x :: xs,y :: ys,h1,h2,h=>by
  simp only [List.getD_cons_succ] at h ⊢
  simpa using a4n i xs ys (by simpa using h1) (by simpa using h2) h
 | _,[],_,h1,_,_=>by simp at h1
 | _,_ :: _,[],_,h2,_=>by simp at h2
theorem zw:∀ (i:Nat) (a b:List Val),i ≤ a.length → i ≤ b.length → (i = a.length ∨ i = b.length) → ik (a.drop i) (b.drop i) = sgn a.length b.length
 | 0,[],[],_,_,_=>by simp [ik,sgn]
 | 0,[],_ :: _,_,_,_=>by simp [ik,sgn] <;> omega
 | 0,_ :: _,[],_,_,_=>by simp [ik,sgn] <;> omega
 | 0,_ :: _,_ :: _,_,_,h=>by simp at h
 | i + 1,x :: xs,y :: ys,h1,h2,h=>by
  have:=zw i xs ys (by simpa using h1) (by simpa using h2) (by simpa using h)
  simp only [List.drop_succ_cons,this,List.length_cons,sgn]
  repeat' split
  all_goals first | rfl | omega
 | i + 1,[],_,h1,_,_=>by simp at h1
 | i + 1,_ :: _,[],_,h2,_=>by simp at h2
theorem a5f:∀ {a b:List Val},ik a b = 0 ↔ a = b
 | [],[]=>by simp [ik]
 | [],_ :: _=>by simp [ik]
 | _ :: _,[]=>by simp [ik]
 | x :: xs,y :: ys=>by
  simp only [ik]
  split
  · rename_i h
    refine ⟨fun e=>absurd e h,fun e=>?_⟩
    simp only [List.cons.injEq] at e
    exact absurd (vo.2 e.1) h
  · rename_i h
    rw [Ne,Classical.not_not,vo] at h
    simp [h,a5f]
end Go.Hx
end
section
namespace Go.Hx
abbrev emp:ByteArray:=⟨#[]⟩
def cu (v:Val):Bool :=
 if v.kind = 0 then decide (v.num = 0) && decide (v.str = emp)
 else if v.kind = 1 then decide (v.str = emp)
 else if v.kind = 2 then decide (v.num = 0) && decide (v.str.size ≤ 200)
 else decide (v.kind = 3) && decide (1 ≤ v.num) && decide (v.str = emp)
def Val.ok (v:Val):Prop:=v.str.size ≤ 68719476736
def rh (l:List Val):Prop:=∀ j,j < l.length → (l.getD j default).ok
def Row.ok (r:Row):Prop:=r.vals.length ≤ 68719476736 ∧ rh r.vals
def jx (l:List Row):Prop:=∀ j,j < l.length → (l.getD j default).ok
def Tbl.ok (t:Tbl):Prop:=t.attrs.length ≤ 68719476736 ∧ t.rows.length ≤ 68719476736 ∧ jx t.rows
def avk (d:DB):Prop:=d.length ≤ 68719476736 ∧ ∀ j,j < d.length → Tbl.ok (d.getD j default)
def Chg.ok (x:Chg):Prop:=x.table.ok ∧ x.row.ok ∧ x.value.ok
def ati (l:List Chg):Prop:=∀ j,j < l.length → (l.getD j default).ok
def ltr (c:Int):Bool:=(decide (97 ≤ c) && decide (c ≤ 122)) || (decide (65 ≤ c) && decide (c ≤ 90)) || decide (c = 95)
def dig (c:Int):Bool:=decide (48 ≤ c) && decide (c ≤ 57)
abbrev af6:ByteArray:=⟨#[110,117,108,108]⟩
def a9p (s:ByteArray):Bool:=(List.range s.size).all fun i=>ltr (ct s i) || dig (ct s i)
def i7 (s:ByteArray):Bool:=decide (s.size ≠ 0) && decide (s.size ≤ 24) && ltr (ct s 0) && decide (s ≠ af6) && a9p s
def a6j (l:List ByteArray) (s:ByteArray):Int:=idx (fun x=>decide (x = s)) l
def mh (l:List ByteArray) (i:Nat):Bool:=i7 (l.getD i default) && decide (a6j (l.take i) (l.getD i default) < 0)
def vl (l:List ByteArray):Bool:=(List.range l.length).all (mh l)
def eg (n:Nat) (before:Int):List Row → Int
 | []=>0
 | r :: rs=>if r.id ≤ before then 1 else if r.vals.length ≠ n then 6 else if (r.vals.all cu) = false then 1 else eg n r.id rs
def c6 (t:Tbl):Int :=
 if i7 t.name = false then 1 else if 16 < t.attrs.length ∨ 1000 < t.rows.length then 3 else if vl t.attrs = false then 1 else eg t.attrs.length 0 t.rows
theorem ack {n:Nat} {l:List Row} {i:Nat} {b:Int} (hi:i < l.length):eg n b (l.drop i) = if (l.getD i default).id ≤ b then 1 else if (l.getD i default).vals.length ≠ n then 6 else if ((l.getD i default).vals.all cu) = false then 1 else eg n (l.getD i default).id (l.drop (i + 1)):=by
 rw [List.drop_eq_getElem_cons hi,eg]
 simp only [List.getD,List.getElem?_eq_getElem hi,Option.getD_some]
def aww (l:List Row) (id:Int):Option Nat:=l.findIdx? fun r=>decide (r.id = id)
def am (l:List Row) (id:Int):Int:=idx (fun r=>decide (r.id = id)) l
def je (d:DB) (s:ByteArray):Int:=idx (fun t=>decide (t.name = s)) d
def a5a (d:DB) (t:Tbl):Int:=if c6 t ≠ 0 then c6 t else if 0 ≤ je d t.name then 5 else if 50 ≤ d.length then 3 else 0
theorem gt {p:Nat → Bool} {n i:Nat} (hi:i < n) (h:p i = false):(List.range n).all p = false:=by
 rw [List.all_eq_false];exact ⟨i,List.mem_range.2 hi,by simp [h]⟩
theorem jn {p:Nat → Bool} {n:Nat} (h:∀ j,j < n → p j = true):(List.range n).all p = true:=by
 rw [List.all_eq_true];exact fun j hj=>h j (List.mem_range.1 hj)
theorem pk {s:ByteArray} (h:s.size = 0):i7 s = false:=by simp [i7,h]
theorem nq {s:ByteArray} (h:24 < s.size):i7 s = false:=by
 have:¬ s.size ≤ 24:=by omega
 simp [i7,this]
theorem u6 {s:ByteArray} (h:ltr (ct s 0) = false):i7 s = false:=by simp [i7,h]
theorem a04 {s:ByteArray} {i:Nat} (hi:(i:Int) = 0) (h:ltr (ct s i) = false):i7 s = false:=by
 obtain rfl:i = 0:=by omega
 exact u6 h
theorem aqu {s:ByteArray} {i:Nat} (hz:0 < i → ltr (ct s 0) = true) (h:i = 0 → ltr (ct s i) = true):ltr (ct s 0) = true:=by
 by_cases e:i = 0
 · subst e;exact h rfl
 · exact hz (by omega)
theorem mf {s:ByteArray} (h:s = af6):i7 s = false:=by simp [i7,h]
theorem qw {s:ByteArray} {i:Nat} (hi:i < s.size) (h1:ltr (ct s i) = false) (h2:dig (ct s i) = false):i7 s = false:=by
 have:a9p s = false:=gt hi (by simp [h1,h2])
 simp [i7,this]
theorem ai0 {s:ByteArray} (h0:s.size ≠ 0) (h1:s.size ≤ 24) (h2:ltr (ct s 0) = true) (h3:s ≠ af6) (h4:∀ j,j < s.size → (ltr (ct s j) || dig (ct s j)) = true):i7 s = true:=by
 have:a9p s = true:=jn h4
 simp [i7,this,h0,h1,h2,h3]
theorem ub {s:ByteArray}:s.size = 0 ↔ s = emp:=by
 constructor
 · intro h
   refine ByteArray.ext (Array.ext' ?_)
   have:s.data.toList.length = 0:=by rw [Array.length_toList];exact h
   exact List.eq_nil_of_length_eq_zero this
 · rintro rfl;rfl
theorem aeg {α:Type} {p:α → Bool} {l:List α}:decide (0 ≤ idx p l) = l.any p:=by
 unfold idx
 cases h:l.findIdx? p with
 | none =>
  rw [List.findIdx?_eq_none_iff] at h
  have:l.any p = false:=by rw [List.any_eq_false];intro x hx;simp [h x hx]
  simp [this]
 | some i =>
  rw [List.findIdx?_eq_some_iff_getElem] at h
  obtain ⟨hi,hp,_⟩:=h
  have:l.any p = true:=by rw [List.any_eq_true];exact ⟨_,List.getElem_mem hi,hp⟩
  simp [this]
theorem aid {α:Type} {p:α → Bool} {l:List α}:idx p l < l.length:=by
 unfold idx
 cases h:l.findIdx? p with
 | none=>simp;omega
 | some i =>
  rw [List.findIdx?_eq_some_iff_getElem] at h
  simp [h.1]
theorem a3v {α:Type} [Inhabited α] {p:α → Bool} {l:List α} (h:0 ≤ idx p l):(idx p l).toNat < l.length ∧ p (l.getD (idx p l).toNat default) = true:=by
 unfold idx at h ⊢
 cases h2:l.findIdx? p with
 | none=>simp [h2] at h
 | some i =>
  rw [List.findIdx?_eq_some_iff_getElem] at h2
  obtain ⟨hi,hp,_⟩:=h2
  simp [List.getD,hi,hp]
theorem ad9 {l:List Val}:(!l.any fun v=>!cu v) = l.all cu:=by
 induction l with
 | nil=>rfl
 | cons x l ih=>simp only [List.any_cons,List.all_cons,Bool.not_or,Bool.not_not,ih]
def ofI (k:Int):Val :=
 if k = 0 then ⟨1,0,emp⟩ else if k = 1 then ⟨1,1,emp⟩ else if k = 2 then ⟨1,2,emp⟩ else if k = 3 then ⟨0,0,emp⟩ else if k = 4 then ⟨2,0,⟨#[97]⟩⟩ else if k = 5 then ⟨2,0,⟨#[98]⟩⟩
 else if k = 6 then ⟨2,0,emp⟩ else if k = 7 then ⟨3,1,emp⟩ else if k = 8 then ⟨1, -1,emp⟩ else if k = 9 then ⟨2,0,⟨#[97,98]⟩⟩ else if k = 10 then ⟨3,2,emp⟩ else ⟨1,7,emp⟩
def ofV (c:UInt8):Val:=ofI ((c.toNat:Int) % 12)
def a63 (x:Opn):ByteArray:=[⟨#[114]⟩,⟨#[115]⟩,⟨#[116]⟩,emp].getD (x.name.toNat % 4) default
def amd (x:Opn):Row:=⟨x.id,x.vals.map ofV⟩
def fv:List ByteArray:=[⟨#[97]⟩,⟨#[98]⟩,⟨#[99]⟩,⟨#[100]⟩,⟨#[101]⟩,⟨#[102]⟩,⟨#[103]⟩,⟨#[104]⟩]
def fb (l:List UInt8) (n:Nat):List Val:=(List.range n).map fun k=>ofV (l.getD k default)
def iw (x:Rcp) (n:Nat):List Row:=(List.range x.rows.length).map fun (i:Nat)=>⟨1 + (i:Int) * (1 + (x.gap.toNat:Int) % 3),fb (x.rows.getD i default) n⟩
def nx (x:Rcp) (n:Nat):Tbl:=⟨⟨#[114]⟩,fv.take n,iw x n⟩
def amk (x:Opn):Tbl:={ nx x.t (x.t.attrs.toNat % 4) with name:=a63 x }
theorem a7x {β:Type} [Inhabited β] (f:Nat → β) (n i:Nat) (h:i < n):((List.range n).map f).getD i default = f i:=by
 simp [List.getD,h]
end Go.Hx
end
section
namespace Go.Hx
abbrev T0:Tbl:=⟨emp,[],[]⟩
def jm (r:Row):List Row → List Row
 | []=>[r]
 | x :: xs=>if r.id < x.id then r :: x :: xs else x :: jm r xs
def c4 (t:Tbl) (r:Row):Int :=
 if c6 t ≠ 0 then c6 t else if r.vals.length ≠ t.attrs.length then 6 else if r.id ≤ 0 ∨ r.vals.all cu = false then 1
 else if 0 ≤ am t.rows r.id then 5 else if 1000 ≤ t.rows.length then 3 else 0
def ck (t:Tbl) (r:Row):Tbl:=if c4 t r = 0 then { t with rows:=jm r t.rows } else T0
def d6 (t:Tbl) (id:Int):Int:=if c6 t ≠ 0 then c6 t else if 0 ≤ am t.rows id then 0 else 4
def lp (t:Tbl) (id:Int):Tbl:=if d6 t id = 0 then { t with rows:=t.rows.eraseIdx (am t.rows id).toNat } else T0
def c8 (t:Tbl) (id attr:Int) (v:Val):Int :=
 if c6 t ≠ 0 then c6 t else if ¬ 0 ≤ am t.rows id then 4 else if attr < 0 ∨ (t.attrs.length:Int) ≤ attr then 6 else if cu v = false then 1 else 0
def j3 (l:List Row) (i k:Nat) (v:Val):List Row:=l.set i { l.getD i default with vals:=(l.getD i default).vals.set k v }
def chT (t:Tbl) (id attr:Int) (v:Val):Tbl:=if c8 t id attr v = 0 then { t with rows:=j3 t.rows (am t.rows id).toNat attr.toNat v } else T0
def a4g (t:Tbl) (c:Chg):Int :=
 if c.kind = 2 then c4 t c.row
 else if ¬ 0 ≤ am t.rows c.row.id then 4
 else if ¬ (t.rows.getD (max (am t.rows c.row.id) 0).toNat default).vals = c.row.vals then 16
 else if c.kind = 3 then d6 t c.row.id
 else c8 t c.row.id c.attr c.value
def a2w (t:Tbl) (c:Chg):Tbl:=if c.kind = 2 then ck t c.row else if c.kind = 3 then lp t c.row.id else chT t c.row.id c.attr c.value
def qg (d:DB) (s:ByteArray):Tbl:=d.getD (je d s).toNat default
def j4 (d:DB) (c:Chg):Int :=
 if c.kind = 1 then (if c.name ≠ c.table.name then 1 else a5a d c.table)
 else if c.kind < 1 ∨ 4 < c.kind then 1
 else if je d c.name < 0 then 4
 else a4g (qg d c.name) c
def yn (d:DB) (c:Chg):DB :=
 if j4 d c ≠ 0 then d
 else if c.kind = 1 then d ++ [c.table]
 else d.set (je d c.name).toNat (a2w (qg d c.name) c)
theorem aE2 {d:DB} {c:Chg} (h:c.kind = 1) (h2:c.name = c.table.name):j4 d c = a5a d c.table:=by rw [j4,if_pos h,if_neg (by simp [h2])]
theorem aE5 {d:DB} {c:Chg} (h:2 ≤ c.kind ∧ c.kind ≤ 4) (h2:¬ je d c.name < 0):j4 d c = a4g (qg d c.name) c:=by rw [j4,if_neg (by omega),if_neg (by omega),if_neg h2]
theorem asn {d:DB} {c:Chg} {e:Int} (h:j4 d c = e) (he:e ≠ 0):yn d c = d:=by rw [yn,if_pos (by rw [h];exact he)]
theorem aD1 {d:DB} {c:Chg} (h:j4 d c = 0) (h1:c.kind = 1):yn d c = d ++ [c.table]:=by rw [yn,if_neg (by simp [h]),if_pos h1]
theorem aD2 {d:DB} {c:Chg} {u:Tbl} (h:j4 d c = 0) (h1:¬ c.kind = 1) (hu:a2w (qg d c.name) c = u):yn d c = d.set (je d c.name).toNat u:=by rw [yn,if_neg (by simp [h]),if_neg h1,hu]
def dbV (d:DB):Prop:=d.length ≤ 50 ∧ ∀ j,j < d.length → c6 (d.getD j default) = 0
def au4 (d:DB):List Chg → Int
 | []=>0
 | c :: cs=>if j4 d c ≠ 0 then j4 d c else au4 (yn d c) cs
def a8x (d:DB):List Chg → DB
 | []=>d
 | c :: cs=>if j4 d c ≠ 0 then [] else a8x (yn d c) cs
def ave (s:Stt) (l:List Chg):Stt:=if l.length = 0 then s else ⟨s.done ++ [l],[],false,[]⟩
def ax6 (s:Stt) (c:Chg):Stt:=if s.opn = true then { s with now:=s.now ++ [c] } else ave s [c]
def au5 (x:Opn):Bool:=decide (x.vals.length ≤ 20) && decide (x.t.rows.length ≤ 6) && x.t.rows.all fun r=>decide (r.length ≤ 20)
def few (l:List Opn) (most:Int):Bool:=l.all au5 && decide ((l.length:Int) ≤ most)
end Go.Hx
end
section
namespace Go.Hx
theorem zo {n:Nat} {b:Int} {x:Row} {l:List Row} (h:eg n b (x :: l) = 0):b < x.id ∧ x.vals.length = n ∧ x.vals.all cu = true ∧ eg n x.id l = 0:=by
 simp only [eg] at h
 split at h
 · omega
 · split at h
   · omega
   · split at h
     · omega
     · rename_i h1 h2 h3
       exact ⟨by omega,by omega,by simpa using h3,h⟩
theorem fp {n:Nat}:∀ {l:List Row} {b:Int},eg n b l = 0 → ∀ x ∈ l,b < x.id ∧ x.vals.length = n ∧ x.vals.all cu = true
 | [],_,_,x,hx=>by cases hx
 | y :: l,b,h,x,hx=>by
  obtain ⟨h1,h2,h3,h4⟩:=zo h
  rcases List.mem_cons.1 hx with rfl | hx
  · exact ⟨h1,h2,h3⟩
  · obtain ⟨g1,g2⟩:=fp h4 x hx
    exact ⟨by omega,g2⟩
abbrev ep (l:List Row):Prop:=l.Pairwise fun a b=>a.id < b.id
theorem fz {n:Nat}:∀ {l:List Row} {b:Int},eg n b l = 0 → ep l
 | [],_,_=>List.Pairwise.nil
 | y :: l,b,h=>by
  obtain ⟨h1,h2,h3,h4⟩:=zo h
  exact List.Pairwise.cons (fun x hx=>(fp h4 x hx).1) (fz h4)
theorem og {n:Nat}:∀ {l:List Row} {b:Int},(∀ x ∈ l,b < x.id ∧ x.vals.length = n ∧ x.vals.all cu = true) → ep l → eg n b l = 0
 | [],_,_,_=>rfl
 | y :: l,b,h,hs=>by
  obtain ⟨h1,h2,h3⟩:=h y (by simp)
  unfold ep at hs
  rw [List.pairwise_cons] at hs
  simp only [eg]
  rw [if_neg (by omega),if_neg (by omega),if_neg (by simp [h3])]
  exact og (fun x hx=>⟨hs.1 x hx,(h x (by simp [hx])).2⟩) hs.2
structure TOk (t:Tbl):Prop where
 nm:i7 t.name = true
 na:t.attrs.length ≤ 16
 nr:t.rows.length ≤ 1000
 nms:vl t.attrs = true
 rs:eg t.attrs.length 0 t.rows = 0
theorem dj {t:Tbl}:c6 t = 0 ↔ TOk t:=by
 constructor
 · intro h
   unfold c6 at h
   split at h
   · omega
   · split at h
     · omega
     · split at h
       · omega
       · rename_i h1 h2 h3
         exact ⟨by simpa using h1,by omega,by omega,by simpa using h3,h⟩
 · rintro ⟨h1,h2,h3,h4,h5⟩
   unfold c6
   rw [if_neg (by simp [h1]),if_neg (by omega),if_neg (by simp [h4]),h5]
theorem afi {v:Val} (h:cu v = true):v.str.size ≤ 200:=by
 unfold cu at h
 have e0:emp.size = 0:=rfl
 split at h
 · simp only [Bool.and_eq_true,decide_eq_true_eq] at h;rw [h.2];omega
 · split at h
   · simp only [decide_eq_true_eq] at h;rw [h];omega
   · split at h
     · simp only [Bool.and_eq_true,decide_eq_true_eq] at h;omega
     · simp only [Bool.and_eq_true,decide_eq_true_eq] at h;rw [h.2];omega
theorem apr {l:List Val} (h:l.all cu = true):rh l:=by
 intro j hj
 rw [k7 l j hj]
 have:=afi (List.all_eq_true.1 h _ (List.getElem_mem hj))
 unfold Val.ok
 omega
theorem TOk.ok {t:Tbl} (h:TOk t):t.ok:=by
 refine ⟨by have:=h.na;omega,by have:=h.nr;omega,fun j hj=>?_⟩
 rw [k7 _ j hj]
 obtain ⟨_,h2,h3⟩:=fp h.rs _ (List.getElem_mem hj)
 exact ⟨by have:=h.na;omega,apr h3⟩
theorem jx.sub {l l':List Row} (h:jx l) (hs:∀ x ∈ l',x ∈ l):jx l':=by
 intro j hj
 rw [k7 _ j hj]
 obtain ⟨k,hk,e⟩:=List.getElem_of_mem (hs _ (List.getElem_mem hj))
 rw [← e,← k7 _ k hk]
 exact h k hk
theorem aij {t:Tbl} (h:c6 t = 0):t.ok:=(dj.1 h).ok
def dx (l:List Row) (k:Nat) (r:Row):List Row:=l.take k ++ r :: l.drop k
theorem lw {l:List Row} {k:Nat} {r:Row} (h:k ≤ l.length):(dx l k r).length = l.length + 1:=by simp [dx];omega
theorem wl {l:List Row} {k:Nat} {r:Row} (h:k ≤ l.length):(dx l k r).getD k default = r:=by
 simp [dx,List.getD,List.getElem?_append,h]
theorem so {l:List Row} {k:Nat} {r:Row} (h0:0 < k) (h:k ≤ l.length):(dx l k r).getD (k - 1) default = l.getD (k - 1) default:=by
 simp only [dx,List.getD]
 rw [List.getElem?_append_left (by simp;omega),List.getElem?_take,if_pos (by omega)]
theorem ai6 {l:List Row} {r:Row}:dx l l.length r = l ++ [r]:=by simp [dx]
theorem a0a {l:List Row} {k i:Nat} {r:Row} (h:k ≤ l.length):(dx l k r)[i]? = if i < k then l[i]? else if i = k then some r else l[i - 1]?:=by
 simp only [dx]
 by_cases h1:i < k
 · rw [if_pos h1,List.getElem?_append_left (by simp;omega),List.getElem?_take,if_pos h1]
 · rw [if_neg h1,List.getElem?_append_right (by simp;omega),List.length_take,Nat.min_eq_left h]
   by_cases h2:i = k
   · subst h2;simp
   · rw [if_neg h2]
     obtain ⟨d,rfl⟩:∃ d,i = k + 1 + d:=⟨i - k - 1,by omega⟩
     rw [show k + 1 + d - k = d + 1 by omega,List.getElem?_cons_succ,List.getElem?_drop]
     congr 1
     omega
theorem afm {l:List Row} {k:Nat} {r:Row} (h0:0 < k) (h:k ≤ l.length):((dx l k r).set k (l.getD (k - 1) default)).set (k - 1) r = dx l (k - 1) r:=by
 apply List.ext_getElem?
 intro i
 rw [a0a (by omega),List.getElem?_set,List.getElem?_set,List.length_set,lw h,a0a h]
 by_cases h1:k - 1 = i
 · subst h1
   rw [if_pos rfl,if_pos (by omega),if_neg (by omega),if_pos rfl]
 · rw [if_neg h1]
   by_cases h2:k = i
   · subst h2
     rw [if_pos rfl,if_pos (by omega),if_neg (by omega),if_neg (by omega),List.getD,List.getElem?_eq_getElem (by omega)]
     rfl
   · rw [if_neg h2]
     by_cases h3:i < k
     · rw [if_pos h3,if_pos (by omega)]
     · rw [if_neg h3,if_neg (by omega),if_neg (by omega),if_neg (by omega)]
theorem sh:∀ {l:List Row} {k:Nat} {r:Row},ep l → k ≤ l.length → (∀ j,k ≤ j → j < l.length → r.id < (l.getD j default).id) → (k = 0 ∨ ¬ r.id < (l.getD (k - 1) default).id) → dx l k r = jm r l
 | [],k,r,_,hk,_,_=>by
  obtain rfl:k = 0:=by simpa using hk
  rfl
 | x :: l,0,r,hs,hk,h1,h2=>by
  have:=h1 0 (Nat.le_refl _) (by simp)
  simp only [List.getD_cons_zero] at this
  simp [dx,jm,this]
 | x :: l,k + 1,r,hs,hk,h1,h2=>by
  have h2:=h2.resolve_left (by omega)
  unfold ep at hs
  rw [List.pairwise_cons] at hs
  have hx:¬ r.id < x.id:=by
   cases k with
   | zero=>simpa using h2
   | succ k =>
    have hk':k < l.length:=by simp at hk;omega
    simp only [Nat.add_sub_cancel,List.getD_cons_succ] at h2
    have:=hs.1 _ (List.getElem_mem hk')
    rw [k7 _ _ hk'] at h2
    omega
  have ih:=sh (l:=l) (k:=k) (r:=r) hs.2 (by simpa using hk) (fun j hj hl=>by
   have:=h1 (j + 1) (by omega) (by simpa using hl)
   simpa using this) (by
   cases k with
   | zero=>exact .inl rfl
   | succ k =>
    refine .inr ?_
    simp only [Nat.add_sub_cancel,List.getD_cons_succ] at h2 ⊢
    exact h2)
  simp only [jm,if_neg hx,← ih]
  simp [dx]
theorem qa {r:Row}:∀ {l:List Row},(jm r l).length = l.length + 1
 | []=>rfl
 | x :: l=>by
  simp only [jm]
  split
  · simp
  · simp [qa (l:=l)]
theorem i9 {t:Tbl} {r:Row} {e:Int} (h:c4 t r = e) (he:e ≠ 0):ck t r = T0:=by rw [ck,if_neg (by rw [h];exact he)]
theorem gz {t:Tbl} {r:Row} (h:c4 t r = 0):ck t r = ⟨t.name,t.attrs,jm r t.rows⟩:=by rw [ck,if_pos h]
theorem yq {t:Tbl} {i e:Int} (h:d6 t i = e) (he:e ≠ 0):lp t i = T0:=by rw [lp,if_neg (by rw [h];exact he)]
theorem mj {t:Tbl} {i:Int} (h:d6 t i = 0):lp t i = ⟨t.name,t.attrs,t.rows.eraseIdx (am t.rows i).toNat⟩:=by rw [lp,if_pos h]
theorem l8 {t:Tbl} {i a e:Int} {v:Val} (h:c8 t i a v = e) (he:e ≠ 0):chT t i a v = T0:=by rw [chT,if_neg (by rw [h];exact he)]
theorem jv {t:Tbl} {i a:Int} {v:Val} (h:c8 t i a v = 0):chT t i a v = ⟨t.name,t.attrs,j3 t.rows (am t.rows i).toNat a.toNat v⟩:=by rw [chT,if_pos h]
theorem a3o {t:Tbl} {r:Row} (h:c4 t r = 0):c6 t = 0 ∧ r.vals.length = t.attrs.length ∧ 0 < r.id ∧ r.vals.all cu = true ∧ am t.rows r.id < 0 ∧ t.rows.length < 1000:=by
 unfold c4 at h
 split at h
 · omega
 · split at h
   · omega
   · split at h
     · omega
     · split at h
       · omega
       · split at h
         · omega
         · rename_i h1 h2 h3 h4 h5
           rw [not_or] at h3
           exact ⟨by omega,by omega,by omega,by simpa using h3.2,by omega,by omega⟩
theorem aa2 {α:Type} {l:List α} {i:Nat}:l.take i ++ l.drop (i + 1) = l.eraseIdx i:=(List.eraseIdx_eq_take_drop_succ l i).symm
theorem al3 {l:List Row} {k k' m':Nat} {r:Row} (h0:0 < k) (hk:k ≤ l.length) (h:((dx l k r).getD k' default).id < ((dx l k r).getD m' default).id) (hk':k' = k) (hm':m' = k - 1):r.id < (l.getD (k - 1) default).id:=by
 subst hk' hm'
 rwa [wl hk,so h0 hk] at h
theorem ai1 {l:List Row} {k k' m':Nat} {r:Row} (h0:0 < k) (hk:k ≤ l.length) (h:¬ ((dx l k r).getD k' default).id < ((dx l k r).getD m' default).id) (hk':k' = k) (hm':m' = k - 1):¬ r.id < (l.getD (k - 1) default).id:=by
 subst hk' hm'
 rwa [wl hk,so h0 hk] at h
theorem alj {l:List Row} {k k' m':Nat} {r:Row} (h0:0 < k) (hk:k ≤ l.length) (hk':k' = k) (hm':m' = k - 1) {n:Nat} (hn:n = l.length + 1) {e:TypeId} :
 CoO (.arr true 2 e n (gr (gr (lf Row.c (dx l k r)) k' 0 [lf Row.c (dx l k r) m' 0,lf Row.c (dx l k r) m' 1]) m' 0 [lf Row.c (dx l k r) k' 0,lf Row.c (dx l k r) k' 1])) (.arr true 2 e n (lf Row.c (dx l (k - 1) r))):=by
 subst hk' hm'
 rw [← afm h0 hk]
 refine a5y (fun h=>h) (by rw [lw hk];exact hn) (by rw [lw hk];omega) (by rw [lw hk];omega) rfl rfl (lt2 ?_ ?_) (lt2 ?_ ?_)
 · exact CoP.of_eq (by show Row.c ((dx l k' r).getD (k' - 1) default) 0 = _;rw [so h0 hk])
 · exact CoP.of_eq (by show Row.c ((dx l k' r).getD (k' - 1) default) 1 = _;rw [so h0 hk])
 · exact CoP.of_eq (by show Row.c ((dx l k' r).getD k' default) 0 = _;rw [wl hk])
 · exact CoP.of_eq (by show Row.c ((dx l k' r).getD k' default) 1 = _;rw [wl hk])
theorem at0 {l:List Row} {a b:Nat} (ha:a ≤ l.length) {f0:Nat → Nat → PV} {e:TypeId}:CoO (.arr true 2 e (0 + a + (l.length - b)) (en (0 + a) (en 0 f0 (lf Row.c l)) (fun i j=>lf Row.c l (b + i) j))) (.arr true 2 e (l.take a ++ l.drop b).length (lf Row.c (l.take a ++ l.drop b))):=by
 refine ⟨fun h=>h,rfl,rfl,by simp;omega,fun i j hi hj=>CoP.of_eq ?_⟩
 unfold en
 rw [Nat.zero_add]
 simp only [Nat.not_lt_zero,if_false,Nat.sub_zero,lf,List.getD]
 by_cases h:i < a
 · rw [if_pos h,List.getElem?_append_left (by simp;omega),List.getElem?_take,if_pos h]
 · rw [if_neg h,List.getElem?_append_right (by simp;omega),List.getElem?_drop,List.length_take,Nat.min_eq_left ha]
theorem xx {l:List Row} {i k:Nat} {v:Val}:(j3 l i k v).length = l.length:=by simp [j3]
theorem a7l {l:List Row} {i0 k k' m:Nat} {v:Val} {ps:List PV} {id:Nat} (hi0:i0 < l.length) (hm:m = (l.getD i0 default).vals.length) (hk:k < m) (hk':k' = k) (hp:ps.length = 3) (h:∀ j,j < 3 → CoP (ps.getD j .any) (v.c j)) :
 ∀ i j,i < l.length → j < 2 → (∃ n,ng i0 (.ref id m) (lf Row.c l) i j = .ref id n ∧ n = m ∧ CoP (.sl m 3 false (gr (lf Val.c (l.getD i0 default).vals) k' 0 ps)) (lf Row.c (j3 l i0 k v) i j)) ∨ CoH (ng i0 (.ref id m) (lf Row.c l) i j) (.p (lf Row.c (j3 l i0 k v) i j)):=by
 intro i j hi hj
 unfold ng
 by_cases hii:i = i0
 · subst hii
   rcases j with _ | _ | j
   · rw [if_neg (by omega)]
     refine .inr (CoP.of_eq ?_)
     unfold j3
     rw [qt rfl hi];rfl
   · rw [if_pos ⟨rfl,rfl⟩]
     refine .inl ⟨m,rfl,rfl, ?_⟩
     unfold j3
     rw [qt rfl hi]
     refine CoP.sl (by simp [hm]) (.inl rfl) (fun h=>h) fun a b ha hb=>?_
     unfold gr
     by_cases hak:a = k
     · rw [if_pos ⟨by omega,Nat.zero_le _,by omega⟩,qt hak (by omega),Nat.sub_zero];exact h b hb
     · rw [if_neg (by omega),uy hak];exact CoP.refl _
   · omega
 · rw [if_neg (by omega)]
   refine .inr (CoP.of_eq ?_)
   unfold j3
   rw [uy hii]
theorem oq {l:List Row} {id:Int} (h:0 ≤ am l id):(max (am l id) 0).toNat < l.length:=by
 have:=aid (p:=fun r:Row=>decide (r.id = id)) (l:=l)
 unfold am at *
 omega
theorem TOk.width {t:Tbl} (h:TOk t) {i:Nat} (hi:i < t.rows.length):(t.rows.getD i default).vals.length = t.attrs.length:=by
 rw [k7 _ _ hi]
 exact (fp h.rs _ (List.getElem_mem hi)).2.1
theorem ar9 {d:DB} {s:ByteArray} (h:¬ je d s < 0):(je d s).toNat < d.length:=by
 have:=aid (p:=fun t:Tbl=>decide (t.name = s)) (l:=d)
 unfold je at *
 omega
theorem dbV.at {d:DB} (h:dbV d) {s:ByteArray} (hs:¬ je d s < 0):TOk (qg d s):=dj.1 (h.2 _ (ar9 hs))
theorem atr {l:List Row} {id:Int} (h:0 ≤ am l id):(l.getD (max (am l id) 0).toNat default).id = id:=by
 have:=(a3v (p:=fun r:Row=>decide (r.id = id)) (l:=l) h).2
 simp only [decide_eq_true_eq] at this
 unfold am at *
 rw [show (max (idx (fun r:Row=>decide (r.id = id)) l) 0).toNat = (idx (fun r:Row=>decide (r.id = id)) l).toNat from by omega]
 exact this
theorem an5 {d:DB} {t:Tbl} (h:a5a d t = 0):c6 t = 0 ∧ je d t.name < 0 ∧ d.length < 50:=by
 unfold a5a at h
 split at h
 · omega
 · split at h
   · omega
   · split at h
     · omega
     · exact ⟨by omega,by omega,by omega⟩
theorem ams {l:List Row} {r:Row} {g:Nat → Nat → PV} {e:TypeId} (hg:∀ j,j < 2 → CoP (g 0 j) (r.c j)):CoO (.arr true 2 e (l.length + 1) (en l.length (lf Row.c l) g)) (.arr true 2 e (l.length + 1) (lf Row.c (dx l l.length r))):=by
 rw [ai6]
 have:=a9x (wr:=true) (wr':=true) (s:=2) (e:=e) (c:=Row.c) (l:=l) (g:=g) [r] (fun h=>h) (m:=1) rfl (fun i j hi hj=>by
  obtain rfl:i = 0:=by simpa using hi
  exact hg j hj)
 simpa using this
end Go.Hx
end
section
namespace Go.Hx
def agT (a b:Row):Nat → AS
 | 0=>0
 | i + 1=>if kp (a.vals.getD i default) (b.vals.getD i default) = 0 then agT a b i ||| ((1:AS) <<< i) else agT a b i
def agR (a b:Row):AS:=agT a b a.vals.length
theorem auy {a b:Row} {i:Nat} (h:kp (a.vals.getD i default) (b.vals.getD i default) = 0):agT a b (i + 1) = agT a b i ||| ((1:AS) <<< i):=if_pos h
theorem a90 {a b:Row} {i:Nat} (h:¬ kp (a.vals.getD i default) (b.vals.getD i default) = 0):agT a b (i + 1) = agT a b i:=if_neg h
theorem a78 {a b:Row}:∀ (i k:Nat),k < 32 → (agT a b i).getLsbD k = (decide (k < i) && decide (a.vals.getD k default = b.vals.getD k default))
 | 0,k,hk=>by simp [agT]
 | i + 1,k,hk=>by
  unfold agT
  by_cases h:kp (a.vals.getD i default) (b.vals.getD i default) = 0
  · rw [if_pos h,BitVec.getLsbD_or,a78 i k hk,lc i k hk]
    by_cases e:k = i
    · subst e
      rw [decide_eq_true (vo.1 h)];simp
    · have:(k < i + 1) = (k < i):=by apply propext;omega
      simp [e,this]
  · rw [if_neg h,a78 i k hk]
    by_cases e:k = i
    · subst e
      have:¬ a.vals.getD k default = b.vals.getD k default:=fun e=>h (vo.2 e)
      rw [decide_eq_false this];simp
    · have:(k < i + 1) = (k < i):=by apply propext;omega
      simp [this]
theorem a16 {a b:Row} {k:Nat} (hk:k < 32):(agR a b).getLsbD k = (decide (k < a.vals.length) && decide (a.vals.getD k default = b.vals.getD k default)):=a78 _ _ hk
theorem pa {a b:Row} (h:a.vals.length = b.vals.length):agR a b = agR b a:=by
 apply BitVec.eq_of_getLsbD_eq
 intro i hi
 rw [a16 hi,a16 hi,h,decide_eq_decide.2 (show a.vals.getD i default = b.vals.getD i default ↔ b.vals.getD i default = a.vals.getD i default from eq_comm)]
def prs:List Row → List AS
 | []=>[]
 | r :: l=>l.map (agR r) ++ prs l
def xu (l:List Row) (i:Nat):List AS:=(l.drop (i + 1)).map (agR (l.getD i default))
def ll (l:List Row) (i k:Nat):List AS:=((List.range i).map (xu l)).flatten ++ ((xu l i).take (k - (i + 1)))
theorem agj:∀ l:List Row,prs l = ((List.range l.length).map (xu l)).flatten
 | []=>rfl
 | r :: l=>by
  rw [prs,agj l,List.length_cons,List.range_succ_eq_map,List.map_cons,List.flatten_cons,List.map_map]
  rfl
theorem a8j (l:List Row):ll l 0 1 = []:=by simp [ll]
theorem a01 (l:List Row) (i:Nat):(xu l i).length = l.length - (i + 1):=by simp [xu]
theorem a8d {l:List Row} {i k:Nat} (hi:i < k) (hk:k < l.length):ll l i (k + 1) = ll l i k ++ [agR (l.getD i default) (l.getD k default)]:=by
 unfold ll
 rw [List.append_assoc]
 congr 1
 rw [show k + 1 - (i + 1) = (k - (i + 1)) + 1 by omega,List.take_add_one]
 congr 1
 unfold xu
 rw [List.getElem?_map,List.getElem?_drop,show i + 1 + (k - (i + 1)) = k by omega,List.getElem?_eq_getElem hk,List.getD_eq_getElem?_getD (l:=l) (i:=k),List.getElem?_eq_getElem hk]
 rfl
theorem a7r {l:List Row} {i k:Nat} (hk:l.length ≤ k):ll l i k = ll l (i + 1) (i + 1 + 1):=by
 unfold ll
 rw [List.take_of_length_le (by rw [a01];omega),List.range_succ,List.map_append,List.flatten_append,Nat.sub_self,List.take_zero,List.append_nil]
 simp
theorem alq (l:List Row):ll l l.length (l.length + 1) = prs l:=by
 unfold ll
 rw [agj,Nat.sub_self,List.take_zero,List.append_nil]
theorem a1h:∀ l:List Row,(prs l).length ≤ l.length * l.length
 | []=>by simp [prs]
 | r :: l=>by
  have:=a1h l
  simp only [prs,List.length_append,List.length_map,List.length_cons]
  rw [Nat.add_mul,Nat.mul_add];omega
theorem a9k (l:List Row) (i k:Nat) (hi:i ≤ l.length):(ll l i k).length ≤ l.length * l.length + l.length:=by
 unfold ll
 rw [List.length_append,List.length_take,a01]
 have h:∀ i,i ≤ l.length → (((List.range i).map (xu l)).flatten).length ≤ i * l.length:=by
  intro i
  induction i with
  | zero=>intro _;simp
  | succ i ih =>
   intro hi
   rw [List.range_succ,List.map_append,List.flatten_append,List.length_append]
   have:=ih (by omega)
   have h2:=a01 l i
   simp only [List.map_cons,List.map_nil,List.flatten_cons,List.flatten_nil,List.append_nil]
   rw [Nat.add_mul];omega
 have h1:=h i hi
 have h2:i * l.length ≤ l.length * l.length:=Nat.mul_le_mul_right _ hi
 omega
theorem wh:∀ {l:List Row} {p:AS},p ∈ prs l ↔ ∃ i k,i < k ∧ k < l.length ∧ p = agR (l.getD i default) (l.getD k default)
 | [],p=>by simp [prs]
 | r :: l,p=>by
  rw [prs,List.mem_append,wh,List.mem_map]
  constructor
  · rintro (⟨x,hx,rfl⟩ | ⟨i,k,h1,h2,rfl⟩)
    · obtain ⟨k,hk,rfl⟩:=List.getElem_of_mem hx
      refine ⟨0,k + 1,by omega,by simpa using hk, ?_⟩
      simp [List.getD,hk]
    · exact ⟨i + 1,k + 1,by omega,by simpa using h2,by simp⟩
  · rintro ⟨i,k,h1,h2,rfl⟩
    obtain ⟨k,rfl⟩:∃ k',k = k' + 1:=⟨k - 1,by omega⟩
    have hk:k < l.length:=by simpa using h2
    cases i with
    | zero=>exact .inl ⟨l[k],List.getElem_mem hk,by simp [List.getD,hk]⟩
    | succ i=>exact .inr ⟨i,k,by omega,hk,by simp⟩
def Wid (n:Nat) (l:List Row):Prop:=∀ x ∈ l,x.vals.length = n
theorem a0n {n:Nat}:∀ {l:List Row} {i:Nat},Wid n l → i < l.length → ∀ s,(prs l).count s = (prs (l.eraseIdx i)).count s + ((l.eraseIdx i).map fun x=>agR x (l.getD i default)).count s
 | [],i,_,hi,s=>absurd hi (Nat.not_lt_zero _)
 | r :: l,0,hw,_,s=>by
  have e:l.map (agR r) = l.map fun x=>agR x r:=List.map_congr_left fun x hx=>pa (by rw [hw r (by simp),hw x (by simp [hx])])
  simp only [prs,List.eraseIdx_cons_zero,List.getD_cons_zero,List.count_append,e]
  omega
 | r :: l,i + 1,hw,hi,s=>by
  have hi':i < l.length:=by simpa using hi
  have ih:=a0n (l:=l) (i:=i) (fun x hx=>hw x (by simp [hx])) hi' s
  simp only [prs,List.eraseIdx_cons_succ,List.getD_cons_succ,List.count_append,List.map_cons,List.count_cons,ih]
  have hperm:((l.map (agR r)).count s) = (((l.eraseIdx i).map (agR r)).count s) + (if agR r (l.getD i default) == s then 1 else 0):=by
   have hl:l = l.take i ++ l.getD i default :: l.drop (i + 1):=by
    rw [List.getD_eq_getElem?_getD,List.getElem?_eq_getElem hi',Option.getD_some,← List.drop_eq_getElem_cons hi',List.take_append_drop]
   have he:l.eraseIdx i = l.take i ++ l.drop (i + 1):=List.eraseIdx_eq_take_drop_succ l i
   rw [he]
   conv=>lhs;rw [hl]
   simp only [List.map_append,List.map_cons,List.count_append,List.count_cons]
   omega
  rw [hperm]
  omega
def db (l:List Row) (s:AS):Int:=((prs l).count s:Int)
def f5 (l:List Row) (r:Row) (y:Int) (c:AS → Int):AS → Int:=fun s=>c s + y * (((l.filter fun x=>decide (x.id ≠ r.id)).map fun x=>agR x r).count s:Int)
theorem ah7 (r:Row) (y:Int) (c:AS → Int):f5 [] r y c = c:=by funext s;simp [f5]
theorem a0t {l:List Row} {i:Nat} {r:Row} {y:Int} {c:AS → Int} (hi:i < l.length) (h:(l.getD i default).id = r.id):f5 (l.take (i + 1)) r y c = f5 (l.take i) r y c:=by
 funext s
 unfold f5
 have e:([l.getD i default].filter fun x=>decide (x.id ≠ r.id)) = []:=by
  rw [List.filter_cons,if_neg (by simpa using h)];rfl
 rw [ce hi,List.filter_append,e,List.append_nil]
theorem aho {l:List Row} {i:Nat} {r:Row} {y:Int} {c:AS → Int} (hi:i < l.length) (h:¬ (l.getD i default).id = r.id):f5 (l.take (i + 1)) r y c = fun s=>if s = agR (l.getD i default) r then f5 (l.take i) r y c s + y else f5 (l.take i) r y c s:=by
 funext s
 unfold f5
 rw [ce hi,List.filter_append]
 have e:(agR (l.getD i default) r == s) = decide (s = agR (l.getD i default) r):=by
  rw [Bool.eq_iff_iff,beq_iff_eq,decide_eq_true_iff];exact eq_comm
 simp only [ne_eq,h,not_false_eq_true,decide_true,List.filter_cons,if_true,List.filter_nil,List.map_append,List.map_cons,List.map_nil,List.count_append,List.count_cons,List.count_nil,e,decide_eq_true_eq]
 by_cases hs:s = agR (l.getD i default) r
 · rw [if_pos hs,if_pos hs]
   push_cast
   rw [Int.mul_add]
   omega
 · rw [if_neg hs,if_neg hs]
   simp
theorem a7q {l:List Row} (hs:ep l) {i:Nat} (hi:i < l.length):(l.filter fun x=>decide (x.id ≠ (l.getD i default).id)) = l.eraseIdx i:=by
 have hl:l = l.take i ++ l.getD i default :: l.drop (i + 1):=by
  rw [List.getD_eq_getElem?_getD,List.getElem?_eq_getElem hi,Option.getD_some,← List.drop_eq_getElem_cons hi,List.take_append_drop]
 rw [List.eraseIdx_eq_take_drop_succ]
 generalize l.getD i default = r at *
 generalize l.take i = u at *
 generalize l.drop (i + 1) = v at *
 subst hl
 obtain ⟨_,h2,h3⟩:=List.pairwise_append.1 hs
 obtain ⟨h4,_⟩:=List.pairwise_cons.1 h2
 rw [List.filter_append,List.filter_cons]
 rw [List.filter_eq_self.2 fun x hx=>decide_eq_true (by have:=h3 x hx r (by simp);omega),List.filter_eq_self.2 fun x hx=>decide_eq_true (by have:=h4 x hx;omega)]
 simp
theorem aei {n:Nat} {l:List Row} {i:Nat} (hw:Wid n l) (hs:ep l) (hi:i < l.length):f5 l (l.getD i default) (-1) (db l) = db (l.eraseIdx i):=by
 funext s
 unfold f5 db
 rw [a7q hs hi,a0n hw hi s]
 push_cast
 omega
theorem ae4 {n:Nat} {l:List Row} {i:Nat} (hw:Wid n l) (hs:ep l) (hi:i < l.length):f5 l (l.getD i default) 1 (db (l.eraseIdx i)) = db l:=by
 funext s
 unfold f5 db
 rw [a7q hs hi,a0n hw hi s]
 push_cast
 omega
theorem apj (l:List Row) (s:AS):0 ≤ db l s:=Int.natCast_nonneg _
theorem abg {l:List Row} {s:AS}:db l s ≠ 0 ↔ s ∈ prs l:=by
 unfold db
 rw [← List.count_pos_iff (a:=s) (l:=prs l)]
 omega
theorem an2 (l:List Row) (s:AS):db l s ≤ l.length * l.length:=by
 unfold db
 have h1:=List.count_le_length (a:=s) (l:=prs l)
 have h2:=a1h l
 exact_mod_cast Nat.le_trans h1 h2
end Go.Hx
end

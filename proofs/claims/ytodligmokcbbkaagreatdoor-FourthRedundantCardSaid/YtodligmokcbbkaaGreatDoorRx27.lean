/- A part of the proof: Jn1 Jo1 Jc1 Jn2 Hx31. -/
import Derived.Shelf.SlSortCmp.Insertion
import Derived.Test.YtodligmokcbbkaaGreatDoorRx19
import Derived.Test.YtodligmokcbbkaaGreatDoorRx22
import Derived.Test.YtodligmokcbbkaaGreatDoorRx23
import Derived.Test.YtodligmokcbbkaaGreatDoorRx26
set_option linter.all false
section
namespace Go.Hx
def byC (b:Int):Nat → PV
 | 0=>.raw (.int .u8 b)
 | _=>.any
abbrev byl (l:List Int):PV:=psl 1 byC l
def uN (n:Int):Int:=d8 .xor .u64 (IntKind.wrap .u64 n) 9223372036854775808
def byK (u:Int) (s:Nat):Int:=IntKind.wrap .u8 (u.fdiv (2 ^ (min s 64)))
def qc (n:Int):List Int:=(List.range 8).map fun i=>byK (uN n) (56 - 8 * i)
def ud (x:UInt8):List Int:=if x = 0 then [0,255] else [(x.toNat:Int)]
def kr (l:List UInt8):List Int:=l.flatMap ud
def jo (v:Val):List Int:=IntKind.wrap .u8 v.kind :: (if v.kind = 1 ∨ v.kind = 3 then qc v.num else if v.kind = 2 then kr (bl v.str) ++ [0,1] else [])
def qi (v:Val):ByteArray:=if c6 v = true then strOfNums (jo v) else emp
def aj4 (v:Val):Int:=if c6 v = true then 0 else 1
def gk (s:AS):Nat → List Val → ByteArray
 | _,[]=>emp
 | a,v :: vs=>if s.getLsbD a = true then qi v ++ gk s (a + 1) vs else gk s (a + 1) vs
def b9 (l:List Val) (s:AS):ByteArray:=gk s 0 l
theorem sg (n:Int):(qc n).length = 8:=by simp [qc]
theorem ab8 (l:List UInt8):(kr l).length ≤ 2 * l.length:=by
 induction l with
 | nil=>simp [kr]
 | cons x l ih =>
  simp only [kr,List.flatMap_cons,List.length_append,List.length_cons] at ih ⊢
  have:(ud x).length ≤ 2:=by unfold ud;split <;> simp
  omega
theorem yp {v:Val}:(qi v).size ≤ 403:=by
 unfold qi
 split
 · rename_i h
   have hs:=x7 h
   rw [strOfNums_size,jo,List.length_cons]
   split
   · rw [sg];omega
   · split
     · have:=ab8 (bl v.str)
       rw [ew] at this
       rw [List.length_append]
       simp;omega
     · simp
 · exact Nat.zero_le _
theorem mw (a b:ByteArray):(a ++ b).size = a.size + b.size:=ByteArray.size_append
theorem a6j {s:AS}:∀ {l:List Val} {a:Nat},(gk s a l).size ≤ 403 * l.length
 | [],_=>Nat.zero_le _
 | v :: l,a=>by
  have h1:=yp (v:=v)
  have h2:(gk s (a + 1) l).size ≤ 403 * l.length:=a6j
  unfold gk
  rw [List.length_cons]
  split
  · rw [mw];omega
  · omega
theorem aok (a:ByteArray):a ++ emp = a:=ByteArray.append_empty
theorem anp (a:ByteArray):emp ++ a = a:=ByteArray.empty_append
theorem a72 {s:AS}:∀ {l:List Val} {a:Nat} {v:Val},gk s a (l ++ [v]) = if s.getLsbD (a + l.length) = true then gk s a l ++ qi v else gk s a l
 | [],a,v=>by
  simp only [List.nil_append,gk,List.length_nil,Nat.add_zero]
  split
  · rw [aok,anp]
  · rfl
 | x :: l,a,v=>by
  have ih:gk s (a + 1) (l ++ [v]) = if s.getLsbD (a + 1 + l.length) = true then gk s (a + 1) l ++ qi v else gk s (a + 1) l:=a72
  simp only [List.cons_append,gk,List.length_cons]
  rw [ih,show a + 1 + l.length = a + (l.length + 1) by omega]
  split <;> split <;> simp [ByteArray.append_assoc]
def oc (n:Int) (i:Nat):List Int:=(List.range i).map fun i=>byK (uN n) (56 - 8 * i)
theorem aip (n:Int) (i:Nat):oc n (i + 1) = oc n i ++ [byK (uN n) (56 - 8 * i)]:=by
 unfold oc
 rw [List.range_succ,List.map_append]
 rfl
theorem a9l (n:Int):oc n 8 = qc n:=rfl
theorem a9j {l:List Int} {n:Int} {i:Nat}:l ++ oc n (i + 1) = (l ++ oc n i) ++ [byK (uN n) (56 - 8 * i)]:=by rw [aip,List.append_assoc]
abbrev kB (v:Val):Int:=IntKind.wrap .u8 v.kind
theorem nf {v:Val} (h:v.kind = 1 ∨ v.kind = 3):jo v = [kB v] ++ qc v.num:=by
 unfold jo
 rw [if_pos h]
 rfl
def ou (v:Val) (i:Nat):List Int:=kB v :: kr ((bl v.str).take i)
theorem a80 {v:Val} {i:Nat} (hi:i < v.str.size) (h:bp v.str i = 0):ou v (i + 1) = (ou v i ++ [bp v.str i]) ++ [255]:=by
 have hl:i < (bl v.str).length:=by rw [ew];exact hi
 unfold ou kr
 rw [bh hl,List.flatMap_append]
 have e:bp v.str i = (((bl v.str).getD i default).toNat:Int):=by
  rw [eq _ _ hl]
  unfold bp
  rw [List.getD_eq_getElem?_getD,List.getElem?_eq_getElem hl]
  rfl
 have h0:(bl v.str).getD i default = 0:=by
  rw [e] at h
  exact UInt8.toNat_inj.1 (by simpa using h)
 rw [e,h0]
 simp [ud]
theorem a7y {v:Val} {i:Nat} (hi:i < v.str.size) (h:¬ bp v.str i = 0):ou v (i + 1) = ou v i ++ [bp v.str i]:=by
 have hl:i < (bl v.str).length:=by rw [ew];exact hi
 unfold ou kr
 rw [bh hl,List.flatMap_append]
 have e:bp v.str i = (((bl v.str).getD i default).toNat:Int):=by
  rw [eq _ _ hl]
  unfold bp
  rw [List.getD_eq_getElem?_getD,List.getElem?_eq_getElem hl]
  rfl
 have h0:¬ (bl v.str).getD i default = 0:=fun h0=>by
  rw [e,h0] at h
  exact h rfl
 rw [e]
 simp only [List.flatMap_cons,List.flatMap_nil,ud,if_neg h0,List.append_nil,List.cons_append]
theorem ams {v:Val} {i:Nat}:(ou v i).length ≤ 1 + 2 * v.str.size:=by
 have h:=ab8 ((bl v.str).take i)
 have h2:((bl v.str).take i).length ≤ v.str.size:=by rw [List.length_take,ew];omega
 simp only [ou,List.length_cons]
 omega
theorem nk {v:Val} (h:v.kind = 2):jo v = ou v v.str.size ++ [0,1]:=by
 unfold jo ou
 rw [if_neg (by omega),if_pos h,List.take_of_length_le (by rw [ew];omega)]
 rfl
theorem n4 {v:Val} (h1:¬ v.kind = 1) (h3:¬ v.kind = 3) (h2:¬ v.kind = 2):jo v = [kB v]:=by
 unfold jo
 rw [if_neg (by omega),if_neg h2]
theorem acm {v:Val} (h:c6 v = true):qi v = strOfNums (jo v):=if_pos h
theorem amr {v:Val} (h:c6 v = false):qi v = emp:=if_neg (by simp [h])
theorem anj {v:Val} (h:c6 v = true):aj4 v = 0:=if_pos h
theorem anq {v:Val} (h:c6 v = false):aj4 v = 1:=if_neg (by simp [h])
theorem aoc (l:List Int):a60 l.length (lf byC l) = strOfNums l:=by
 unfold a60
 congr 1
 refine List.ext_getElem (by simp) fun i h1 h2=>?_
 simp [a81,lf,byC,List.getD,h2]
theorem yx {l:List Val} {s:AS}:(b9 l s).size ≤ 403 * l.length:=a6j
theorem a7h {α:Type} [Inhabited α] {wr wr':Bool} {e:TypeId} {c:α → Nat → PV} {l l':List α} {x y:α} {g g':Nat → Nat → PV} (h:l' = (l ++ [x]) ++ [y]) (hg:CoP (g 0 0) (c x 0)) (hg':CoP (g' 0 0) (c y 0)) (hw:wr' = true → wr = true:=by exact fun h=>h) :
 CoO (.arr wr 1 e (l.length + 1 + 1) (fq (l.length + 1) (fq l.length (lf c l) g) g')) (.arr wr' 1 e l'.length (lf c l')):=by
 subst h
 refine ⟨hw,rfl,rfl,by simp,fun i j hi hj=>?_⟩
 obtain rfl:j = 0:=by omega
 unfold fq lf
 by_cases h1:i < l.length
 · rw [if_pos (by omega),if_pos h1]
   refine CoP.of_eq ?_
   simp [List.getD,List.getElem?_append,h1,show i < l.length + 1 by omega]
 · by_cases h2:i = l.length
   · subst h2
     rw [if_pos (by omega),if_neg (by omega),Nat.sub_self]
     simpa [List.getD] using hg
   · obtain rfl:i = l.length + 1:=by omega
     rw [if_neg (by omega),Nat.sub_self]
     simpa [List.getD] using hg'
theorem xc {α:Type} [Inhabited α] {wr wr':Bool} {e:TypeId} {c:α → Nat → PV} {l l':List α} {x y:α} {g:Nat → Nat → PV} (h:l' = l ++ [x,y]) (hg:CoP (g 0 0) (c x 0)) (hg':CoP (g 1 0) (c y 0)) (hw:wr' = true → wr = true:=by exact fun h=>h) :
 CoO (.arr wr 1 e (l.length + 2) (fq l.length (lf c l) g)) (.arr wr' 1 e l'.length (lf c l')):=by
 subst h
 refine afv [x,y] hw rfl fun i j hi hj=>?_
 obtain rfl:j = 0:=by omega
 have hi:i < 2:=hi
 rcases (by omega:i = 0 ∨ i = 1) with rfl | rfl
 · exact hg
 · exact hg'
end Go.Hx
end
section
namespace Go.Hx
open Go.Proofs Go.RowKit Go.Sort
structure Tot {α:Type} (c:α → α → Int):Prop where
 anti:∀ a b,c b a = - c a b
 zero:∀ a b,c a b = 0 ↔ a = b
 tr:∀ a b d,c a b < 0 → c b d < 0 → c a d < 0
section
variable {α:Type} {c:α → α → Int}
theorem Tot.self (h:Tot c) (a:α):c a a = 0:=(h.zero a a).2 rfl
theorem Tot.swo (h:Tot c):SWO (ltOf c) where
 irrefl x:=by unfold ltOf;rw [h.self];rfl
 trans x y z h1 h2:=by
  unfold ltOf at *
  exact decide_eq_true (h.tr x y z (of_decide_eq_true h1) (of_decide_eq_true h2))
 ntrans x y z h1 h2:=by
  unfold ltOf at *
  refine decide_eq_false fun hxz=>?_
  have h1:=of_decide_eq_false h1
  have h2:=of_decide_eq_false h2
  have ha:=h.anti x y
  by_cases e:x = y
  · subst e;exact h2 hxz
  · have:c x y ≠ 0:=fun e2=>e ((h.zero x y).1 e2)
    exact h2 (h.tr y x z (by omega) hxz)
abbrev Asc (c:α → α → Int) (l:List α):Prop:=l.Pairwise fun a b=>c a b < 0
theorem Tot.ext (h:Tot c):∀ {l m:List α},Asc c l → Asc c m → (∀ x,x ∈ l ↔ x ∈ m) → l = m
 | [],[],_,_,_=>rfl
 | [],y :: m,_,_,e=>by have:=(e y).2 (by simp);cases this
 | x :: l,[],_,_,e=>by have:=(e x).1 (by simp);cases this
 | x :: l,y :: m,h1,h2,e=>by
  have h1':=List.pairwise_cons.1 h1
  have h2':=List.pairwise_cons.1 h2
  have hxy:x = y:=by
   apply Classical.byContradiction
   intro hne
   have hx:x ∈ m:=by
    have:=(e x).1 (by simp)
    rcases List.mem_cons.1 this with e2 | e2
    · exact absurd e2 hne
    · exact e2
   have hy:y ∈ l:=by
    have:=(e y).2 (by simp)
    rcases List.mem_cons.1 this with e2 | e2
    · exact absurd e2.symm hne
    · exact e2
   have a1:=h2'.1 x hx
   have a2:=h1'.1 y hy
   have a3:=h.anti x y
   omega
  subst hxy
  refine congrArg (x :: ·) (Tot.ext h h1'.2 h2'.2 fun z=>⟨fun hz=>?_,fun hz=>?_⟩)
  · have:=(e z).1 (by simp [hz])
    rcases List.mem_cons.1 this with rfl | e2
    · have:=h1'.1 z hz;rw [h.self] at this;omega
    · exact e2
  · have:=(e z).2 (by simp [hz])
    rcases List.mem_cons.1 this with rfl | e2
    · have:=h2'.1 z hz;rw [h.self] at this;omega
    · exact e2
def arm (c:α → α → Int) (l:List α):List α:=l.mergeSort fun x y=>!(ltOf c) y x
theorem Tot.srt (h:Tot c) (l:List α):(arm c l).Pairwise fun a b=>¬ c b a < 0:=by
 have:=List.pairwise_mergeSort (le:=fun x y:α=>!(ltOf c) y x) (fun a b d h1 h2=>by
  simp only [Bool.not_eq_true'] at *
  exact h.swo.ntrans _ _ _ h2 h1) (fun a b=>by
  simp only [Bool.or_eq_true,Bool.not_eq_true',ltOf,decide_eq_false_iff_not]
  have:=h.anti a b
  omega) l
 refine this.imp fun {a b} hab=>?_
 simpa [ltOf] using hab
end
theorem a5z:Tot sgn:=⟨fun a b=>by unfold sgn;repeat' split <;> omega,fun a b=>k6,fun a b d h1 h2=>by
 unfold sgn at *
 repeat' split at h1
 all_goals repeat' split at h2
 all_goals repeat' split
 all_goals omega⟩
theorem a0u {a b:Int}:sgn a b < 0 ↔ a < b:=by unfold sgn;repeat' split <;> omega
theorem a6p:∀ (a b:List UInt8),fc b a = - fc a b
 | [],[]=>rfl
 | [],_ :: _=>rfl
 | _ :: _,[]=>rfl
 | x :: xs,y :: ys=>by
  unfold fc
  by_cases h:x = y
  · subst h
    simp [a6p xs ys]
  · rw [if_neg h,if_neg (fun e=>h e.symm)]
    exact a5z.anti _ _
theorem ada:∀ (a b d:List UInt8),fc a b < 0 → fc b d < 0 → fc a d < 0
 | [],[],_,h1,_=>by simp [fc] at h1
 | [],_ :: _,[],_,h2=>by simp [fc] at h2
 | [],_ :: _,_ :: _,_,_=>by simp [fc]
 | _ :: _,[],_,h1,_=>by simp [fc] at h1
 | _ :: _,_ :: _,[],_,h2=>by simp [fc] at h2
 | x :: xs,y :: ys,z :: zs,h1,h2=>by
  unfold fc at *
  by_cases e1:x = y
  · subst e1
    rw [if_pos rfl] at h1
    by_cases e2:x = z
    · subst e2
      rw [if_pos rfl] at h2 ⊢
      exact ada xs ys zs h1 h2
    · rw [if_neg e2] at h2 ⊢
      exact h2
  · rw [if_neg e1] at h1
    by_cases e2:y = z
    · subst e2
      rw [if_neg e1]
      exact h1
    · rw [if_neg e2] at h2
      rw [a0u] at h1 h2
      rw [if_neg (fun e=>by subst e;omega),a0u]
      omega
theorem acn:Tot jh:=⟨fun a b=>a6p _ _,fun a b=>a1w,fun a b d=>ada _ _ _⟩
theorem ag9 {x y:Int}:(if x ≠ 0 then x else y) < 0 ↔ x < 0 ∨ (x = 0 ∧ y < 0):=by
 split <;> omega
theorem ao6 {a b:Val}:io a b < 0 ↔ a.kind < b.kind ∨ (a.kind = b.kind ∧ (a.num < b.num ∨ (a.num = b.num ∧ jh a.str b.str < 0))):=by
 unfold io
 rw [ag9,ag9,a0u,a0u,k6,k6]
theorem ac6:Tot io:=⟨fun a b=>by
 unfold io
 rw [a5z.anti a.kind b.kind,a5z.anti a.num b.num,acn.anti a.str b.str]
 repeat' split
 all_goals omega,fun a b=>yd,fun a b d h1 h2=>by
 rw [ao6] at *
 rcases h1 with h1 | ⟨e1,h1⟩ <;> rcases h2 with h2 | ⟨e2,h2⟩
 · exact .inl (by omega)
 · exact .inl (by omega)
 · exact .inl (by omega)
 · refine .inr ⟨by omega, ?_⟩
   rcases h1 with h1 | ⟨f1,h1⟩ <;> rcases h2 with h2 | ⟨f2,h2⟩
   · exact .inl (by omega)
   · exact .inl (by omega)
   · exact .inl (by omega)
   · exact .inr ⟨by omega,acn.tr _ _ _ h1 h2⟩⟩
end Go.Hx
end
section
namespace Go.Hx
theorem aq0 {P:Nat → Prop} (h0:P 0) (h1:P 1) (h2:P 2):∀ j,j < 3 → P j:=fun j hj=>by
 rcases (by omega:j = 0 ∨ j = 1 ∨ j = 2) with rfl | rfl | rfl <;> assumption
structure CpJ (l:List Val) (k p q:Nat) (m:List Val):Prop where
 len:m.length = l.length
 kq:k < q
 pq:p < q
 ql:q ≤ l.length
 pre:m.take p = ml (l.take q)
 high:∀ j,q - 1 ≤ j → m.getD j default = l.getD j default
theorem CpJ.start {l:List Val} {k:Nat} (h1:1 ≤ k) (hk:k < l.length) (h:∀ j,0 < j → j < k → ¬ l.getD j default = l.getD (j - 1) default) (hd:l.getD k default = l.getD (k - 1) default):CpJ l k k (k + 1) l :=
 ⟨rfl,by omega,by omega,by omega,by rw [gr (by omega) hk,if_pos hd.symm,List.append_nil,sb (by omega) h],fun _ _=>rfl⟩
theorem CpJ.skip {l:List Val} {k p q:Nat} {m:List Val} (h:CpJ l k p q m) (hq:q < l.length) (he:m.getD q default = m.getD (q - 1) default):CpJ l k p (q + 1) m:=by
 have hk:=h.kq
 refine ⟨h.len,by omega,by have:=h.pq;omega,hq, ?_,fun j hj=>h.high j (by omega)⟩
 rw [h.high q (by omega),h.high (q - 1) (by omega)] at he
 rw [gr (by omega) hq,if_pos he.symm,List.append_nil,h.pre]
theorem CpJ.keep {l:List Val} {k p q:Nat} {m:List Val} (h:CpJ l k p q m) (hq:q < l.length) (he:¬ m.getD q default = m.getD (q - 1) default):CpJ l k (p + 1) (q + 1) (m.set p (m.getD q default)):=by
 have hk:=h.kq
 have hp:=h.pq
 have hl:=h.len
 refine ⟨by simp [hl],by omega,by omega,hq, ?_,fun j hj=>by rw [getD_set_ne' (by omega)];exact h.high j (by omega)⟩
 have e:=h.high q (by omega)
 rw [e,h.high (q - 1) (by omega)] at he
 rw [gr (by omega) hq,if_neg (fun e=>he e.symm),← h.pre,bh (by simp [hl];omega),kf (by omega),e]
 congr 1
 rw [List.take_set,List.set_eq_of_length_le (by simp;omega)]
end Go.Hx
end
section
namespace Go.Hx
def avj (R:List Row) (a:Nat):List Val:=R.map fun r=>r.vals.getD a default
def aki (R:List Row) (a:Nat):List Val:=ml (arm io (avj R a))
def ali (R:List Row) (n:Nat):List (List Val):=(List.range n).map (aki R)
def axa (R:List Row) (n a:Nat):List (List Val):=(List.range n).map fun i=>if i < a then aki R i else []
def vlC (l:List Val):Nat → PV:=fun _=>vals l
abbrev aww (l:List (List Val)):PV:=psl 1 vlC l
def adx (R:List Row) (s:AS) (k:Nat) (e:ByteArray):Bool:=R.any fun r=>decide (b9 (r.vals.take k) s = e)
def au1 (R:List Row) (s:AS) (k:Nat):MK → Option PV
 | .s b=>if adx R s k b = true then some (.raw (.bool true)) else none
 | .i _ _=>none
def mpC (N:Nat) (R:List Row) (s:AS) (k:Nat):PV:=mpP .str N (au1 R s k)
def lvF (R:List Row) (s:AS):Nat → Nat → PV:=fun k _=>mpC R.length R s k
def lvC (R:List Row) (n:Nat) (s:AS):Nat → PV:=fun _=>.sl (n + 1) 1 false (lvF R s)
def lvT (R:List Row) (s:AS) (a:Nat):Nat → Nat → PV:=fun k _=>if k < a then mpC R.length R s k else .raw (.map none)
def auj (R:List Row) (vs:List Val) (m:Nat) (s:AS):Bool:=decide (1000 < m) || !adx R s vs.length (b9 vs s)
def ama (R:List Row) (ps:List AS) (vs:List Val) (m:Nat):Bool:=ps.any (auj R vs m)
def ajf (R:List Row) (ps:List AS) (cols:List (List Val)):Nat → List Val → List (List Val) → List (List Val)
 | 0,vs,acc=>if ama R ps vs acc.length = true then acc else acc ++ [vs]
 | d + 1,vs,acc=>if ama R ps vs acc.length = true then acc else (cols.getD vs.length default).foldl (fun acc v=>ajf R ps cols d (vs ++ [v]) acc) acc
def amb (R:List Row) (ps:List AS) (n:Nat):List (List Val):=ajf R ps (ali R n) n [] []
def aqc (l:List (List Val)):List Row:=(List.range l.length).map fun (i:Nat)=>⟨(i:Int) + 1,l.getD i []⟩
def au9 (t:Tbl) (ps:List AS):Int :=
 if cb t ≠ 0 then cb t else if lvE t.attrs.length ps ≠ 0 then lvE t.attrs.length ps else if 1000 < (amb t.rows ps t.attrs.length).length then 3 else 0
def axk (t:Tbl) (ps:List AS):Tbl:=if au9 t ps = 0 then ⟨t.name,t.attrs,aqc (amb t.rows ps t.attrs.length)⟩ else T0
def ayd (R:List Row) (ps:List AS) (cols:List (List Val)) (d:Nat) (vs:List Val) (acc:List (List Val)) (i:Nat):List (List Val) :=
 ((cols.getD vs.length default).take i).foldl (fun acc v=>ajf R ps cols d (vs ++ [v]) acc) acc
end Go.Hx
end
section
namespace Go.Hx
open Go.RowKit
def awj (id n s:Nat) (F:Nat → Nat → PV):List HC → List HC → Prop
 | [],[]=>True
 | x :: xs,y :: ys=>(y = x ∨ (x = .one (.ref id n) ∧ y = .one (.p (.sl n s false F)))) ∧ awj id n s F xs ys
 | _,_=>False
def ax9 (i0:Nat) (h:HV) (g:Nat → Nat → PV):Nat → Nat → HV:=fun i j=>if i = i0 then h else .p (g i j)
theorem a8a {ro:Option Nat} {P:Program} {nt:Nat} {st:HSt} {Q:Exit → HSt → Prop} {co:Code} (x:Nat) (ob':ah) {ob:ah} (ho:bn st.o x = some ob) (hc:CoO ob ob')
 (h:HW (ro:=ro) P nt co ⟨st.t,(x,some ob') :: st.o⟩ Q):HW (ro:=ro) P nt co st Q:=fun w0 m0 a w hr=>by
 obtain ⟨cc,hold,hrr⟩:=hr
 refine h w0 m0 a w ⟨cc,hold,hrr.relax _ (fun d y hy=>⟨y,hy,CoR.refl _⟩) fun id ob2 ho2=>?_⟩
 simp only [HSt.den,bq] at ho2
 by_cases hk:id = x
 · subst hk
   rw [if_pos rfl] at ho2
   simp only [Option.some.injEq] at ho2
   subst ho2
   exact ⟨ob,ho,hc⟩
 · rw [if_neg hk] at ho2
   exact ⟨ob2,ho2,CoO.refl _⟩
end Go.Hx
end

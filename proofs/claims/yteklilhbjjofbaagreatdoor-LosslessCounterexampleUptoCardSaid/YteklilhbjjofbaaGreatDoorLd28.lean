/- A part of the proof: Jn1 Jo1 Jc1 Jn2 Hx31. -/
import Derived.Shelf.SlSortCmp.Insertion
import Derived.Test.YteklilhbjjofbaaGreatDoorLd25
import Derived.Test.YteklilhbjjofbaaGreatDoorLd27
set_option linter.all false
namespace Go.Hx
section
def byC (b:Int):Nat -> PV
 | 0=>.raw (.int .u8 b)
 | _=>.any
abbrev byl (l:List Int):PV:=psl 1 byC l
def uN (n:Int):Int:=it .xor .u64 (IntKind.wrap .u64 n) 9223372036854775808
def byK (u:Int) (s:Nat):Int:=IntKind.wrap .u8 (u.fdiv (2 ^ (min s 64)))
def su (n:Int):List Int:=(List.range 8).map fun i=>byK (uN n) (56 - 8 * i)
def ww (x:UInt8):List Int:=if x = 0 then [0,255] else [(x.toNat:Int)]
def lh (l:List UInt8):List Int:=l.flatMap ww
def jz (v:Val):List Int:=IntKind.wrap .u8 v.kind :: (if v.kind = 1 \/ v.kind = 3 then su v.num else if v.kind = 2 then lh (bl v.str) ++ [0,1] else [])
def ze (v:Val):ByteArray:=if bj v = true then strOfNums (jz v) else emp
def aqd (v:Val):Int:=if bj v = true then 0 else 1
def iu (s:AS):Nat -> List Val -> ByteArray
 | _,[]=>emp
 | a,v :: vs=>if s.getLsbD a = true then ze v ++ iu s (a + 1) vs else iu s (a + 1) vs
def fp (l:List Val) (s:AS):ByteArray:=iu s 0 l
def un (n:Int):(su n).length = 8:=by simp [su]
def abi (l:List UInt8):(lh l).length <= 2 * l.length:=by
 induction l with
 | nil=>simp [lh]
 | cons x l ih =>
  simp only [lh,b7y,b5x,b6k] at ih ⊢;have:(ww x).length <= 2:=by unfold ww;split <;> simp
  omega
section
variable {v:Val}
def aa5:(ze v).size <= 403:=by
 unfold ze;split
 · rename_i h
   have hs:=zb h;rw [strOfNums_size,jz,b6k];split
   · rw [un];omega
   split
   · have:=abi (bl v.str)
     rw [fc] at this;rw [b5x];simp;omega
   simp
 exact b5h _
def aou (a b:ByteArray):(a ++ b).size = a.size + b.size:=ByteArray.size_append
variable {s:AS}
def a94:∀ {l:List Val} {a:Nat},(iu s a l).size <= 403 * l.length
 | [],_=>b5h _
 | v :: l,a=>by
  have h1:=aa5 (v:=v);have h2:(iu s (a + 1) l).size <= 403 * l.length:=a94;unfold iu;rw [b6k];split
  · rw [aou];omega
  omega
def art (a:ByteArray):a ++ emp = a:=ByteArray.append_empty
def ava (a:ByteArray):emp ++ a = a:=ByteArray.empty_append
def a0e:∀ {l:List Val} {a:Nat} {v:Val},iu s a (l ++ [v]) = if s.getLsbD (a + l.length) = true then iu s a l ++ ze v else iu s a l
 | [],a,v=>by
  simp only [b6u,iu,b7n,b73];split
  · rw [art,ava]
  rfl
 | x :: l,a,v=>by
  have ih:iu s (a + 1) (l ++ [v]) = if s.getLsbD (a + 1 + l.length) = true then iu s (a + 1) l ++ ze v else iu s (a + 1) l:=a0e
  simp only [b6x,iu,b6k];rw [ih,show a + 1 + l.length = a + (l.length + 1) by omega];split <;> split <;> simp [ByteArray.append_assoc]
def qu (n:Int) (i:Nat):List Int:=(List.range i).map fun i=>byK (uN n) (56 - 8 * i)
def ajz (n:Int) (i:Nat):qu n (i + 1) = qu n i ++ [byK (uN n) (56 - 8 * i)]:=by
 unfold qu;rw [b8b,List.map_append];rfl
def adc (n:Int):qu n 8 = su n:=rfl
variable {i:Nat}
def ada {l:List Int} {n:Int}:l ++ qu n (i + 1) = (l ++ qu n i) ++ [byK (uN n) (56 - 8 * i)]:=by rw [ajz,b6l]
abbrev kB (v:Val):Int:=IntKind.wrap .u8 v.kind
def oc (h:v.kind = 1 \/ v.kind = 3):jz v = [kB v] ++ su v.num:=by
 unfold jz;rw [if_pos h];rfl
def re (v:Val) (i:Nat):List Int:=kB v :: lh ((bl v.str).take i)
def aar (hi:i < v.str.size) (h:bp v.str i = 0):re v (i + 1) = (re v i ++ [bp v.str i]) ++ [255]:=by
 have hl:i < (bl v.str).length:=by rw [fc];exact hi
 unfold re lh;rw [c0 hl,List.flatMap_append]
 have e:bp v.str i = (((bl v.str).getD i default).toNat:Int):=by
  rw [ca _ _ hl];unfold bp;rw [b5c,b5b hl];rfl
 have h0:(bl v.str).getD i default = 0:=by
  rw [e] at h;exact UInt8.toNat_inj.1 (by simpa using h)
 rw [e,h0];simp [ww]
def aat (hi:i < v.str.size) (h:¬ bp v.str i = 0):re v (i + 1) = re v i ++ [bp v.str i]:=by
 have hl:i < (bl v.str).length:=by rw [fc];exact hi
 unfold re lh;rw [c0 hl,List.flatMap_append]
 have e:bp v.str i = (((bl v.str).getD i default).toNat:Int):=by
  rw [ca _ _ hl];unfold bp;rw [b5c,b5b hl];rfl
 have h0:¬ (bl v.str).getD i default = 0:=fun h0=>by
  rw [e,h0] at h;exact h rfl
 rw [e];simp only [b7y,List.flatMap_nil,ww,if_neg h0,b6h,b6x]
def aru:(re v i).length <= 1 + 2 * v.str.size:=by
 have h:=abi ((bl v.str).take i);have h2:((bl v.str).take i).length <= v.str.size:=by rw [b5p,fc];omega
 simp only [re,b6k];omega
def b8y {p:Prop} (h:p:=by rw [fc];omega):p:=h
def og (h:v.kind = 2):jz v = re v v.str.size ++ [0,1]:=by
 unfold jz re;rw [if_neg b8i,if_pos h,b6z b8y];rfl
def ow (h1:¬ v.kind = 1) (h3:¬ v.kind = 3) (h2:¬ v.kind = 2):jz v = [kB v]:=by
 unfold jz;rw [if_neg b8i,if_neg h2]
def ah4 (h:bj v = true):ze v = strOfNums (jz v):=if_pos h
def au7 (h:bj v = false):ze v = emp:=if_neg (by simp [h])
def av6 (h:bj v = true):aqd v = 0:=if_pos h
def arl (h:bj v = false):aqd v = 1:=if_neg (by simp [h])
def au9 (l:List Int):a8y l.length (lf byC l) = strOfNums l:=by
 unfold a8y;congr 1;refine List.ext_getElem b8l fun i h1 h2=>?_;simp [ab2,lf,byC,List.getD,h2]
variable {l:List Val}
def ara (hi:i < l.length) (h32:i < 32) (h:it .and .u32 ((asI s).fdiv (2 ^ (min i 32))) 1 = 1):fp (l.take (i + 1)) s = fp (l.take i) s ++ ze (l.getD i default):=by
 rw [mb h32,ef h32] at h;unfold fp;rw [c0 hi,a0e,b5p,b6p b8i,b5q,if_pos h]
def aqk (hi:i < l.length) (h32:i < 32) (h:¬ it .and .u32 ((asI s).fdiv (2 ^ (min i 32))) 1 = 1):fp (l.take (i + 1)) s = fp (l.take i) s:=by
 rw [mb h32,ef h32] at h;unfold fp;rw [c0 hi,a0e,b5p,b6p b8i,b5q,if_neg h]
def aa2:(fp l s).size <= 403 * l.length:=a94
def a95 {α:Type} [Inhabited α] {wr wr':Bool} {e:TypeId} {c:α -> Nat -> PV} {l l':List α} {x y:α} {g g':Nat -> Nat -> PV} (h:l' = (l ++ [x]) ++ [y]) (hg:CoP (g 0 0) (c x 0)) (hg':CoP (g' 0 0) (c y 0)) (hw:wr' = true -> wr = true:=by exact fun h=>h) :
 CoO (.arr wr 1 e (l.length + 1 + 1) (d8 (l.length + 1) (d8 l.length (lf c l) g) g')) (.arr wr' 1 e l'.length (lf c l')):=by
 subst h;refine ⟨hw,rfl,rfl,by simp,fun i j hi hj=>?_⟩;obtain rfl:j = 0:=by omega
 unfold d8 lf;by_cases h1:i < l.length
 · rw [if_pos b8i,if_pos h1]
   refine CoP.of_eq ?_;simp [List.getD,List.getElem?_append,h1,show i < l.length + 1 by omega]
 by_cases h2:i = l.length
 · subst h2
   rw [if_pos b8i,if_neg b8i,Nat.sub_self];simpa [List.getD] using hg
 obtain rfl:i = l.length + 1:=by omega
 rw [if_neg b8i,Nat.sub_self];simpa [List.getD] using hg'
def zg {α:Type} [Inhabited α] {wr wr':Bool} {e:TypeId} {c:α -> Nat -> PV} {l l':List α} {x y:α} {g:Nat -> Nat -> PV} (h:l' = l ++ [x,y]) (hg:CoP (g 0 0) (c x 0)) (hg':CoP (g 1 0) (c y 0)) (hw:wr' = true -> wr = true:=by exact fun h=>h) :
 CoO (.arr wr 1 e (l.length + 2) (d8 l.length (lf c l) g)) (.arr wr' 1 e l'.length (lf c l')):=by
 subst h;refine amp [x,y] hw rfl fun i j hi hj=>?_;obtain rfl:j = 0:=by omega
 have hi:i < 2:=hi
 rcases (by omega:i = 0 \/ i = 1) with rfl | rfl
 · exact hg
 exact hg'
end
end
section
open Go.Proofs Go.RowKit Go.Sort
structure Tot {α:Type} (c:α -> α -> Int):Prop where
 anti:∀ a b,c b a = - c a b
 zero:∀ a b,c a b = 0 <-> a = b
 tr:∀ a b d,c a b < 0 -> c b d < 0 -> c a d < 0
section
variable {α:Type} {c:α -> α -> Int}
theorem Tot.self (h:Tot c) (a:α):c a a = 0:=(h.zero a a).2 rfl
theorem Tot.swo (h:Tot c):SWO (ltOf c) where
 irrefl x:=by unfold ltOf;rw [h.self];rfl
 trans x y z h1 h2:=by
  unfold ltOf at *;exact decide_eq_true (h.tr x y z (of_decide_eq_true h1) (of_decide_eq_true h2))
 ntrans x y z h1 h2:=by
  unfold ltOf at *;refine decide_eq_false fun hxz=>?_;have h1:=of_decide_eq_false h1;have h2:=of_decide_eq_false h2;have ha:=h.anti x y;by_cases e:x = y
  · subst e;exact h2 hxz
  have:c x y ≠ 0:=fun e2=>e ((h.zero x y).1 e2);exact h2 (h.tr y x z b8i hxz)
theorem Tot.eq (h:Tot c) (x y:α) (h1:ltOf c x y = false) (h2:ltOf c y x = false):x = y:=by
 unfold ltOf at *;have h1:=of_decide_eq_false h1;have h2:=of_decide_eq_false h2;have ha:=h.anti x y;exact (h.zero x y).1 b8i
abbrev Asc (c:α -> α -> Int) (l:List α):Prop:=l.Pairwise fun a b=>c a b < 0
theorem Tot.ext (h:Tot c):∀ {l m:List α},Asc c l -> Asc c m -> (∀ x,x ∈ l <-> x ∈ m) -> l = m
 | [],[],_,_,_=>rfl
 | [],y :: m,_,_,e=>by have:=(e y).2 b8l;cases this
 | x :: l,[],_,_,e=>by have:=(e x).1 b8l;cases this
 | x :: l,y :: m,h1,h2,e=>by
  have h1':=b6a.1 h1;have h2':=b6a.1 h2
  have hxy:x = y:=by
   apply Classical.byContradiction;intro hne
   have hx:x ∈ m:=by
    have:=(e x).1 b8l
    rcases b5k.1 this with e2 | e2
    · exact absurd e2 hne
    exact e2
   have hy:y ∈ l:=by
    have:=(e y).2 b8l
    rcases b5k.1 this with e2 | e2
    · exact absurd e2.symm hne
    exact e2
   have a1:=h2'.1 x hx;have a2:=h1'.1 y hy;have a3:=h.anti x y;omega
  subst hxy;refine congrArg (x :: ·) (Tot.ext h h1'.2 h2'.2 fun z=>⟨fun hz=>?_,fun hz=>?_⟩)
  · have:=(e z).1 (by simp [hz])
    rcases b5k.1 this with rfl | e2
    · have:=h1'.1 z hz;rw [h.self] at this;omega
    exact e2
  have:=(e z).2 (by simp [hz])
  rcases b5k.1 this with rfl | e2
  · have:=h2'.1 z hz;rw [h.self] at this;omega
  exact e2
theorem Tot.nodup (h:Tot c) {l:List α} (hl:Asc c l):l.Nodup:=hl.imp fun {a b} hab e=>by subst e;rw [h.self] at hab;omega
def a4k (c:α -> α -> Int) (l:List α):List α:=l.mergeSort fun x y=>!(ltOf c) y x
def aet {l:List α} {x:α}:x ∈ a4k c l <-> x ∈ l:=List.mem_mergeSort
def aem {l:List α}:(a4k c l).length = l.length:=b8g _
theorem Tot.srt (h:Tot c) (l:List α):(a4k c l).Pairwise fun a b=>¬ c b a < 0:=by
 have:=List.pairwise_mergeSort (le:=fun x y:α=>!(ltOf c) y x) (fun a b d h1 h2=>by
  simp only [b6j] at *
  exact h.swo.ntrans _ _ _ h2 h1) (fun a b=>by
  simp only [b6r,b6j,ltOf,decide_eq_false_iff_not];have:=h.anti a b
  omega) l
 refine this.imp fun {a b} hab=>?_;simpa [ltOf] using hab
end
def a7u:Tot sgn:=⟨fun a b=>by unfold sgn;repeat' split <;> omega,fun a b=>l3,fun a b d h1 h2=>by
 unfold sgn at *
 repeat' split at h1
 all_goals repeat' split at h2
 all_goals repeat' split
 all_goals omega⟩
def a1x {a b:Int}:sgn a b < 0 <-> a < b:=by unfold sgn;repeat' split <;> omega
def a9l:∀ (a b:List UInt8),fg b a = - fg a b
 | [],[]=>rfl
 | [],_ :: _=>rfl
 | _ :: _,[]=>rfl
 | x :: xs,y :: ys=>by
  unfold fg;by_cases h:x = y
  · subst h
    simp [a9l xs ys]
  rw [if_neg h,if_neg (fun e=>h e.symm)];exact a7u.anti _ _
def ahb:∀ (a b d:List UInt8),fg a b < 0 -> fg b d < 0 -> fg a d < 0
 | [],[],_,h1,_=>by simp [fg] at h1
 | [],_ :: _,[],_,h2=>by simp [fg] at h2
 | [],_ :: _,_ :: _,_,_=>by simp [fg]
 | _ :: _,[],_,h1,_=>by simp [fg] at h1
 | _ :: _,_ :: _,[],_,h2=>by simp [fg] at h2
 | x :: xs,y :: ys,z :: zs,h1,h2=>by
  unfold fg at *;by_cases e1:x = y
  · subst e1
    rw [if_pos rfl] at h1;by_cases e2:x = z
    · subst e2
      rw [if_pos rfl] at h2 ⊢;exact ahb xs ys zs h1 h2
    rw [if_neg e2] at h2 ⊢;exact h2
  rw [if_neg e1] at h1;by_cases e2:y = z
  · subst e2
    rw [if_neg e1];exact h1
  rw [if_neg e2] at h2;rw [a1x] at h1 h2;rw [if_neg (fun e=>by subst e;omega),a1x];omega
def ag2:Tot jq:=⟨fun a b=>a9l _ _,fun a b=>a2z,fun a b d=>ahb _ _ _⟩
def af0 {x y:Int}:(if x ≠ 0 then x else y) < 0 <-> x < 0 \/ (x = 0 /\ y < 0):=by
 split <;> omega
def au1 {a b:Val}:f5 a b < 0 <-> a.kind < b.kind \/ (a.kind = b.kind /\ (a.num < b.num \/ (a.num = b.num /\ jq a.str b.str < 0))):=by
 unfold f5;rw [af0,af0,a1x,a1x,l3,l3]
def l7:Tot f5:=⟨fun a b=>by
 unfold f5;rw [a7u.anti a.kind b.kind,a7u.anti a.num b.num,ag2.anti a.str b.str]
 repeat' split
 all_goals omega,fun a b=>vl,fun a b d h1 h2=>by
 rw [au1] at *
 rcases h1 with h1 | ⟨e1,h1⟩ <;> rcases h2 with h2 | ⟨e2,h2⟩
 · exact .inl b8i
 · exact .inl b8i
 · exact .inl b8i
 refine .inr ⟨by omega, ?_⟩
 rcases h1 with h1 | ⟨f1,h1⟩ <;> rcases h2 with h2 | ⟨f2,h2⟩
 · exact .inl b8i
 · exact .inl b8i
 · exact .inl b8i
 exact .inr ⟨by omega,ag2.tr _ _ _ h1 h2⟩⟩
def a04 {x y:Val} {xs ys:List Val}:cr (x :: xs) (y :: ys) < 0 <-> f5 x y < 0 \/ (x = y /\ cr xs ys < 0):=by
 rw [cr,af0,vl]
def a6n:∀ (a b:List Val),cr b a = - cr a b
 | [],[]=>rfl
 | [],_ :: _=>rfl
 | _ :: _,[]=>rfl
 | x :: xs,y :: ys=>by
  unfold cr;rw [l7.anti x y,a6n xs ys]
  repeat' split
  all_goals omega
def af4:∀ (a b d:List Val),cr a b < 0 -> cr b d < 0 -> cr a d < 0
 | [],[],_,h1,_=>by simp [cr] at h1
 | [],_ :: _,[],_,h2=>by simp [cr] at h2
 | [],_ :: _,_ :: _,_,_=>by simp [cr]
 | _ :: _,[],_,h1,_=>by simp [cr] at h1
 | _ :: _,_ :: _,[],_,h2=>by simp [cr] at h2
 | x :: xs,y :: ys,z :: zs,h1,h2=>by
  rw [a04] at *
  rcases h1 with h1 | ⟨rfl,h1⟩ <;> rcases h2 with h2 | ⟨rfl,h2⟩
  · exact .inl (l7.tr _ _ _ h1 h2)
  · exact .inl h1
  · exact .inl h2
  exact .inr ⟨rfl,af4 xs ys zs h1 h2⟩
def anw:Tot cr:=⟨a6n,fun a b=>z8,af4⟩
end
section
def a0n {P:Nat -> Prop} (h0:P 0) (h1:P 1) (h2:P 2):∀ j,j < 3 -> P j:=fun j hj=>by
 rcases (by omega:j = 0 \/ j = 1 \/ j = 2) with rfl | rfl | rfl <;> assumption
section
variable {k p:Nat}
def asp {α:Type} [Inhabited α] {wr wr':Bool} {n:Nat} {e:TypeId} {c:α -> Nat -> PV} {l:List α} {v:α} {x y z:PV} (hw:wr' = true -> wr = true) (hn:n = l.length) (hp:k = p) (hk:p < l.length) (hx:x = c v 0) (hy:y = c v 1) (hz:z = c v 2):
 CoO (.arr wr 3 e n (ew (lf c l) k 0 [x,y,z])) (.arr wr' 3 e n (lf c (l.set p v))):=by
 subst hp hx hy hz hn;refine ⟨hw,rfl,rfl,rfl,fun i j hi hj=>CoP.of_eq ?_⟩;unfold ew lf;by_cases h:i = k
 · subst h
   rw [if_pos ⟨rfl,by omega,by simpa using hj⟩,jg hk];revert j;exact a0n rfl rfl rfl
 rw [if_neg b8i,getD_set_ne' h]
def adk {α:Type} [Inhabited α] {wr wr':Bool} {n q d:Nat} {e:TypeId} {c:α -> Nat -> PV} {l l':List α} (hw:wr' = true -> wr = true) (hn:n = l.length) (hp:k = p) (hk:p < l.length) (hd:d = q):
 CoO (.arr wr 3 e n (ew (lf c l) k 0 [lf c l' d 0,lf c l' d 1,lf c l' d 2])) (.arr wr' 3 e n (lf c (l.set p (l'.getD q default)))):=asp hw hn hp hk (by rw [hd];rfl) (by rw [hd];rfl) (by rw [hd];rfl)
variable {a:Nat}
def ao1 {α:Type} [Inhabited α] {s n m:Nat} {cl:Bool} {c:α -> Nat -> PV} {l l':List α} {z:List Value} {p:Option Int} {h:Option Int} (hn:gp (bo n h) p = l'.length) (hp:p = none) (ha:l'.length <= a) (hl:l' = l.take l'.length):
 CoP (.sl (gp (bo n h) p) s cl (pn (pf (lf c l) a m z) p)) (psl s c l'):=by
 subst hp;refine CoP.sl hn.symm (.inl rfl) (fun h=>by cases h) fun i j hi hj=>CoP.of_eq ?_;rw [hn] at hi;show pf (lf c l) a m z i j = lf c l' i j;unfold pf;rw [if_neg b8i];simp only [lf,List.getD];have e:l'[i]? = l[i]?:=by rw [hl,b69,if_pos hi]
 rw [e]
structure CpJ (l:List Val) (k p q:Nat) (m:List Val):Prop where
 len:m.length = l.length
 kq:k < q
 pq:p < q
 ql:q <= l.length
 pre:m.take p = jx (l.take q)
 high:∀ j,q - 1 <= j -> m.getD j default = l.getD j default
variable {l:List Val}
theorem CpJ.start (h1:1 <= k) (hk:k < l.length) (h:∀ j,0 < j -> j < k -> ¬ l.getD j default = l.getD (j - 1) default) (hd:l.getD k default = l.getD (k - 1) default):CpJ l k k (k + 1) l :=
 ⟨rfl,by omega,by omega,by omega,by rw [gz b8i hk,if_pos hd.symm,b6h,qt b8i h],fun _ _=>rfl⟩
variable {m:List Val}
theorem CpJ.skip {q:Nat} (h:CpJ l k p q m) (hq:q < l.length) (he:m.getD q default = m.getD (q - 1) default):CpJ l k p (q + 1) m:=by
 have hk:=h.kq;refine ⟨h.len,by omega,by have:=h.pq;omega,hq, ?_,fun j hj=>h.high j b8i⟩;rw [h.high q b8i,h.high (q - 1) b8i] at he;rw [gz b8i hq,if_pos he.symm,b6h,h.pre]
theorem CpJ.keep {q:Nat} (h:CpJ l k p q m) (hq:q < l.length) (he:¬ m.getD q default = m.getD (q - 1) default):CpJ l k (p + 1) (q + 1) (m.set p (m.getD q default)):=by
 have hk:=h.kq;have hp:=h.pq;have hl:=h.len;refine ⟨by simp [hl],by omega,by omega,hq, ?_,fun j hj=>by rw [getD_set_ne' b8i];exact h.high j b8i⟩;have e:=h.high q b8i;rw [e,h.high (q - 1) b8i] at he;rw [gz b8i hq,if_neg (fun e=>he e.symm),<- h.pre,c0 (by simp [hl];omega),jg b8i,e];congr 1;rw [List.take_set,b84 b8w]
def agi (hk:l.length <= k) (h:∀ j,0 < j -> j < k -> ¬ l.getD j default = l.getD (j - 1) default):CoP (.sl l.length 3 false (lf Val.c l)) (vals (jx l)):=by
 have:=qt (b5g l.length) fun j h1 h2=>h j h1 b8i;rw [b67] at this;rw [this];exact CoP.refl _
def atc {q n d:Nat} {cl:Bool} {z:List Value} (hC:CpJ l k p q m) (hq:¬ q < l.length) (ha:p <= a):CoP (.sl (gp (bo n (some (p:Int))) none) 3 cl (pn (pf (lf Val.c m) a d z) none)) (vals (jx l)):=by
 have e:=hC.pre;have h1:=hC.ql;have h2:=hC.len;have h3:=hC.pq;rw [show q = l.length by omega,b67] at e;have el:(jx l).length = p:=by rw [<- e];simp;omega
 exact ao1 (by rw [el];rfl) rfl b8i (by rw [el,e])
def eqJ {b a' b':Nat} (h:(l.getD a' default).kind = (l.getD b' default).kind /\ (l.getD a' default).num = (l.getD b' default).num /\ (l.getD a' default).str = (l.getD b' default).str) (ha:a' = a) (hb:b' = b):l.getD a default = l.getD b default:=by subst ha hb;exact Val.eq_iff.2 h
def neJ {b a' b':Nat} (h:¬ ((l.getD a' default).kind = (l.getD b' default).kind /\ (l.getD a' default).num = (l.getD b' default).num /\ (l.getD a' default).str = (l.getD b' default).str)) (ha:a' = a) (hb:b' = b):¬ l.getD a default = l.getD b default:=by subst ha hb;exact fun e=>h (Val.eq_iff.1 e)
def b0x {b a' b':Nat} (h:¬ (l.getD a' default).kind = (l.getD b' default).kind \/ ¬ (l.getD a' default).num = (l.getD b' default).num \/ ¬ (l.getD a' default).str = (l.getD b' default).str) (ha:a' = a) (hb:b' = b):¬ l.getD a default = l.getD b default :=
 neJ (fun e=>by
  rcases h with h | h | h
  · exact h e.1
  · exact h e.2.1
  exact h e.2.2) ha hb
end
end
section
def nu (R:List Row) (a:Nat):List Val:=R.map fun r=>r.vals.getD a default
def x2 (R:List Row) (a:Nat):List Val:=jx (a4k f5 (nu R a))
def be (R:List Row) (n:Nat):List (List Val):=(List.range n).map (x2 R)
def b3c (R:List Row) (n a:Nat):List (List Val):=(List.range n).map fun i=>if i < a then x2 R i else []
def vlC (l:List Val):Nat -> PV:=fun _=>vals l
abbrev rj (l:List (List Val)):PV:=psl 1 vlC l
def ky (R:List Row) (s:AS) (k:Nat) (e:ByteArray):Bool:=R.any fun r=>decide (fp (r.vals.take k) s = e)
def t8 (R:List Row) (s:AS) (k:Nat):MK -> Option PV
 | .s b=>if ky R s k b = true then some (.raw (.bool true)) else none
 | .i _ _=>none
def mpC (N:Nat) (R:List Row) (s:AS) (k:Nat):PV:=mpP .str N (t8 R s k)
def lvF (R:List Row) (s:AS):Nat -> Nat -> PV:=fun k _=>mpC R.length R s k
def lvC (R:List Row) (n:Nat) (s:AS):Nat -> PV:=fun _=>.sl (n + 1) 1 false (lvF R s)
def lvT (R:List Row) (s:AS) (a:Nat):Nat -> Nat -> PV:=fun k _=>if k < a then mpC R.length R s k else .raw (.map none)
def lj (R:List Row) (vs:List Val) (m:Nat) (s:AS):Bool:=decide (1000 < m) || !ky R s vs.length (fp vs s)
def j7 (R:List Row) (ps:List AS) (vs:List Val) (m:Nat):Bool:=ps.any (lj R vs m)
def f0 (R:List Row) (ps:List AS) (cols:List (List Val)):Nat -> List Val -> List (List Val) -> List (List Val)
 | 0,vs,acc=>if j7 R ps vs acc.length = true then acc else acc ++ [vs]
 | d + 1,vs,acc=>if j7 R ps vs acc.length = true then acc else (cols.getD vs.length default).foldl (fun acc v=>f0 R ps cols d (vs ++ [v]) acc) acc
def ir (R:List Row) (ps:List AS) (n:Nat):List (List Val):=f0 R ps (be R n) n [] []
def f7 (l:List (List Val)):List Row:=(List.range l.length).map fun (i:Nat)=>⟨(i:Int) + 1,l.getD i []⟩
def jo (t:Tbl) (ps:List AS):Int :=
 if cb t ≠ 0 then cb t else if lvE t.attrs.length ps ≠ 0 then lvE t.attrs.length ps else if 1000 < (ir t.rows ps t.attrs.length).length then 3 else 0
def jp (t:Tbl) (ps:List AS):Tbl:=if jo t ps = 0 then ⟨t.name,t.attrs,f7 (ir t.rows ps t.attrs.length)⟩ else T0
section
variable {R:List Row} {m:Nat} {ps:List AS} {vs:List Val}
def a2a {i:Nat} (hi:i < ps.length) (h:lj R vs m (ps.getD i default) = true):j7 R ps vs m = true:=by
 unfold j7;rw [b6c];exact ⟨_,by rw [ca _ _ hi];exact b5l hi,h⟩
def ags (h:∀ j,j < ps.length -> lj R vs m (ps.getD j default) = false):j7 R ps vs m = false:=by
 unfold j7;rw [b6v];intro s hs;obtain ⟨i,hi,e⟩:=b5z hs;have:=h i hi;rw [ca _ _ hi,e] at this;simp [this]
variable {acc cols:List (List Val)}
def oq {d:Nat} (h:j7 R ps vs acc.length = true):f0 R ps cols d vs acc = acc:=by
 cases d <;> (unfold f0;rw [if_pos h])
def akt (h:j7 R ps vs acc.length = false):f0 R ps cols 0 vs acc = acc ++ [vs]:=by
 unfold f0;rw [if_neg (by simp [h])]
def uo (R:List Row) (ps:List AS) (cols:List (List Val)) (d:Nat) (vs:List Val) (acc:List (List Val)) (i:Nat):List (List Val) :=
 ((cols.getD vs.length default).take i).foldl (fun acc v=>f0 R ps cols d (vs ++ [v]) acc) acc
def a9p {d:Nat} {i:Nat} (hi:i < (cols.getD vs.length default).length):
 uo R ps cols d vs acc (i + 1) = f0 R ps cols d (vs ++ [(cols.getD vs.length default).getD i default]) (uo R ps cols d vs acc i):=by
 unfold uo;rw [c0 hi,b7p];rfl
def als {d:Nat} (h:j7 R ps vs acc.length = false):f0 R ps cols (d + 1) vs acc = uo R ps cols d vs acc (cols.getD vs.length default).length:=by
 rw [show f0 R ps cols (d + 1) vs acc = if j7 R ps vs acc.length = true then acc else (cols.getD vs.length default).foldl (fun acc v=>f0 R ps cols d (vs ++ [v]) acc) acc from rfl,if_neg (by simp [h])];unfold uo;rw [b67]
def ac5 (hp:0 < ps.length) (h:j7 R ps vs m = false):m <= 1000:=by
 unfold j7 at h;rw [b6v] at h;have:=h _ (b5l hp);unfold lj at this;simp only [b6r,decide_eq_true_eq,not_or] at this;omega
def ac0 (hp:0 < ps.length):∀ {d:Nat} {vs:List Val} {acc:List (List Val)},acc.length <= 1001 -> (f0 R ps cols d vs acc).length <= 1001
 | 0,vs,acc,h=>by
  unfold f0;split
  · exact h
  rename_i hs;have:=ac5 hp (by simpa using hs);rw [b5x,b6w];omega
 | d + 1,vs,acc,h=>by
  rw [show f0 R ps cols (d + 1) vs acc = if j7 R ps vs acc.length = true then acc else (cols.getD vs.length default).foldl (fun acc v=>f0 R ps cols d (vs ++ [v]) acc) acc from rfl];split
  · exact h
  generalize cols.getD vs.length default = l;rename_i hs;clear hs
  induction l generalizing acc with
  | nil=>exact h
  | cons v l ih=>exact ih _ (ac0 hp (d:=d) h)
def apk (hp:0 < ps.length) {d:Nat} {i:Nat} (h:acc.length <= 1001):(uo R ps cols d vs acc i).length <= 1001:=by
 unfold uo;generalize (cols.getD vs.length default).take i = l
 induction l generalizing acc with
 | nil=>exact h
 | cons v l ih=>exact ih (ac0 hp (d:=d) h)
variable {s:AS}
def a96 {k:Nat} {e:ByteArray}:sc (fun m=>(t8 R s k m).isSome) (fun m=>(t8 R s k m).getD .any) (.s e) (.bool false) = .raw (.bool (ky R s k e)):=by
 unfold sc t8;cases h:ky R s k e <;> simp [h] <;> rfl
def ai1 {k i:Nat} {e:ByteArray} (hi:i < R.length):ky (R.take (i + 1)) s k e = (ky (R.take i) s k e || decide (fp ((R.getD i default).vals.take k) s = e)):=by
 unfold ky;rw [c0 hi,List.any_append];simp
def vt {n:Nat}:(be R n).length = n:=by simp [be]
def ol {n a:Nat} (h:a < n):(be R n).getD a default = x2 R a:=by simp [be,List.getD,h]
def adb {l:List Val} (h:l.length <= 16):(fp l s).size <= maxLen:=by
 have:=aa2 (l:=l) (s:=s);unfold maxLen;omega
def a23 (h:(1000:Int) < (m:Int)):lj R vs m s = true:=by
 have:1000 < m:=by omega
 simp [lj,this]
def p6 (h:ky R s vs.length (fp vs s) = false):lj R vs m s = true:=by simp [lj,h]
def a29 (h0:¬ (1000:Int) < (m:Int)) (h:ky R s vs.length (fp vs s) = true):lj R vs m s = false:=by
 have:¬ 1000 < m:=by omega
 simp [lj,h,this]
end
end
section
open Go.RowKit
def ane (id n s:Nat) (F:Nat -> Nat -> PV):List HC -> List HC -> Prop
 | [],[]=>True
 | x :: xs,y :: ys=>(y = x \/ (x = .one (.ref id n) /\ y = .one (.p (.sl n s false F)))) /\ ane id n s F xs ys
 | _,_=>False
section
variable {e:TypeId} {n:Nat}
def cq.eat1 {P:Program} {f:FuncId} {args args':List HC} {o1:List (Nat × a6)} {res:HR} {o2:List (Nat × a6)} {fx:List Nat} {id s:Nat} {wr:Bool} {F:Nat -> Nat -> PV} (h:cq P f args o1 res o2 fx) (ha:ane id n s F args' args) (hid:lk o1 id = none) (hfx:∀ k ∈ fx,k ≠ id):cq P f args' ((id, .arr wr s e n F) :: o1) res o2 fx:=by
 classical
 intro w c us hm hargs
 have hlk:∀ k,k ≠ id -> lk ((id,a6.arr wr s e n F) :: o1) k = lk o1 k:=fun k hk=>by
  simp only [lk]
  have:Nat.beq id k = false:=by
   rw [b5m];exact fun hb=>hk (b62 hb).symm
  rw [this];rfl
 have hlki:lk ((id,a6.arr wr s e n F) :: o1) id = some (.arr wr s e n F):=by simp [lk]
 let frm:Imm:=fun b=>none
 let c2:Ctx:={ old:=(c.imm,frm,c.own,lk ((id,a6.arr wr s e n F) :: o1),c.rows),imm:=c.imm,tab:=c.tab,own:=c.own,blk:=c.blk,rows:=c.rows }
 have hrel:ah w 0 c2 ⟨fun _=>none,lk ((id,a6.arr wr s e n F) :: o1)⟩ { tmps:=#[],defers:=[] } w:=by
  refine ⟨ne.nil _ _ _ _,rfl,Below.refl _ _,(fun d x hx=>by cases hx),fun id ob ho=>?_,hm.inj,hm.imm,hm.sep,fun b _=>rfl,(fun b ob hbo=>by cases hbo),fun id ob b ho hbb=>rfl,fun id _=>Evo.of_same rfl rfl⟩;exact (hm.objs id ob ho).keep (Imm.le.refl c.imm) rfl rfl (fun _ _=>Evo.of_same rfl rfl) fun _ _=>rfl
 have hf:=hrel.freeze (id:=id) hlki;have hfa:=p8 hrel hlki
 have ho:(S.setO ⟨fun _=>none,lk ((id,a6.arr wr s e n F) :: o1)⟩ id none).o = lk o1:=by
  funext k;simp only [S.setO];by_cases hk:k = id
  · subst hk;rw [if_pos rfl,hid]
  rw [if_neg hk,hlk k hk]
 let c1:Ctx:={ old:=c.old,imm:=frozenImm c2 w id,tab:=md hrel hlki,own:=c.own,blk:=c.blk,rows:=c.rows }
 have hm1:Mem c1 (lk o1) w:=by
  rw [<- ho];exact ⟨fun k ob hk=>(hf.objs k ob hk).keep (c':=c1) (Imm.le.refl _) rfl rfl (fun _ _=>Evo.of_same rfl rfl) fun _ _=>rfl,hf.inj,hf.imm,hf.sep⟩
 have hevo:∀ k,Evo c (lk ((id,a6.arr wr s e n F) :: o1)) c1 (lk o1) k:=fun k=>by
  by_cases hk:k = id
  · subst hk;exact .inl hid
  exact Evo.of_same (hlk k hk).symm rfl
 have hle0:=ov hrel hlki;have hle:Imm.le c.imm c1.imm:=hle0
 have hrep:∀ {xs ys:List HC} {us:List Value},ane id n s F xs ys -> b9 c (lk ((id,a6.arr wr s e n F) :: o1)) xs us -> b9 c1 (lk o1) ys us:=by
  intro xs
  induction xs with
  | nil=>intro ys us h1 h2;cases ys <;> cases us <;> first | trivial | exact h1.elim | exact h2.elim
  | cons x xs ih =>
   intro ys us h1 h2
   cases ys with
   | nil=>exact h1.elim
   | cons y ys =>
    cases us with
    | nil=>exact h2.elim
    | cons u us =>
     refine ⟨?_,ih h1.2 h2.2⟩
     rcases h1.1 with rfl | ⟨rfl,rfl⟩
     · exact ey.evo hle (fun k _=>hevo k) h2.1
     obtain ⟨_,_,h3⟩:=h2.1;have hu:=(h3 _ _ _ _ hlki rfl).2 rfl;show am (frozenImm c2 w id) (.sl n s false F) u;rw [hu];exact hfa
 refine (h w c1 us hm1 (hrep ha hargs)).mono ?_;rintro ex w' ⟨v,c',rfl,h1,h2,h3,h4,h5,h6⟩;refine ⟨v,c',rfl,h1,h2,h3,fun b hb hno=>?_,fun k ob b hk hb=>?_,fun k hk=>?_⟩
 · have hnb:¬ c.blk id b:=hno id _ hlki
   obtain ⟨q1,q2⟩:=h4 b hb fun k ob hk=>by
    by_cases hki:k = id
    · subst hki;rw [hid] at hk;cases hk
    exact hno k ob (by rw [hlk k hki];exact hk)
   refine ⟨q1,q2.trans ?_⟩;show frozenImm c2 w id b = c.imm b;unfold frozenImm;rw [if_neg hnb]
 · rcases h5 k ob b hk hb with h5 | ⟨id0,ob0,q1,q2⟩
   · exact .inl h5
   by_cases hki:id0 = id
   · subst hki;rw [hid] at q1;cases q1
   exact .inr ⟨id0,ob0,by rw [hlk id0 hki];exact q1,q2⟩
 have hki:=hfx k hk;exact (Evo.of_same (hlk k hki).symm rfl:Evo c (lk ((id,a6.arr wr s e n F) :: o1)) c1 (lk o1) k).trans (h6 k hk)
def fu (i0:Nat) (h:HV) (g:Nat -> Nat -> PV):Nat -> Nat -> HV:=fun i j=>if i = i0 then h else .p (g i j)
variable {g:Nat -> Nat -> PV}
def yu {i0:Nat} {h:HV} {j:Nat}:fu i0 h g i0 j = h:=if_pos rfl
variable {Q:Exit -> HSt -> Prop}
def aai {ro:Option Nat} {P:Program} {nt:Nat} {st:HSt} {co:Code} (x i0 id:Nat) (wr:Bool) {n2 s':Nat} {e2:TypeId} {f':Nat -> Nat -> PV} (s:Nat) (e:TypeId) (f:Nat -> Nat -> PV) (hs:0 < s) (hb:bc st.o x = some (.arr true 1 e2 n2 g)) (hi:i0 < n2) (hl:g i0 0 = .sl n s' true f') (hco:CoP (.sl n s' true f') (.sl n s true f)) (hwr:wr = false \/ n = 0) (hn:po id st = true) (hne:Nat.beq x id = false) (h:HW (ro:=ro) P nt co ⟨st.t,(x,some (.arrh 1 e2 n2 [id] (fu i0 (.ref id n) g))) :: (id,some (.arr wr s e n f)) :: st.o⟩ Q):HW (ro:=ro) P nt co st Q:=fun w0 m0 a w hr=>by
 refine h w0 m0 a w ?_;obtain ⟨hnm,hno⟩:=kj hn;obtain ⟨cc,hold,hrr⟩:=hr;have hbi:x ≠ id:=by rintro rfl;simp at hne
 obtain ⟨p0,p1,p2⟩:=hrr.objs x _ hb
 obtain ⟨p3,xs,p4,p5⟩:cc.blk x = gj (cc.own x) /\ ∃ xs,w.ownsRow 0 e2 1 (cc.own x) n2 xs /\ ∀ i j,i < n2 -> j < 1 -> ∃ u,xs[i * 1 + j]? = some u /\ am cc.imm (g i j) u:=by
  rcases p2 with p2 | ⟨p2 | p2,_⟩
  · exact p2
  · cases p2
  omega
 obtain ⟨u,hu,hur⟩:=p5 i0 0 hi b8i;rw [hl] at hur;have hx:am cc.imm (.sl n s true f) u:=hco _ _ hur;have hnm':n <= maxLen:=by obtain ⟨ad,cap,_,q1,q2,_⟩:=hx;omega
 have hfresh:=hrr.fresh id hnm hno (.arr wr s e n f) w u noB (Grw.refl w none) (fun b hb=>hb.elim) ⟨hs,hnm', .inr ⟨hwr,by simp,by simpa using hx⟩⟩;rw [<- mf] at hfresh
 have hb':(HSt.den ⟨st.t,(id,some (.arr wr s e n f)) :: st.o⟩).o x = some (.arr true 1 e2 n2 g):=by
  simp only [HSt.den,ay,hbi,if_false];exact hb
 have hevo:∀ (c1:Ctx),c1.own = (fun k=>if k = id then u else cc.own k) -> Evo { old:=cc.old,imm:=cc.imm,tab:=cc.tab,own:=fun k=>if k = id then u else cc.own k,blk:=fun k=>if k = id then noB else cc.blk k,rows:=cc.rows } (HSt.den ⟨st.t,(id,some (.arr wr s e n f)) :: st.o⟩).o c1 ((HSt.den ⟨st.t,(id,some (.arr wr s e n f)) :: st.o⟩).setO x (some (.arrh 1 e2 n2 [id] (fu i0 (.ref id n) g)))).o x:=fun c1 h1 =>
  .inr (.inr ⟨_, .arrh 1 e2 n2 [id] (fu i0 (.ref id n) g),1,e2,n2,n2,hb',rfl,by simp [S.setO],rfl,b5g _,fun _=>by rw [h1],fun _ _ _ _ _ _ _ hb=>by cases hb⟩)
 have hown:(fun k=>if k = x then (fun k=>if k = id then u else cc.own k) x else (fun k=>if k = id then u else cc.own k) k) = fun k=>if k = id then u else cc.own k:=by
  funext k;by_cases hk:k = x
  · subst hk;simp
  simp [hk]
 have hw:=hfresh.write x _ hb' (.arrh 1 e2 n2 [id] (fu i0 (.ref id n) g)) w ((fun k=>if k = id then u else cc.own k) x) ((fun k=>if k = id then noB else cc.blk k) x) none (Grw.refl w _) (fun _ e=>by cases e) (hevo _ (by exact hown)) (fun b hb=>.inl hb) (by
  refine ⟨by omega,p1,fun i j k hi hj hk=>?_, .inl ⟨by simpa [hbi] using p3,xs,by simpa [hbi] using p4,fun i j hi' hj=>?_⟩⟩
  · unfold fu at hk
    split at hk
    · have hk:k = id:=hk
      rw [hk];exact b61.2 rfl
    exact hk.elim
  obtain ⟨u',hu',hr'⟩:=p5 i j hi' hj;refine ⟨u',hu', ?_⟩;obtain rfl:j = 0:=by omega
  unfold fu;by_cases hk:i = i0
  · subst hk
    rw [if_pos rfl];rw [hu] at hu';simp only [b5a] at hu';subst hu';refine ⟨am.oneCell hx,fun l2=>by simp [S.setO,HSt.den,ay,Ne.symm hbi],fun ob1 s1 e1 n1 ho hd1=>?_⟩;simp only [S.setO,HSt.den,ay,Ne.symm hbi,if_false,if_true,b5a] at ho;subst ho;simp only [a6.dim,b5a,b5f] at hd1;obtain ⟨rfl,rfl,rfl⟩:=hd1;exact ⟨b5g _,fun _=>by simp [Ne.symm hbi]⟩
  rw [if_neg hk]
  exact hr')
 have e:HSt.den ⟨st.t,(x,some (.arrh 1 e2 n2 [id] (fu i0 (.ref id n) g))) :: (id,some (.arr wr s e n f)) :: st.o⟩ = (HSt.den ⟨st.t,(id,some (.arr wr s e n f)) :: st.o⟩).setO x (some (.arrh 1 e2 n2 [id] (fu i0 (.ref id n) g))):=by
  unfold HSt.den S.setO;simp only [S.mk.injEq,true_and];funext k;simp only [ay]
 rw [e];exact ⟨_,(by exact hold),hw⟩
def akx {ro:Option Nat} {P:Program} {nt:Nat} {st:HSt} {co:Code} (x:Nat) (ob':a6) {ob:a6} (ho:bc st.o x = some ob) (hc:CoO ob ob') (h:HW (ro:=ro) P nt co ⟨st.t,(x,some ob') :: st.o⟩ Q):HW (ro:=ro) P nt co st Q:=fun w0 m0 a w hr=>by
 obtain ⟨cc,hold,hrr⟩:=hr;refine h w0 m0 a w ⟨cc,hold,hrr.relax _ (fun d y hy=>⟨y,hy,CoR.refl _⟩) fun id ob2 ho2=>?_⟩;simp only [HSt.den,ay] at ho2;by_cases hk:id = x
 · subst hk
   rw [if_pos rfl] at ho2;simp only [b5a] at ho2;subst ho2;exact ⟨ob,ho,hc⟩
 rw [if_neg hk] at ho2;exact ⟨ob2,ho2,CoO.refl _⟩
def axv {s:Nat}:CoO (.arr true s e n g) (.arrh s e n [] fun i j=>.p (g i j)):=⟨.inl rfl,rfl,rfl,rfl,fun _ _ _ _=>CoP.refl _⟩
variable {ms:List Nat}
def afn {a a' X:Nat} {h0 h1:HV} (h:a' = a) (hm:∀ k,h1.men k -> k = X:=by exact fun _ h=>h):CoO (.arrh 1 e n ms (ke (fu a h0 g) a' 0 [h1])) (.arrh 1 e n [X] (fu a h1 g)):=by
 subst h;refine ⟨rfl,rfl,rfl,fun i j hi hj=>?_, .inr fun i j k hi hj hk=>?_⟩
 · obtain rfl:j = 0:=by omega
   unfold ke fu;by_cases hia:i = a'
   · subst hia
     rw [if_pos ⟨rfl,by omega,by simp⟩,if_pos rfl];exact CoH.refl _
   rw [if_neg (fun e=>hia e.1),if_neg hia,if_neg hia];exact CoH.refl _
 unfold fu at hk;split at hk
 · rw [hm k hk];exact b61.2 rfl
 exact hk.elim
def afc {a a' X:Nat} {h1:HV} (h:a' = a) (hm:∀ k,h1.men k -> k = X:=by exact fun _ h=>h):CoO (.arrh 1 e n ms (ke (fun i j=>.p (g i j)) a' 0 [h1])) (.arrh 1 e n [X] (fu a h1 g)):=by
 subst h;refine ⟨rfl,rfl,rfl,fun i j hi hj=>?_, .inr fun i j k hi hj hk=>?_⟩
 · obtain rfl:j = 0:=by omega
   unfold ke fu;by_cases hia:i = a'
   · subst hia
     rw [if_pos ⟨rfl,by omega,by simp⟩,if_pos rfl];exact CoH.refl _
   rw [if_neg (fun e=>hia e.1),if_neg hia];exact CoH.refl _
 unfold fu at hk;split at hk
 · rw [hm k hk];exact b61.2 rfl
 exact hk.elim
def aci {a a':Nat} {h0:HV} {y:PV} {g':Nat -> Nat -> PV} (h:a' = a) (hy:CoP y (g' a 0)) (hg:∀ i,i < n -> i ≠ a -> CoP (g i 0) (g' i 0)):CoO (.arrh 1 e n ms (ke (fu a h0 g) a' 0 [.p y])) (.arr true 1 e n g'):=by
 subst h;refine ⟨rfl,rfl,rfl,fun i j hi hj=>?_⟩;obtain rfl:j = 0:=by omega
 unfold ke fu;by_cases hia:i = a'
 · subst hia
   rw [if_pos ⟨rfl,by omega,by simp⟩];exact hy
 rw [if_neg (fun e=>hia e.1),if_neg hia];exact hg i hi hia
end
end
end Go.Hx

/- A part of the proof: Jn1 Jo1 Jc1 Jn2 Hx31. -/
import Derived.Shelf.SlSortCmp.Insertion
import Derived.Test.YteklilhbjjofbaaGreatDoorLe25
set_option linter.all false
namespace Go.Hx
section
def byC (b:Int):Nat -> PV
 | 0=>.raw (.int .u8 b)
 | _=>.any
abbrev byl (l:List Int):PV:=psl 1 byC l
def uN (n:Int):Int:=k8 .xor .u64 (IntKind.wrap .u64 n) 9223372036854775808
def byK (u:Int) (s:Nat):Int:=IntKind.wrap .u8 (u.fdiv (2 ^ (min s 64)))
def qu (n:Int):List Int:=(List.range 8).map fun i=>byK (uN n) (56 - 8 * i)
def vl (x:UInt8):List Int:=if x = 0 then [0,255] else [(x.toNat:Int)]
def ke (l:List UInt8):List Int:=l.flatMap vl
def jc (v:Val):List Int:=IntKind.wrap .u8 v.kind :: (if v.kind = 1 \/ v.kind = 3 then qu v.num else if v.kind = 2 then ke (bl v.str) ++ [0,1] else [])
def x3 (v:Val):ByteArray:=if bp v = true then strOfNums (jc v) else emp
def amz (v:Val):Int:=if bp v = true then 0 else 1
def i2 (s:AS):Nat -> List Val -> ByteArray
 | _,[]=>emp
 | a,v :: vs=>if s.getLsbD a = true then x3 v ++ i2 s (a + 1) vs else i2 s (a + 1) vs
def ff (l:List Val) (s:AS):ByteArray:=i2 s 0 l
def u5 (n:Int):(qu n).length = 8:=by simp [qu]
def a9w (l:List UInt8):(ke l).length <= 2 * l.length:=by
 induction l with
 | nil=>simp [ke]
 | cons x l ih =>
  simp only [ke,b53,b2v,b3r] at ih ⊢;have:(vl x).length <= 2:=by unfold vl;split <;> simp
  omega
section
variable {v:Val}
def a7q:(x3 v).size <= 403:=by
 unfold x3;split
 · rename_i h
   have hs:=xn h;rw [strOfNums_size,jc,b3r];split
   · rw [u5];omega
   split
   · have:=a9w (bl v.str)
     rw [en] at this;rw [b2v];simp;omega
   simp
 exact b2n _
def an1 (a b:ByteArray):(a ++ b).size = a.size + b.size:=ByteArray.size_append
variable {s:AS}
def a83:∀ {l:List Val} {a:Nat},(i2 s a l).size <= 403 * l.length
 | [],_=>b2n _
 | v :: l,a=>by
  have h1:=a7q (v:=v);have h2:(i2 s (a + 1) l).size <= 403 * l.length:=a83;unfold i2;rw [b3r];split
  · rw [an1];omega
  omega
def arx (a:ByteArray):a ++ emp = a:=ByteArray.append_empty
def aqy (a:ByteArray):emp ++ a = a:=ByteArray.empty_append
def zh:∀ {l:List Val} {a:Nat} {v:Val},i2 s a (l ++ [v]) = if s.getLsbD (a + l.length) = true then i2 s a l ++ x3 v else i2 s a l
 | [],a,v=>by
  simp only [b42,i2,b4x,b49];split
  · rw [arx,aqy]
  rfl
 | x :: l,a,v=>by
  have ih:i2 s (a + 1) (l ++ [v]) = if s.getLsbD (a + 1 + l.length) = true then i2 s (a + 1) l ++ x3 v else i2 s (a + 1) l:=zh
  simp only [b43,i2,b3r];rw [ih,show a + 1 + l.length = a + (l.length + 1) by omega];split <;> split <;> simp [ByteArray.append_assoc]
def oz (n:Int) (i:Nat):List Int:=(List.range i).map fun i=>byK (uN n) (56 - 8 * i)
def aic (n:Int) (i:Nat):oz n (i + 1) = oz n i ++ [byK (uN n) (56 - 8 * i)]:=by
 unfold oz;rw [List.range_succ,List.map_append];rfl
def acx (n:Int):oz n 8 = qu n:=rfl
variable {i:Nat}
def a9v {l:List Int} {n:Int}:l ++ oz n (i + 1) = (l ++ oz n i) ++ [byK (uN n) (56 - 8 * i)]:=by rw [aic,b3o]
abbrev kB (v:Val):Int:=IntKind.wrap .u8 v.kind
def nn (h:v.kind = 1 \/ v.kind = 3):jc v = [kB v] ++ qu v.num:=by
 unfold jc;rw [if_pos h];rfl
def pk (v:Val) (i:Nat):List Int:=kB v :: ke ((bl v.str).take i)
def a8u (hi:i < v.str.size) (h:bn v.str i = 0):pk v (i + 1) = (pk v i ++ [bn v.str i]) ++ [255]:=by
 have hl:i < (bl v.str).length:=by rw [en];exact hi
 unfold pk ke;rw [bf hl,List.flatMap_append]
 have e:bn v.str i = (((bl v.str).getD i default).toNat:Int):=by
  rw [b9 _ _ hl];unfold bn;rw [b2i,b2h hl];rfl
 have h0:(bl v.str).getD i default = 0:=by
  rw [e] at h;exact UInt8.toNat_inj.1 (by simpa using h)
 rw [e,h0];simp [vl]
def a8s (hi:i < v.str.size) (h:¬ bn v.str i = 0):pk v (i + 1) = pk v i ++ [bn v.str i]:=by
 have hl:i < (bl v.str).length:=by rw [en];exact hi
 unfold pk ke;rw [bf hl,List.flatMap_append]
 have e:bn v.str i = (((bl v.str).getD i default).toNat:Int):=by
  rw [b9 _ _ hl];unfold bn;rw [b2i,b2h hl];rfl
 have h0:¬ (bl v.str).getD i default = 0:=fun h0=>by
  rw [e,h0] at h;exact h rfl
 rw [e];simp only [b53,List.flatMap_nil,vl,if_neg h0,b3i,b43]
def arm:(pk v i).length <= 1 + 2 * v.str.size:=by
 have h:=a9w ((bl v.str).take i);have h2:((bl v.str).take i).length <= v.str.size:=by rw [b2y,en];omega
 simp only [pk,b3r];omega
def b5x {p:Prop} (h:p:=by rw [en];omega):p:=h
def nf (h:v.kind = 2):jc v = pk v v.str.size ++ [0,1]:=by
 unfold jc pk;rw [if_neg b5h,if_pos h,b44 b5x];rfl
def ng (h1:¬ v.kind = 1) (h3:¬ v.kind = 3) (h2:¬ v.kind = 2):jc v = [kB v]:=by
 unfold jc;rw [if_neg b5h,if_neg h2]
def af9 (h:bp v = true):x3 v = strOfNums (jc v):=if_pos h
def arh (h:bp v = false):x3 v = emp:=if_neg (by simp [h])
def arl (h:bp v = true):amz v = 0:=if_pos h
def as9 (h:bp v = false):amz v = 1:=if_neg (by simp [h])
def asd (l:List Int):a6m l.length (lf byC l) = strOfNums l:=by
 unfold a6m;congr 1;refine List.ext_getElem b5k fun i h1 h2=>?_;simp [a8v,lf,byC,List.getD,h2]
variable {l:List Val}
def aor (hi:i < l.length) (h32:i < 32) (h:k8 .and .u32 ((asI s).fdiv (2 ^ (min i 32))) 1 = 1):ff (l.take (i + 1)) s = ff (l.take i) s ++ x3 (l.getD i default):=by
 rw [lj h32,ew h32] at h;unfold ff;rw [bf hi,zh,b2y,b3n b5h,b30,if_pos h]
def aog (hi:i < l.length) (h32:i < 32) (h:¬ k8 .and .u32 ((asI s).fdiv (2 ^ (min i 32))) 1 = 1):ff (l.take (i + 1)) s = ff (l.take i) s:=by
 rw [lj h32,ew h32] at h;unfold ff;rw [bf hi,zh,b2y,b3n b5h,b30,if_neg h]
def a86:(ff l s).size <= 403 * l.length:=a83
def a82 {α:Type} [Inhabited α] {wr wr':Bool} {e:TypeId} {c:α -> Nat -> PV} {l l':List α} {x y:α} {g g':Nat -> Nat -> PV} (h:l' = (l ++ [x]) ++ [y]) (hg:CoP (g 0 0) (c x 0)) (hg':CoP (g' 0 0) (c y 0)) (hw:wr' = true -> wr = true:=by exact fun h=>h) :
 CoO (.arr wr 1 e (l.length + 1 + 1) (d8 (l.length + 1) (d8 l.length (lf c l) g) g')) (.arr wr' 1 e l'.length (lf c l')):=by
 subst h;refine ⟨hw,rfl,rfl,by simp,fun i j hi hj=>?_⟩;obtain rfl:j = 0:=by omega
 unfold d8 lf;by_cases h1:i < l.length
 · rw [if_pos b5h,if_pos h1]
   refine CoP.of_eq ?_;simp [List.getD,List.getElem?_append,h1,show i < l.length + 1 by omega]
 by_cases h2:i = l.length
 · subst h2
   rw [if_pos b5h,if_neg b5h,Nat.sub_self];simpa [List.getD] using hg
 obtain rfl:i = l.length + 1:=by omega
 rw [if_neg b5h,Nat.sub_self];simpa [List.getD] using hg'
def xq {α:Type} [Inhabited α] {wr wr':Bool} {e:TypeId} {c:α -> Nat -> PV} {l l':List α} {x y:α} {g:Nat -> Nat -> PV} (h:l' = l ++ [x,y]) (hg:CoP (g 0 0) (c x 0)) (hg':CoP (g 1 0) (c y 0)) (hw:wr' = true -> wr = true:=by exact fun h=>h) :
 CoO (.arr wr 1 e (l.length + 2) (d8 l.length (lf c l) g)) (.arr wr' 1 e l'.length (lf c l')):=by
 subst h;refine akt [x,y] hw rfl fun i j hi hj=>?_;obtain rfl:j = 0:=by omega
 have hi:i < 2:=hi
 rcases (by omega:i = 0 \/ i = 1) with rfl | rfl
 · exact hg
 exact hg'
end
end
section
open Go.Proofs Go.RowKit Go.Sort
structure Tot {α:Type} (c:α -> α -> Int):Prop where
 anti:∀ a b,c b a = - c a b
 zero:∀ a b,c a b = 0 <-> a = b
 tr:∀ a b d,c a b < 0 -> c b d < 0 -> c a d < 0
section
variable {α:Type} {c:α -> α -> Int}
theorem Tot.self (h:Tot c) (a:α):c a a = 0:=(h.zero a a).2 rfl
theorem Tot.tri (h:Tot c) {a b:α} (hab:a ≠ b):c a b < 0 \/ c b a < 0:=by
 have h1:=h.anti a b;have h2:c a b ≠ 0:=fun e=>hab ((h.zero a b).1 e);omega
theorem Tot.swo (h:Tot c):SWO (ltOf c) where
 irrefl x:=by unfold ltOf;rw [h.self];rfl
 trans x y z h1 h2:=by
  unfold ltOf at *;exact decide_eq_true (h.tr x y z (of_decide_eq_true h1) (of_decide_eq_true h2))
 ntrans x y z h1 h2:=by
  unfold ltOf at *;refine decide_eq_false fun hxz=>?_;have h1:=of_decide_eq_false h1;have h2:=of_decide_eq_false h2;have ha:=h.anti x y;by_cases e:x = y
  · subst e;exact h2 hxz
  have:c x y ≠ 0:=fun e2=>e ((h.zero x y).1 e2);exact h2 (h.tr y x z b5h hxz)
theorem Tot.eq (h:Tot c) (x y:α) (h1:ltOf c x y = false) (h2:ltOf c y x = false):x = y:=by
 unfold ltOf at *;have h1:=of_decide_eq_false h1;have h2:=of_decide_eq_false h2;have ha:=h.anti x y;exact (h.zero x y).1 b5h
abbrev Asc (c:α -> α -> Int) (l:List α):Prop:=l.Pairwise fun a b=>c a b < 0
theorem Tot.ext (h:Tot c):∀ {l m:List α},Asc c l -> Asc c m -> (∀ x,x ∈ l <-> x ∈ m) -> l = m
 | [],[],_,_,_=>rfl
 | [],y :: m,_,_,e=>by have:=(e y).2 b5k;cases this
 | x :: l,[],_,_,e=>by have:=(e x).1 b5k;cases this
 | x :: l,y :: m,h1,h2,e=>by
  have h1':=b3h.1 h1;have h2':=b3h.1 h2
  have hxy:x = y:=by
   apply Classical.byContradiction;intro hne
   have hx:x ∈ m:=by
    have:=(e x).1 b5k
    rcases b2s.1 this with e2 | e2
    · exact absurd e2 hne
    exact e2
   have hy:y ∈ l:=by
    have:=(e y).2 b5k
    rcases b2s.1 this with e2 | e2
    · exact absurd e2.symm hne
    exact e2
   have a1:=h2'.1 x hx;have a2:=h1'.1 y hy;have a3:=h.anti x y;omega
  subst hxy;refine congrArg (x :: ·) (Tot.ext h h1'.2 h2'.2 fun z=>⟨fun hz=>?_,fun hz=>?_⟩)
  · have:=(e z).1 (by simp [hz])
    rcases b2s.1 this with rfl | e2
    · have:=h1'.1 z hz;rw [h.self] at this;omega
    exact e2
  have:=(e z).2 (by simp [hz])
  rcases b2s.1 this with rfl | e2
  · have:=h2'.1 z hz;rw [h.self] at this;omega
  exact e2
theorem Tot.nodup (h:Tot c) {l:List α} (hl:Asc c l):l.Nodup:=hl.imp fun {a b} hab e=>by subst e;rw [h.self] at hab;omega
def a2n (c:α -> α -> Int) (l:List α):List α:=l.mergeSort fun x y=>!(ltOf c) y x
def aaw {l:List α} {x:α}:x ∈ a2n c l <-> x ∈ l:=List.mem_mergeSort
def ad3 {l:List α}:(a2n c l).length = l.length:=b5g _
theorem Tot.srt (h:Tot c) (l:List α):(a2n c l).Pairwise fun a b=>¬ c b a < 0:=by
 have:=List.pairwise_mergeSort (le:=fun x y:α=>!(ltOf c) y x) (fun a b d h1 h2=>by
  simp only [b3k] at *
  exact h.swo.ntrans _ _ _ h2 h1) (fun a b=>by
  simp only [b3s,b3k,ltOf,decide_eq_false_iff_not];have:=h.anti a b
  omega) l
 refine this.imp fun {a b} hab=>?_;simpa [ltOf] using hab
end
def a73:Tot sgn:=⟨fun a b=>by unfold sgn;repeat' split <;> omega,fun a b=>jw,fun a b d h1 h2=>by
 unfold sgn at *
 repeat' split at h1
 all_goals repeat' split at h2
 all_goals repeat' split
 all_goals omega⟩
def a0s {a b:Int}:sgn a b < 0 <-> a < b:=by unfold sgn;repeat' split <;> omega
def a7e:∀ (a b:List UInt8),ey b a = - ey a b
 | [],[]=>rfl
 | [],_ :: _=>rfl
 | _ :: _,[]=>rfl
 | x :: xs,y :: ys=>by
  unfold ey;by_cases h:x = y
  · subst h
    simp [a7e xs ys]
  rw [if_neg h,if_neg (fun e=>h e.symm)];exact a73.anti _ _
def aeo:∀ (a b d:List UInt8),ey a b < 0 -> ey b d < 0 -> ey a d < 0
 | [],[],_,h1,_=>by simp [ey] at h1
 | [],_ :: _,[],_,h2=>by simp [ey] at h2
 | [],_ :: _,_ :: _,_,_=>by simp [ey]
 | _ :: _,[],_,h1,_=>by simp [ey] at h1
 | _ :: _,_ :: _,[],_,h2=>by simp [ey] at h2
 | x :: xs,y :: ys,z :: zs,h1,h2=>by
  unfold ey at *;by_cases e1:x = y
  · subst e1
    rw [if_pos rfl] at h1;by_cases e2:x = z
    · subst e2
      rw [if_pos rfl] at h2 ⊢;exact aeo xs ys zs h1 h2
    rw [if_neg e2] at h2 ⊢;exact h2
  rw [if_neg e1] at h1;by_cases e2:y = z
  · subst e2
    rw [if_neg e1];exact h1
  rw [if_neg e2] at h2;rw [a0s] at h1 h2;rw [if_neg (fun e=>by subst e;omega),a0s];omega
def afn:Tot j4:=⟨fun a b=>a7e _ _,fun a b=>a1x,fun a b d=>aeo _ _ _⟩
def abz {x y:Int}:(if x ≠ 0 then x else y) < 0 <-> x < 0 \/ (x = 0 /\ y < 0):=by
 split <;> omega
def aqw {a b:Val}:dl a b < 0 <-> a.kind < b.kind \/ (a.kind = b.kind /\ (a.num < b.num \/ (a.num = b.num /\ j4 a.str b.str < 0))):=by
 unfold dl;rw [abz,abz,a0s,a0s,jw,jw]
def j7:Tot dl:=⟨fun a b=>by
 unfold dl;rw [a73.anti a.kind b.kind,a73.anti a.num b.num,afn.anti a.str b.str]
 repeat' split
 all_goals omega,fun a b=>uf,fun a b d h1 h2=>by
 rw [aqw] at *
 rcases h1 with h1 | ⟨e1,h1⟩ <;> rcases h2 with h2 | ⟨e2,h2⟩
 · exact .inl b5h
 · exact .inl b5h
 · exact .inl b5h
 refine .inr ⟨by omega, ?_⟩
 rcases h1 with h1 | ⟨f1,h1⟩ <;> rcases h2 with h2 | ⟨f2,h2⟩
 · exact .inl b5h
 · exact .inl b5h
 · exact .inl b5h
 exact .inr ⟨by omega,afn.tr _ _ _ h1 h2⟩⟩
def yd {x y:Val} {xs ys:List Val}:br (x :: xs) (y :: ys) < 0 <-> dl x y < 0 \/ (x = y /\ br xs ys < 0):=by
 rw [br,abz,uf]
def a4s:∀ (a b:List Val),br b a = - br a b
 | [],[]=>rfl
 | [],_ :: _=>rfl
 | _ :: _,[]=>rfl
 | x :: xs,y :: ys=>by
  unfold br;rw [j7.anti x y,a4s xs ys]
  repeat' split
  all_goals omega
def a9g:∀ (a b d:List Val),br a b < 0 -> br b d < 0 -> br a d < 0
 | [],[],_,h1,_=>by simp [br] at h1
 | [],_ :: _,[],_,h2=>by simp [br] at h2
 | [],_ :: _,_ :: _,_,_=>by simp [br]
 | _ :: _,[],_,h1,_=>by simp [br] at h1
 | _ :: _,_ :: _,[],_,h2=>by simp [br] at h2
 | x :: xs,y :: ys,z :: zs,h1,h2=>by
  rw [yd] at *
  rcases h1 with h1 | ⟨rfl,h1⟩ <;> rcases h2 with h2 | ⟨rfl,h2⟩
  · exact .inl (j7.tr _ _ _ h1 h2)
  · exact .inl h1
  · exact .inl h2
  exact .inr ⟨rfl,a9g xs ys zs h1 h2⟩
def ku:Tot br:=⟨a4s,fun a b=>xg,a9g⟩
end
section
def sw {P:Nat -> Prop} (h0:P 0) (h1:P 1) (h2:P 2):∀ j,j < 3 -> P j:=fun j hj=>by
 rcases (by omega:j = 0 \/ j = 1 \/ j = 2) with rfl | rfl | rfl <;> assumption
section
variable {k p:Nat}
def aqc {α:Type} [Inhabited α] {wr wr':Bool} {n:Nat} {e:TypeId} {c:α -> Nat -> PV} {l:List α} {v:α} {x y z:PV} (hw:wr' = true -> wr = true) (hn:n = l.length) (hp:k = p) (hk:p < l.length) (hx:x = c v 0) (hy:y = c v 1) (hz:z = c v 2):
 CoO (.arr wr 3 e n (da (lf c l) k 0 [x,y,z])) (.arr wr' 3 e n (lf c (l.set p v))):=by
 subst hp hx hy hz hn;refine ⟨hw,rfl,rfl,rfl,fun i j hi hj=>CoP.of_eq ?_⟩;unfold da lf;by_cases h:i = k
 · subst h
   rw [if_pos ⟨rfl,by omega,by simpa using hj⟩,f4 hk];revert j;exact sw rfl rfl rfl
 rw [if_neg b5h,getD_set_ne' h]
def aau {α:Type} [Inhabited α] {wr wr':Bool} {n q d:Nat} {e:TypeId} {c:α -> Nat -> PV} {l l':List α} (hw:wr' = true -> wr = true) (hn:n = l.length) (hp:k = p) (hk:p < l.length) (hd:d = q):
 CoO (.arr wr 3 e n (da (lf c l) k 0 [lf c l' d 0,lf c l' d 1,lf c l' d 2])) (.arr wr' 3 e n (lf c (l.set p (l'.getD q default)))):=aqc hw hn hp hk (by rw [hd];rfl) (by rw [hd];rfl) (by rw [hd];rfl)
variable {a:Nat}
def ao3 {α:Type} [Inhabited α] {s n m:Nat} {cl:Bool} {c:α -> Nat -> PV} {l l':List α} {z:List Value} {p:Option Int} {h:Option Int} (hn:fu (bo n h) p = l'.length) (hp:p = none) (ha:l'.length <= a) (hl:l' = l.take l'.length):
 CoP (.sl (fu (bo n h) p) s cl (ns (nx (lf c l) a m z) p)) (psl s c l'):=by
 subst hp;refine CoP.sl hn.symm (.inl rfl) (fun h=>by cases h) fun i j hi hj=>CoP.of_eq ?_;rw [hn] at hi;show nx (lf c l) a m z i j = lf c l' i j;unfold nx;rw [if_neg b5h];simp only [lf,List.getD];have e:l'[i]? = l[i]?:=by rw [hl,b3d,if_pos hi]
 rw [e]
structure CpJ (l:List Val) (k p q:Nat) (m:List Val):Prop where
 len:m.length = l.length
 kq:k < q
 pq:p < q
 ql:q <= l.length
 pre:m.take p = jb (l.take q)
 high:∀ j,q - 1 <= j -> m.getD j default = l.getD j default
variable {l:List Val}
theorem CpJ.start (h1:1 <= k) (hk:k < l.length) (h:∀ j,0 < j -> j < k -> ¬ l.getD j default = l.getD (j - 1) default) (hd:l.getD k default = l.getD (k - 1) default):CpJ l k k (k + 1) l :=
 ⟨rfl,by omega,by omega,by omega,by rw [ge b5h hk,if_pos hd.symm,b3i,oi b5h h],fun _ _=>rfl⟩
variable {m:List Val}
theorem CpJ.skip {q:Nat} (h:CpJ l k p q m) (hq:q < l.length) (he:m.getD q default = m.getD (q - 1) default):CpJ l k p (q + 1) m:=by
 have hk:=h.kq;refine ⟨h.len,by omega,by have:=h.pq;omega,hq, ?_,fun j hj=>h.high j b5h⟩;rw [h.high q b5h,h.high (q - 1) b5h] at he;rw [ge b5h hq,if_pos he.symm,b3i,h.pre]
theorem CpJ.keep {q:Nat} (h:CpJ l k p q m) (hq:q < l.length) (he:¬ m.getD q default = m.getD (q - 1) default):CpJ l k (p + 1) (q + 1) (m.set p (m.getD q default)):=by
 have hk:=h.kq;have hp:=h.pq;have hl:=h.len;refine ⟨by simp [hl],by omega,by omega,hq, ?_,fun j hj=>by rw [getD_set_ne' b5h];exact h.high j b5h⟩;have e:=h.high q b5h;rw [e,h.high (q - 1) b5h] at he;rw [ge b5h hq,if_neg (fun e=>he e.symm),<- h.pre,bf (by simp [hl];omega),f4 b5h,e];congr 1;rw [List.take_set,b58 b5v]
def af6 (hk:l.length <= k) (h:∀ j,0 < j -> j < k -> ¬ l.getD j default = l.getD (j - 1) default):CoP (.sl l.length 3 false (lf Val.c l)) (vals (jb l)):=by
 have:=oi (b2j l.length) fun j h1 h2=>h j h1 b5h;rw [b3w] at this;rw [this];exact CoP.refl _
def apm {q n d:Nat} {cl:Bool} {z:List Value} (hC:CpJ l k p q m) (hq:¬ q < l.length) (ha:p <= a):CoP (.sl (fu (bo n (some (p:Int))) none) 3 cl (ns (nx (lf Val.c m) a d z) none)) (vals (jb l)):=by
 have e:=hC.pre;have h1:=hC.ql;have h2:=hC.len;have h3:=hC.pq;rw [show q = l.length by omega,b3w] at e;have el:(jb l).length = p:=by rw [<- e];simp;omega
 exact ao3 (by rw [el];rfl) rfl b5h (by rw [el,e])
def eqJ {b a' b':Nat} (h:(l.getD a' default).kind = (l.getD b' default).kind /\ (l.getD a' default).num = (l.getD b' default).num /\ (l.getD a' default).str = (l.getD b' default).str) (ha:a' = a) (hb:b' = b):l.getD a default = l.getD b default:=by subst ha hb;exact Val.eq_iff.2 h
def neJ {b a' b':Nat} (h:¬ ((l.getD a' default).kind = (l.getD b' default).kind /\ (l.getD a' default).num = (l.getD b' default).num /\ (l.getD a' default).str = (l.getD b' default).str)) (ha:a' = a) (hb:b' = b):¬ l.getD a default = l.getD b default:=by subst ha hb;exact fun e=>h (Val.eq_iff.1 e)
def azx {b a' b':Nat} (h:¬ (l.getD a' default).kind = (l.getD b' default).kind \/ ¬ (l.getD a' default).num = (l.getD b' default).num \/ ¬ (l.getD a' default).str = (l.getD b' default).str) (ha:a' = a) (hb:b' = b):¬ l.getD a default = l.getD b default :=
 neJ (fun e=>by
  rcases h with h | h | h
  · exact h e.1
  · exact h e.2.1
  exact h e.2.2) ha hb
end
end
section
def mo (R:List Row) (a:Nat):List Val:=R.map fun r=>r.vals.getD a default
def vo (R:List Row) (a:Nat):List Val:=jb (a2n dl (mo R a))
def be (R:List Row) (n:Nat):List (List Val):=(List.range n).map (vo R)
def b0f (R:List Row) (n a:Nat):List (List Val):=(List.range n).map fun i=>if i < a then vo R i else []
def vlC (l:List Val):Nat -> PV:=fun _=>vals l
abbrev pz (l:List (List Val)):PV:=psl 1 vlC l
def jr (R:List Row) (s:AS) (k:Nat) (e:ByteArray):Bool:=R.any fun r=>decide (ff (r.vals.take k) s = e)
def re (R:List Row) (s:AS) (k:Nat):MK -> Option PV
 | .s b=>if jr R s k b = true then some (.raw (.bool true)) else none
 | .i _ _=>none
def mpC (N:Nat) (R:List Row) (s:AS) (k:Nat):PV:=mpP .str N (re R s k)
def lvF (R:List Row) (s:AS):Nat -> Nat -> PV:=fun k _=>mpC R.length R s k
def lvC (R:List Row) (n:Nat) (s:AS):Nat -> PV:=fun _=>.sl (n + 1) 1 false (lvF R s)
def lvT (R:List Row) (s:AS) (a:Nat):Nat -> Nat -> PV:=fun k _=>if k < a then mpC R.length R s k else .raw (.map none)
def kg (R:List Row) (vs:List Val) (m:Nat) (s:AS):Bool:=decide (1000 < m) || !jr R s vs.length (ff vs s)
def io (R:List Row) (ps:List AS) (vs:List Val) (m:Nat):Bool:=ps.any (kg R vs m)
def dx (R:List Row) (ps:List AS) (cols:List (List Val)):Nat -> List Val -> List (List Val) -> List (List Val)
 | 0,vs,acc=>if io R ps vs acc.length = true then acc else acc ++ [vs]
 | d + 1,vs,acc=>if io R ps vs acc.length = true then acc else (cols.getD vs.length default).foldl (fun acc v=>dx R ps cols d (vs ++ [v]) acc) acc
def gw (R:List Row) (ps:List AS) (n:Nat):List (List Val):=dx R ps (be R n) n [] []
def cw (l:List (List Val)):List Row:=(List.range l.length).map fun (i:Nat)=>⟨(i:Int) + 1,l.getD i []⟩
def db (t:Tbl) (ps:List AS):Int :=
 if bd t ≠ 0 then bd t else if lvE t.attrs.length ps ≠ 0 then lvE t.attrs.length ps else if 1000 < (gw t.rows ps t.attrs.length).length then 3 else 0
def cb (t:Tbl) (ps:List AS):Tbl:=if db t ps = 0 then ⟨t.name,t.attrs,cw (gw t.rows ps t.attrs.length)⟩ else T0
section
variable {R:List Row} {m:Nat} {ps:List AS} {vs:List Val}
def a0i {i:Nat} (hi:i < ps.length) (h:kg R vs m (ps.getD i default) = true):io R ps vs m = true:=by
 unfold io;rw [b3g];exact ⟨_,by rw [b9 _ _ hi];exact b2q hi,h⟩
def af2 (h:∀ j,j < ps.length -> kg R vs m (ps.getD j default) = false):io R ps vs m = false:=by
 unfold io;rw [b3x];intro s hs;obtain ⟨i,hi,e⟩:=b35 hs;have:=h i hi;rw [b9 _ _ hi,e] at this;simp [this]
variable {acc cols:List (List Val)}
def ne {d:Nat} (h:io R ps vs acc.length = true):dx R ps cols d vs acc = acc:=by
 cases d <;> (unfold dx;rw [if_pos h])
def ak5 (h:io R ps vs acc.length = false):dx R ps cols 0 vs acc = acc ++ [vs]:=by
 unfold dx;rw [if_neg (by simp [h])]
def sk (R:List Row) (ps:List AS) (cols:List (List Val)) (d:Nat) (vs:List Val) (acc:List (List Val)) (i:Nat):List (List Val) :=
 ((cols.getD vs.length default).take i).foldl (fun acc v=>dx R ps cols d (vs ++ [v]) acc) acc
def a7v {d:Nat} {i:Nat} (hi:i < (cols.getD vs.length default).length):
 sk R ps cols d vs acc (i + 1) = dx R ps cols d (vs ++ [(cols.getD vs.length default).getD i default]) (sk R ps cols d vs acc i):=by
 unfold sk;rw [bf hi,b4t];rfl
def ako {d:Nat} (h:io R ps vs acc.length = false):dx R ps cols (d + 1) vs acc = sk R ps cols d vs acc (cols.getD vs.length default).length:=by
 rw [show dx R ps cols (d + 1) vs acc = if io R ps vs acc.length = true then acc else (cols.getD vs.length default).foldl (fun acc v=>dx R ps cols d (vs ++ [v]) acc) acc from rfl,if_neg (by simp [h])];unfold sk;rw [b3w]
def ab7 (hp:0 < ps.length) (h:io R ps vs m = false):m <= 1000:=by
 unfold io at h;rw [b3x] at h;have:=h _ (b2q hp);unfold kg at this;simp only [b3s,decide_eq_true_eq,not_or] at this;omega
def aac (hp:0 < ps.length):∀ {d:Nat} {vs:List Val} {acc:List (List Val)},acc.length <= 1001 -> (dx R ps cols d vs acc).length <= 1001
 | 0,vs,acc,h=>by
  unfold dx;split
  · exact h
  rename_i hs;have:=ab7 hp (by simpa using hs);rw [b2v,b3q];omega
 | d + 1,vs,acc,h=>by
  rw [show dx R ps cols (d + 1) vs acc = if io R ps vs acc.length = true then acc else (cols.getD vs.length default).foldl (fun acc v=>dx R ps cols d (vs ++ [v]) acc) acc from rfl];split
  · exact h
  generalize cols.getD vs.length default = l;rename_i hs;clear hs
  induction l generalizing acc with
  | nil=>exact h
  | cons v l ih=>exact ih _ (aac hp (d:=d) h)
def aly (hp:0 < ps.length) {d:Nat} {i:Nat} (h:acc.length <= 1001):(sk R ps cols d vs acc i).length <= 1001:=by
 unfold sk;generalize (cols.getD vs.length default).take i = l
 induction l generalizing acc with
 | nil=>exact h
 | cons v l ih=>exact ih (aac hp (d:=d) h)
variable {s:AS}
def a87 {k:Nat} {e:ByteArray}:qh (fun m=>(re R s k m).isSome) (fun m=>(re R s k m).getD .any) (.s e) (.bool false) = .raw (.bool (jr R s k e)):=by
 unfold qh re;cases h:jr R s k e <;> simp [h] <;> rfl
def afs {k i:Nat} {e:ByteArray} (hi:i < R.length):jr (R.take (i + 1)) s k e = (jr (R.take i) s k e || decide (ff ((R.getD i default).vals.take k) s = e)):=by
 unfold jr;rw [bf hi,List.any_append];simp
def ua {n:Nat}:(be R n).length = n:=by simp [be]
def qn {n a:Nat} (h:a < n):(be R n).getD a default = vo R a:=by simp [be,List.getD,h]
def aa3 {l:List Val} (h:l.length <= 16):(ff l s).size <= maxLen:=by
 have:=a86 (l:=l) (s:=s);unfold maxLen;omega
def a15 (h:(1000:Int) < (m:Int)):kg R vs m s = true:=by
 have:1000 < m:=by omega
 simp [kg,this]
def ni (h:jr R s vs.length (ff vs s) = false):kg R vs m s = true:=by simp [kg,h]
def a0v (h0:¬ (1000:Int) < (m:Int)) (h:jr R s vs.length (ff vs s) = true):kg R vs m s = false:=by
 have:¬ 1000 < m:=by omega
 simp [kg,h,this]
end
end
section
open Go.RowKit
def amn (id n s:Nat) (F:Nat -> Nat -> PV):List HC -> List HC -> Prop
 | [],[]=>True
 | x :: xs,y :: ys=>(y = x \/ (x = .one (.ref id n) /\ y = .one (.p (.sl n s false F)))) /\ amn id n s F xs ys
 | _,_=>False
section
variable {e:TypeId} {n:Nat}
def ci.eat1 {P:Program} {f:FuncId} {args args':List HC} {o1:List (Nat × a6)} {res:HR} {o2:List (Nat × a6)} {fx:List Nat} {id s:Nat} {wr:Bool} {F:Nat -> Nat -> PV} (h:ci P f args o1 res o2 fx) (ha:amn id n s F args' args) (hid:lk o1 id = none) (hfx:∀ k ∈ fx,k ≠ id):ci P f args' ((id, .arr wr s e n F) :: o1) res o2 fx:=by
 classical
 intro w c us hm hargs
 have hlk:∀ k,k ≠ id -> lk ((id,a6.arr wr s e n F) :: o1) k = lk o1 k:=fun k hk=>by
  simp only [lk]
  have:Nat.beq id k = false:=by
   rw [b33];exact fun hb=>hk (b34 hb).symm
  rw [this];rfl
 have hlki:lk ((id,a6.arr wr s e n F) :: o1) id = some (.arr wr s e n F):=by simp [lk]
 let frm:Imm:=fun b=>none
 let c2:Ctx:={ old:=(c.imm,frm,c.own,lk ((id,a6.arr wr s e n F) :: o1),c.rows),imm:=c.imm,tab:=c.tab,own:=c.own,blk:=c.blk,rows:=c.rows }
 have hrel:ae w 0 c2 ⟨fun _=>none,lk ((id,a6.arr wr s e n F) :: o1)⟩ { tmps:=#[],defers:=[] } w:=by
  refine ⟨o0.nil _ _ _ _,rfl,Below.refl _ _,(fun d x hx=>by cases hx),fun id ob ho=>?_,hm.inj,hm.imm,hm.sep,fun b _=>rfl,(fun b ob hbo=>by cases hbo),fun id ob b ho hbb=>rfl,fun id _=>Evo.of_same rfl rfl⟩;exact (hm.objs id ob ho).keep (Imm.le.refl c.imm) rfl rfl (fun _ _=>Evo.of_same rfl rfl) fun _ _=>rfl
 have hf:=hrel.freeze (id:=id) hlki;have hfa:=og hrel hlki
 have ho:(S.setO ⟨fun _=>none,lk ((id,a6.arr wr s e n F) :: o1)⟩ id none).o = lk o1:=by
  funext k;simp only [S.setO];by_cases hk:k = id
  · subst hk;rw [if_pos rfl,hid]
  rw [if_neg hk,hlk k hk]
 let c1:Ctx:={ old:=c.old,imm:=frozenImm c2 w id,tab:=l8 hrel hlki,own:=c.own,blk:=c.blk,rows:=c.rows }
 have hm1:Mem c1 (lk o1) w:=by
  rw [<- ho];exact ⟨fun k ob hk=>(hf.objs k ob hk).keep (c':=c1) (Imm.le.refl _) rfl rfl (fun _ _=>Evo.of_same rfl rfl) fun _ _=>rfl,hf.inj,hf.imm,hf.sep⟩
 have hevo:∀ k,Evo c (lk ((id,a6.arr wr s e n F) :: o1)) c1 (lk o1) k:=fun k=>by
  by_cases hk:k = id
  · subst hk;exact .inl hid
  exact Evo.of_same (hlk k hk).symm rfl
 have hle0:=nk hrel hlki;have hle:Imm.le c.imm c1.imm:=hle0
 have hrep:∀ {xs ys:List HC} {us:List Value},amn id n s F xs ys -> b7 c (lk ((id,a6.arr wr s e n F) :: o1)) xs us -> b7 c1 (lk o1) ys us:=by
  intro xs
  induction xs with
  | nil=>intro ys us h1 h2;cases ys <;> cases us <;> first | trivial | exact h1.elim | exact h2.elim
  | cons x xs ih =>
   intro ys us h1 h2
   cases ys with
   | nil=>exact h1.elim
   | cons y ys =>
    cases us with
    | nil=>exact h2.elim
    | cons u us =>
     refine ⟨?_,ih h1.2 h2.2⟩
     rcases h1.1 with rfl | ⟨rfl,rfl⟩
     · exact dv.evo hle (fun k _=>hevo k) h2.1
     obtain ⟨_,_,h3⟩:=h2.1;have hu:=(h3 _ _ _ _ hlki rfl).2 rfl;show ag (frozenImm c2 w id) (.sl n s false F) u;rw [hu];exact hfa
 refine (h w c1 us hm1 (hrep ha hargs)).mono ?_;rintro ex w' ⟨v,c',rfl,h1,h2,h3,h4,h5,h6⟩;refine ⟨v,c',rfl,h1,h2,h3,fun b hb hno=>?_,fun k ob b hk hb=>?_,fun k hk=>?_⟩
 · have hnb:¬ c.blk id b:=hno id _ hlki
   obtain ⟨q1,q2⟩:=h4 b hb fun k ob hk=>by
    by_cases hki:k = id
    · subst hki;rw [hid] at hk;cases hk
    exact hno k ob (by rw [hlk k hki];exact hk)
   refine ⟨q1,q2.trans ?_⟩;show frozenImm c2 w id b = c.imm b;unfold frozenImm;rw [if_neg hnb]
 · rcases h5 k ob b hk hb with h5 | ⟨id0,ob0,q1,q2⟩
   · exact .inl h5
   by_cases hki:id0 = id
   · subst hki;rw [hid] at q1;cases q1
   exact .inr ⟨id0,ob0,by rw [hlk id0 hki];exact q1,q2⟩
 have hki:=hfx k hk;exact (Evo.of_same (hlk k hki).symm rfl:Evo c (lk ((id,a6.arr wr s e n F) :: o1)) c1 (lk o1) k).trans (h6 k hk)
def fe (i0:Nat) (h:HV) (g:Nat -> Nat -> PV):Nat -> Nat -> HV:=fun i j=>if i = i0 then h else .p (g i j)
variable {g:Nat -> Nat -> PV}
def xt {i0:Nat} {h:HV} {j:Nat}:fe i0 h g i0 j = h:=if_pos rfl
variable {Q:Exit -> HSt -> Prop}
def a8k {ro:Option Nat} {P:Program} {nt:Nat} {st:HSt} {co:Code} (x i0 id:Nat) (wr:Bool) {n2 s':Nat} {e2:TypeId} {f':Nat -> Nat -> PV} (s:Nat) (e:TypeId) (f:Nat -> Nat -> PV) (hs:0 < s) (hb:b6 st.o x = some (.arr true 1 e2 n2 g)) (hi:i0 < n2) (hl:g i0 0 = .sl n s' true f') (hco:CoP (.sl n s' true f') (.sl n s true f)) (hwr:wr = false \/ n = 0) (hn:o7 id st = true) (hne:Nat.beq x id = false) (h:HW (ro:=ro) P nt co ⟨st.t,(x,some (.arrh 1 e2 n2 [id] (fe i0 (.ref id n) g))) :: (id,some (.arr wr s e n f)) :: st.o⟩ Q):HW (ro:=ro) P nt co st Q:=fun w0 m0 a w hr=>by
 refine h w0 m0 a w ?_;obtain ⟨hnm,hno⟩:=jk hn;obtain ⟨cc,hold,hrr⟩:=hr;have hbi:x ≠ id:=by rintro rfl;simp at hne
 obtain ⟨p0,p1,p2⟩:=hrr.objs x _ hb
 obtain ⟨p3,xs,p4,p5⟩:cc.blk x = fh (cc.own x) /\ ∃ xs,w.ownsRow 0 e2 1 (cc.own x) n2 xs /\ ∀ i j,i < n2 -> j < 1 -> ∃ u,xs[i * 1 + j]? = some u /\ ag cc.imm (g i j) u:=by
  rcases p2 with p2 | ⟨p2 | p2,_⟩
  · exact p2
  · cases p2
  omega
 obtain ⟨u,hu,hur⟩:=p5 i0 0 hi b5h;rw [hl] at hur;have hx:ag cc.imm (.sl n s true f) u:=hco _ _ hur;have hnm':n <= maxLen:=by obtain ⟨ad,cap,_,q1,q2,_⟩:=hx;omega
 have hfresh:=hrr.fresh id hnm hno (.arr wr s e n f) w u noB (Grw.refl w none) (fun b hb=>hb.elim) ⟨hs,hnm', .inr ⟨hwr,by simp,by simpa using hx⟩⟩;rw [<- om] at hfresh
 have hb':(HSt.den ⟨st.t,(id,some (.arr wr s e n f)) :: st.o⟩).o x = some (.arr true 1 e2 n2 g):=by
  simp only [HSt.den,ar,hbi,if_false];exact hb
 have hevo:∀ (c1:Ctx),c1.own = (fun k=>if k = id then u else cc.own k) -> Evo { old:=cc.old,imm:=cc.imm,tab:=cc.tab,own:=fun k=>if k = id then u else cc.own k,blk:=fun k=>if k = id then noB else cc.blk k,rows:=cc.rows } (HSt.den ⟨st.t,(id,some (.arr wr s e n f)) :: st.o⟩).o c1 ((HSt.den ⟨st.t,(id,some (.arr wr s e n f)) :: st.o⟩).setO x (some (.arrh 1 e2 n2 [id] (fe i0 (.ref id n) g)))).o x:=fun c1 h1 =>
  .inr (.inr ⟨_, .arrh 1 e2 n2 [id] (fe i0 (.ref id n) g),1,e2,n2,n2,hb',rfl,by simp [S.setO],rfl,b2j _,fun _=>by rw [h1],fun _ _ _ _ _ _ _ hb=>by cases hb⟩)
 have hown:(fun k=>if k = x then (fun k=>if k = id then u else cc.own k) x else (fun k=>if k = id then u else cc.own k) k) = fun k=>if k = id then u else cc.own k:=by
  funext k;by_cases hk:k = x
  · subst hk;simp
  simp [hk]
 have hw:=hfresh.write x _ hb' (.arrh 1 e2 n2 [id] (fe i0 (.ref id n) g)) w ((fun k=>if k = id then u else cc.own k) x) ((fun k=>if k = id then noB else cc.blk k) x) none (Grw.refl w _) (fun _ e=>by cases e) (hevo _ (by exact hown)) (fun b hb=>.inl hb) (by
  refine ⟨by omega,p1,fun i j k hi hj hk=>?_, .inl ⟨by simpa [hbi] using p3,xs,by simpa [hbi] using p4,fun i j hi' hj=>?_⟩⟩
  · unfold fe at hk
    split at hk
    · have hk:k = id:=hk
      rw [hk];exact b2u.2 rfl
    exact hk.elim
  obtain ⟨u',hu',hr'⟩:=p5 i j hi' hj;refine ⟨u',hu', ?_⟩;obtain rfl:j = 0:=by omega
  unfold fe;by_cases hk:i = i0
  · subst hk
    rw [if_pos rfl];rw [hu] at hu';simp only [b2g] at hu';subst hu';refine ⟨ag.oneCell hx,fun l2=>by simp [S.setO,HSt.den,ar,Ne.symm hbi],fun ob1 s1 e1 n1 ho hd1=>?_⟩;simp only [S.setO,HSt.den,ar,Ne.symm hbi,if_false,if_true,b2g] at ho;subst ho;simp only [a6.dim,b2g,b2l] at hd1;obtain ⟨rfl,rfl,rfl⟩:=hd1;exact ⟨b2j _,fun _=>by simp [Ne.symm hbi]⟩
  rw [if_neg hk]
  exact hr')
 have e:HSt.den ⟨st.t,(x,some (.arrh 1 e2 n2 [id] (fe i0 (.ref id n) g))) :: (id,some (.arr wr s e n f)) :: st.o⟩ = (HSt.den ⟨st.t,(id,some (.arr wr s e n f)) :: st.o⟩).setO x (some (.arrh 1 e2 n2 [id] (fe i0 (.ref id n) g))):=by
  unfold HSt.den S.setO;simp only [S.mk.injEq,true_and];funext k;simp only [ar]
 rw [e];exact ⟨_,(by exact hold),hw⟩
def akg {ro:Option Nat} {P:Program} {nt:Nat} {st:HSt} {co:Code} (x:Nat) (ob':a6) {ob:a6} (ho:b6 st.o x = some ob) (hc:CoO ob ob') (h:HW (ro:=ro) P nt co ⟨st.t,(x,some ob') :: st.o⟩ Q):HW (ro:=ro) P nt co st Q:=fun w0 m0 a w hr=>by
 obtain ⟨cc,hold,hrr⟩:=hr;refine h w0 m0 a w ⟨cc,hold,hrr.relax _ (fun d y hy=>⟨y,hy,CoR.refl _⟩) fun id ob2 ho2=>?_⟩;simp only [HSt.den,ar] at ho2;by_cases hk:id = x
 · subst hk
   rw [if_pos rfl] at ho2;simp only [b2g] at ho2;subst ho2;exact ⟨ob,ho,hc⟩
 rw [if_neg hk] at ho2;exact ⟨ob2,ho2,CoO.refl _⟩
def avb {s:Nat}:CoO (.arr true s e n g) (.arrh s e n [] fun i j=>.p (g i j)):=⟨.inl rfl,rfl,rfl,rfl,fun _ _ _ _=>CoP.refl _⟩
variable {ms:List Nat}
def ads {a a' X:Nat} {h0 h1:HV} (h:a' = a) (hm:∀ k,h1.men k -> k = X:=by exact fun _ h=>h):CoO (.arrh 1 e n ms (j1 (fe a h0 g) a' 0 [h1])) (.arrh 1 e n [X] (fe a h1 g)):=by
 subst h;refine ⟨rfl,rfl,rfl,fun i j hi hj=>?_, .inr fun i j k hi hj hk=>?_⟩
 · obtain rfl:j = 0:=by omega
   unfold j1 fe;by_cases hia:i = a'
   · subst hia
     rw [if_pos ⟨rfl,by omega,by simp⟩,if_pos rfl];exact CoH.refl _
   rw [if_neg (fun e=>hia e.1),if_neg hia,if_neg hia];exact CoH.refl _
 unfold fe at hk;split at hk
 · rw [hm k hk];exact b2u.2 rfl
 exact hk.elim
def ad9 {a a' X:Nat} {h1:HV} (h:a' = a) (hm:∀ k,h1.men k -> k = X:=by exact fun _ h=>h):CoO (.arrh 1 e n ms (j1 (fun i j=>.p (g i j)) a' 0 [h1])) (.arrh 1 e n [X] (fe a h1 g)):=by
 subst h;refine ⟨rfl,rfl,rfl,fun i j hi hj=>?_, .inr fun i j k hi hj hk=>?_⟩
 · obtain rfl:j = 0:=by omega
   unfold j1 fe;by_cases hia:i = a'
   · subst hia
     rw [if_pos ⟨rfl,by omega,by simp⟩,if_pos rfl];exact CoH.refl _
   rw [if_neg (fun e=>hia e.1),if_neg hia];exact CoH.refl _
 unfold fe at hk;split at hk
 · rw [hm k hk];exact b2u.2 rfl
 exact hk.elim
def ac7 {a a':Nat} {h0:HV} {y:PV} {g':Nat -> Nat -> PV} (h:a' = a) (hy:CoP y (g' a 0)) (hg:∀ i,i < n -> i ≠ a -> CoP (g i 0) (g' i 0)):CoO (.arrh 1 e n ms (j1 (fe a h0 g) a' 0 [.p y])) (.arr true 1 e n g'):=by
 subst h;refine ⟨rfl,rfl,rfl,fun i j hi hj=>?_⟩;obtain rfl:j = 0:=by omega
 unfold j1 fe;by_cases hia:i = a'
 · subst hia
   rw [if_pos ⟨rfl,by omega,by simp⟩];exact hy
 rw [if_neg (fun e=>hia e.1),if_neg hia];exact hg i hi hia
end
end
end Go.Hx

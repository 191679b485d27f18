/- A part of the proof: Sp1 Sp2 Sp3 Sp4. -/
import Derived.Test.YteklilhbjjofbaaGreatDoorLd15
set_option linter.all false
namespace Go.Hx
section
def sgn (a b:Int):Int:=if a < b then -1 else if b < a then 1 else 0
def bAt (s:ByteArray) (i:Nat):Int:=bp s i
def fg:List UInt8 -> List UInt8 -> Int
 | [],[]=>0
 | [],_ :: _=>-1
 | _ :: _,[]=>1
 | x :: xs,y :: ys=>if x = y then fg xs ys else sgn x.toNat y.toNat
abbrev bl (s:ByteArray):List UInt8:=s.data.toList
def jq (a b:ByteArray):Int:=fg (bl a) (bl b)
def fc (s:ByteArray):(bl s).length = s.size:=b68
def a9f:∀ (i:Nat) (a b:List UInt8),i < a.length -> i < b.length -> a.getD i 0 = b.getD i 0 -> fg (a.drop i) (b.drop i) = fg (a.drop (i + 1)) (b.drop (i + 1))
 | 0,x :: xs,y :: ys,_,_,h=>by
  simp only [List.getD_cons_zero] at h;simp [fg,h]
 | i + 1,x :: xs,y :: ys,h1,h2,h=>by
  simp only [List.getD_cons_succ] at h;simpa using a9f i xs ys (by simpa using h1) (by simpa using h2) h
 | _,[],_,h1,_,_=>by simp at h1
 | _,_ :: _,[],_,h2,_=>by simp at h2
def a9i:∀ (i:Nat) (a b:List UInt8),i < a.length -> i < b.length -> a.getD i 0 ≠ b.getD i 0 -> fg (a.drop i) (b.drop i) = sgn (a.getD i 0).toNat (b.getD i 0).toNat
 | 0,x :: xs,y :: ys,_,_,h=>by
  simp only [List.getD_cons_zero] at h;simp [fg,h]
 | i + 1,x :: xs,y :: ys,h1,h2,h=>by
  simp only [List.getD_cons_succ] at h ⊢;simpa using a9i i xs ys (by simpa using h1) (by simpa using h2) h
 | _,[],_,h1,_,_=>by simp at h1
 | _,_ :: _,[],_,h2,_=>by simp at h2
def a3t:∀ (i:Nat) (a b:List UInt8),i <= a.length -> i <= b.length -> (i = a.length \/ i = b.length) -> fg (a.drop i) (b.drop i) = sgn a.length b.length
 | 0,[],[],_,_,_=>by simp [fg,sgn]
 | 0,[],_ :: _,_,_,_=>by simp [fg,sgn] <;> omega
 | 0,_ :: _,[],_,_,_=>by simp [fg,sgn] <;> omega
 | 0,_ :: _,_ :: _,_,_,h=>by simp at h
 | i + 1,x :: xs,y :: ys,h1,h2,h=>by
  have:=a3t i xs ys (by simpa using h1) (by simpa using h2) (by simpa using h);simp only [List.drop_succ_cons,this,b6k,sgn]
  repeat' split
  all_goals first | rfl | omega
 | i + 1,[],_,h1,_,_=>by simp at h1
 | i + 1,_ :: _,[],_,h2,_=>by simp at h2
def a99:∀ {a b:List UInt8},fg a b = 0 <-> a = b
 | [],[]=>by simp [fg]
 | [],_ :: _=>by simp [fg]
 | _ :: _,[]=>by simp [fg]
 | x :: xs,y :: ys=>by
  simp only [fg];by_cases h:x = y
  · simp [h,a99]
  have:¬ x.toNat = y.toNat:=fun e=>h (UInt8.toNat_inj.1 e);simp only [h,if_false,sgn,b7l,false_and,iff_false]
  repeat' split
  all_goals omega
def a5e (a b:ByteArray) (i j:Nat):bp a i = bp b j <-> (bl a).getD i 0 = (bl b).getD j 0:=by
 unfold bp;rw [Int.natCast_inj,UInt8.toNat_inj]
def a2z {a b:ByteArray}:jq a b = 0 <-> a = b:=by
 unfold jq;rw [a99];exact ⟨fun h=>ByteArray.ext (Array.ext' h),fun h=>by rw [h]⟩
def f5 (a b:Val):Int :=
 if sgn a.kind b.kind ≠ 0 then sgn a.kind b.kind else if sgn a.num b.num ≠ 0 then sgn a.num b.num else jq a.str b.str
def l3 {a b:Int}:sgn a b = 0 <-> a = b:=by
 unfold sgn
 repeat' split
 all_goals omega
def vl {a b:Val}:f5 a b = 0 <-> a = b:=by
 unfold f5;cases a;cases b;simp only [Val.mk.injEq];split
 · rename_i h;rw [Ne,l3] at h
   constructor
   · intro e;rw [l3] at e;exact absurd e h
   rintro ⟨e,_⟩;exact absurd e h
 rename_i h;rw [Ne,l3,Classical.not_not] at h;split
 · rename_i h2;rw [Ne,l3] at h2
   constructor
   · intro e;rw [l3] at e;exact absurd e h2
   rintro ⟨_,e,_⟩;exact absurd e h2
 rename_i h2;rw [Ne,l3,Classical.not_not] at h2;rw [a2z];exact ⟨fun e=>⟨h,h2,e⟩,fun e=>e.2.2⟩
def cr:List Val -> List Val -> Int
 | [],[]=>0
 | [],_ :: _=>-1
 | _ :: _,[]=>1
 | x :: xs,y :: ys=>if f5 x y ≠ 0 then f5 x y else cr xs ys
def a5m:∀ (i:Nat) (a b:List Val),i < a.length -> i < b.length -> f5 (a.getD i default) (b.getD i default) = 0 -> cr (a.drop i) (b.drop i) = cr (a.drop (i + 1)) (b.drop (i + 1))
 | 0,x :: xs,y :: ys,_,_,h=>by
  simp only [List.getD_cons_zero] at h;simp [cr,h]
 | i + 1,x :: xs,y :: ys,h1,h2,h=>by
  simp only [List.getD_cons_succ] at h;simpa using a5m i xs ys (by simpa using h1) (by simpa using h2) h
 | _,[],_,h1,_,_=>by simp at h1
 | _,_ :: _,[],_,h2,_=>by simp at h2
def a6z:∀ (i:Nat) (a b:List Val),i < a.length -> i < b.length -> f5 (a.getD i default) (b.getD i default) ≠ 0 -> cr (a.drop i) (b.drop i) = f5 (a.getD i default) (b.getD i default)
 | 0,x :: xs,y :: ys,_,_,h=>by
  simp only [List.getD_cons_zero] at h;simp [cr,h]
 | i + 1,x :: xs,y :: ys,h1,h2,h=>by
  simp only [List.getD_cons_succ] at h ⊢;simpa using a6z i xs ys (by simpa using h1) (by simpa using h2) h
 | _,[],_,h1,_,_=>by simp at h1
 | _,_ :: _,[],_,h2,_=>by simp at h2
def a09:∀ (i:Nat) (a b:List Val),i <= a.length -> i <= b.length -> (i = a.length \/ i = b.length) -> cr (a.drop i) (b.drop i) = sgn a.length b.length
 | 0,[],[],_,_,_=>by simp [cr,sgn]
 | 0,[],_ :: _,_,_,_=>by simp [cr,sgn] <;> omega
 | 0,_ :: _,[],_,_,_=>by simp [cr,sgn] <;> omega
 | 0,_ :: _,_ :: _,_,_,h=>by simp at h
 | i + 1,x :: xs,y :: ys,h1,h2,h=>by
  have:=a09 i xs ys (by simpa using h1) (by simpa using h2) (by simpa using h);simp only [List.drop_succ_cons,this,b6k,sgn]
  repeat' split
  all_goals first | rfl | omega
 | i + 1,[],_,h1,_,_=>by simp at h1
 | i + 1,_ :: _,[],_,h2,_=>by simp at h2
def z8:∀ {a b:List Val},cr a b = 0 <-> a = b
 | [],[]=>by simp [cr]
 | [],_ :: _=>by simp [cr]
 | _ :: _,[]=>by simp [cr]
 | x :: xs,y :: ys=>by
  simp only [cr];split
  · rename_i h
    refine ⟨fun e=>absurd e h,fun e=>?_⟩;simp only [b7l] at e;exact absurd (vl.2 e.1) h
  rename_i h;rw [Ne,Classical.not_not,vl] at h;simp [h,z8]
end
section
abbrev emp:ByteArray:=⟨#[]⟩
def bj (v:Val):Bool :=
 if v.kind = 0 then decide (v.num = 0) && decide (v.str = emp)
 else if v.kind = 1 then decide (v.str = emp)
 else if v.kind = 2 then decide (v.num = 0) && decide (v.str.size <= 200)
 else decide (v.kind = 3) && decide (1 <= v.num) && decide (v.str = emp)
def Val.ok (v:Val):Prop:=v.str.size <= 68719476736
def n5 (l:List Val):Prop:=∀ j,j < l.length -> (l.getD j default).ok
def Row.ok (r:Row):Prop:=r.vals.length <= 68719476736 /\ n5 r.vals
def v8 (l:List Row):Prop:=∀ j,j < l.length -> (l.getD j default).ok
def Tbl.ok (t:Tbl):Prop:=t.attrs.length <= 68719476736 /\ t.rows.length <= 68719476736 /\ v8 t.rows
def b15 (d:DB):Prop:=d.length <= 68719476736 /\ ∀ j,j < d.length -> Tbl.ok (d.getD j default)
def Chg.ok (x:Chg):Prop:=x.table.ok /\ x.row.ok /\ x.value.ok
def ayy (l:List Chg):Prop:=∀ j,j < l.length -> (l.getD j default).ok
def ltr (c:Int):Bool:=(decide (97 <= c) && decide (c <= 122)) || (decide (65 <= c) && decide (c <= 90)) || decide (c = 95)
def dig (c:Int):Bool:=decide (48 <= c) && decide (c <= 57)
abbrev aiz:ByteArray:=⟨#[110,117,108,108]⟩
def ab8 (s:ByteArray):Bool:=(List.range s.size).all fun i=>ltr (bp s i) || dig (bp s i)
def go (s:ByteArray):Bool:=decide (s.size ≠ 0) && decide (s.size <= 24) && ltr (bp s 0) && decide (s ≠ aiz) && ab8 s
def a0u (l:List ByteArray) (s:ByteArray):Int:=idx (fun x=>decide (x = s)) l
def mj (l:List ByteArray) (i:Nat):Bool:=go (l.getD i default) && decide (a0u (l.take i) (l.getD i default) < 0)
def wa (l:List ByteArray):Bool:=(List.range l.length).all (mj l)
def dq (n:Nat) (before:Int):List Row -> Int
 | []=>0
 | r :: rs=>if r.id <= before then 1 else if r.vals.length ≠ n then 6 else if (r.vals.all bj) = false then 1 else dq n r.id rs
def cb (t:Tbl):Int :=
 if go t.name = false then 1 else if 16 < t.attrs.length \/ 1000 < t.rows.length then 3 else if wa t.attrs = false then 1 else dq t.attrs.length 0 t.rows
section
variable {i:Nat}
def ae3 {n:Nat} {l:List Row} {b:Int} (hi:i < l.length):dq n b (l.drop i) = if (l.getD i default).id <= b then 1 else if (l.getD i default).vals.length ≠ n then 6 else if ((l.getD i default).vals.all bj) = false then 1 else dq n (l.getD i default).id (l.drop (i + 1)):=by
 rw [b7e hi,dq];simp only [List.getD,b5b hi,b6g]
def b39 (l:List Row) (id:Int):Option Nat:=l.findIdx? fun r=>decide (r.id = id)
def fe (l:List Row) (id:Int):Int:=idx (fun r=>decide (r.id = id)) l
def j2 (d:DB) (s:ByteArray):Int:=idx (fun t=>decide (t.name = s)) d
def a6e (d:DB) (t:Tbl):Int:=if cb t ≠ 0 then cb t else if 0 <= j2 d t.name then 5 else if 50 <= d.length then 3 else 0
def gk {p:Nat -> Bool} {n:Nat} (hi:i < n) (h:p i = false):(List.range n).all p = false:=by
 rw [List.all_eq_false];exact ⟨i,b5r.2 hi,by simp [h]⟩
def jh {p:Nat -> Bool} {n:Nat} (h:∀ j,j < n -> p j = true):(List.range n).all p = true:=by
 rw [b5u];exact fun j hj=>h j (b5r.1 hj)
variable {s:ByteArray}
def qo (h:s.size = 0):go s = false:=by simp [go,h]
def nn (h:24 < s.size):go s = false:=by
 have:¬ s.size <= 24:=by omega
 simp [go,this]
def uj (h:ltr (bp s 0) = false):go s = false:=by simp [go,h]
def a0v (hi:(i:Int) = 0) (h:ltr (bp s i) = false):go s = false:=by
 obtain rfl:i = 0:=by omega
 exact uj h
def awq (hz:0 < i -> ltr (bp s 0) = true) (h:i = 0 -> ltr (bp s i) = true):ltr (bp s 0) = true:=by
 by_cases e:i = 0
 · subst e;exact h rfl
 exact hz b8i
def lq (h:s = aiz):go s = false:=by simp [go,h]
def sb (hi:i < s.size) (h1:ltr (bp s i) = false) (h2:dig (bp s i) = false):go s = false:=by
 have:ab8 s = false:=gk hi (by simp [h1,h2]);simp [go,this]
def am1 (h0:s.size ≠ 0) (h1:s.size <= 24) (h2:ltr (bp s 0) = true) (h3:s ≠ aiz) (h4:∀ j,j < s.size -> (ltr (bp s j) || dig (bp s j)) = true):go s = true:=by
 have:ab8 s = true:=jh h4;simp [go,this,h0,h1,h2,h3]
def ul:s.size = 0 <-> s = emp:=by
 constructor
 · intro h
   refine ByteArray.ext (Array.ext' ?_);have:s.data.toList.length = 0:=by rw [b68];exact h
   exact b6s this
 rintro rfl;rfl
def ahh {α:Type} {p:α -> Bool} {l:List α}:decide (0 <= idx p l) = l.any p:=by
 unfold idx
 cases h:l.findIdx? p with
 | none =>
  rw [List.findIdx?_eq_none_iff] at h;have:l.any p = false:=by rw [b6v];intro x hx;simp [h x hx]
  simp [this]
 | some i =>
  rw [b7h] at h;obtain ⟨hi,hp,_⟩:=h;have:l.any p = true:=by rw [b6c];exact ⟨_,b5l hi,hp⟩
  simp [this]
def amb {α:Type} {p:α -> Bool} {l:List α}:idx p l < l.length:=by
 unfold idx
 cases h:l.findIdx? p with
 | none=>simp;omega
 | some i =>
  rw [b7h] at h;simp [h.1]
def afm {l:List Val}:(!l.any fun v=>!bj v) = l.all bj:=by
 induction l with
 | nil=>rfl
 | cons x l ih=>simp only [List.any_cons,List.all_cons,Bool.not_or,Bool.not_not,ih]
def ofI (k:Int):Val :=
 if k = 0 then ⟨1,0,emp⟩ else if k = 1 then ⟨1,1,emp⟩ else if k = 2 then ⟨1,2,emp⟩ else if k = 3 then ⟨0,0,emp⟩ else if k = 4 then ⟨2,0,⟨#[97]⟩⟩ else if k = 5 then ⟨2,0,⟨#[98]⟩⟩
 else if k = 6 then ⟨2,0,emp⟩ else if k = 7 then ⟨3,1,emp⟩ else if k = 8 then ⟨1, -1,emp⟩ else if k = 9 then ⟨2,0,⟨#[97,98]⟩⟩ else if k = 10 then ⟨3,2,emp⟩ else ⟨1,7,emp⟩
def ofV (c:UInt8):Val:=ofI ((c.toNat:Int) % 12)
def a84 (x:Opn):ByteArray:=[⟨#[114]⟩,⟨#[115]⟩,⟨#[116]⟩,emp].getD (x.name.toNat % 4) default
def ar6 (x:Opn):Row:=⟨x.id,x.vals.map ofV⟩
def ff:List ByteArray:=[⟨#[97]⟩,⟨#[98]⟩,⟨#[99]⟩,⟨#[100]⟩,⟨#[101]⟩,⟨#[102]⟩,⟨#[103]⟩,⟨#[104]⟩]
def ano (l:List UInt8) (n:Nat):List Val:=(List.range n).map fun k=>ofV (l.getD k default)
def apl (x:x4) (n:Nat):List Row:=(List.range x.rows.length).map fun (i:Nat)=>⟨1 + (i:Int) * (1 + (x.gap.toNat:Int) % 3),ano (x.rows.getD i default) n⟩
def aw6 (x:x4) (n:Nat):Tbl:=⟨⟨#[114]⟩,ff.take n,apl x n⟩
def aqf (x:Opn):Tbl:={ aw6 x.t (x.t.attrs.toNat % 4) with name:=a84 x }
end
end
section
abbrev T0:Tbl:=⟨emp,[],[]⟩
def sm (r:Row):List Row -> List Row
 | []=>[r]
 | x :: xs=>if r.id < x.id then r :: x :: xs else x :: sm r xs
def ut (t:Tbl) (r:Row):Int :=
 if cb t ≠ 0 then cb t else if r.vals.length ≠ t.attrs.length then 6 else if r.id <= 0 \/ r.vals.all bj = false then 1
 else if 0 <= fe t.rows r.id then 5 else if 1000 <= t.rows.length then 3 else 0
def ajb (t:Tbl) (r:Row):Tbl:=if ut t r = 0 then { t with rows:=sm r t.rows } else T0
def yc (t:Tbl) (id:Int):Int:=if cb t ≠ 0 then cb t else if 0 <= fe t.rows id then 0 else 4
def ai5 (t:Tbl) (id:Int):Tbl:=if yc t id = 0 then { t with rows:=t.rows.eraseIdx (fe t.rows id).toNat } else T0
def zx (t:Tbl) (id attr:Int) (v:Val):Int :=
 if cb t ≠ 0 then cb t else if ¬ 0 <= fe t.rows id then 4 else if attr < 0 \/ (t.attrs.length:Int) <= attr then 6 else if bj v = false then 1 else 0
def a1j (l:List Row) (i k:Nat) (v:Val):List Row:=l.set i { l.getD i default with vals:=(l.getD i default).vals.set k v }
def ai6 (t:Tbl) (id attr:Int) (v:Val):Tbl:=if zx t id attr v = 0 then { t with rows:=a1j t.rows (fe t.rows id).toNat attr.toNat v } else T0
def a6b (t:Tbl) (c:Chg):Int :=
 if c.kind = 2 then ut t c.row
 else if ¬ 0 <= fe t.rows c.row.id then 4
 else if ¬ (t.rows.getD (max (fe t.rows c.row.id) 0).toNat default).vals = c.row.vals then 16
 else if c.kind = 3 then yc t c.row.id
 else zx t c.row.id c.attr c.value
def a4w (t:Tbl) (c:Chg):Tbl:=if c.kind = 2 then ajb t c.row else if c.kind = 3 then ai5 t c.row.id else ai6 t c.row.id c.attr c.value
def s3 (d:DB) (s:ByteArray):Tbl:=d.getD (j2 d s).toNat default
def ic (d:DB) (c:Chg):Int :=
 if c.kind = 1 then (if c.name ≠ c.table.name then 1 else a6e d c.table)
 else if c.kind < 1 \/ 4 < c.kind then 1
 else if j2 d c.name < 0 then 4
 else a6b (s3 d c.name) c
def zm (d:DB) (c:Chg):DB :=
 if ic d c ≠ 0 then d
 else if c.kind = 1 then d ++ [c.table]
 else d.set (j2 d c.name).toNat (a4w (s3 d c.name) c)
section
variable {c:Chg} {d:DB}
def aE2 (h:c.kind = 1) (h2:c.name = c.table.name):ic d c = a6e d c.table:=by rw [ic,if_pos h,if_neg (by simp [h2])]
def aE5 (h:2 <= c.kind /\ c.kind <= 4) (h2:¬ j2 d c.name < 0):ic d c = a6b (s3 d c.name) c:=by rw [ic,if_neg b8i,if_neg b8i,if_neg h2]
def axr {e:Int} (h:ic d c = e) (he:e ≠ 0):zm d c = d:=by rw [zm,if_pos (by rw [h];exact he)]
def aD1 (h:ic d c = 0) (h1:c.kind = 1):zm d c = d ++ [c.table]:=by rw [zm,if_neg (by simp [h]),if_pos h1]
def aD2 {u:Tbl} (h:ic d c = 0) (h1:¬ c.kind = 1) (hu:a4w (s3 d c.name) c = u):zm d c = d.set (j2 d c.name).toNat u:=by rw [zm,if_neg (by simp [h]),if_neg h1,hu]
def dbV (d:DB):Prop:=d.length <= 50 /\ ∀ j,j < d.length -> cb (d.getD j default) = 0
def b0h (d:DB):List Chg -> Int
 | []=>0
 | c :: cs=>if ic d c ≠ 0 then ic d c else b0h (zm d c) cs
def aax (d:DB):List Chg -> DB
 | []=>d
 | c :: cs=>if ic d c ≠ 0 then [] else aax (zm d c) cs
def b1e (s:Stt) (l:List Chg):Stt:=if l.length = 0 then s else ⟨s.done ++ [l],[],false,[]⟩
def b3w (s:Stt) (c:Chg):Stt:=if s.opn = true then { s with now:=s.now ++ [c] } else b1e s [c]
def azp (x:Opn):Bool:=decide (x.vals.length <= 20) && decide (x.t.rows.length <= 6) && x.t.rows.all fun r=>decide (r.length <= 20)
def few (l:List Opn) (most:Int):Bool:=l.all azp && decide ((l.length:Int) <= most)
end
end
section
section
variable {l:List Row}
def a19 {n:Nat} {b:Int} {x:Row} (h:dq n b (x :: l) = 0):b < x.id /\ x.vals.length = n /\ x.vals.all bj = true /\ dq n x.id l = 0:=by
 simp only [dq] at h;split at h
 · omega
 split at h
 · omega
 split at h
 · omega
 rename_i h1 h2 h3;exact ⟨by omega,by omega,by simpa using h3,h⟩
def i6 {n:Nat}:∀ {l:List Row} {b:Int},dq n b l = 0 -> ∀ x ∈ l,b < x.id /\ x.vals.length = n /\ x.vals.all bj = true
 | [],_,_,x,hx=>by cases hx
 | y :: l,b,h,x,hx=>by
  obtain ⟨h1,h2,h3,h4⟩:=a19 h
  rcases b5k.1 hx with rfl | hx
  · exact ⟨h1,h2,h3⟩
  obtain ⟨g1,g2⟩:=i6 h4 x hx;exact ⟨by omega,g2⟩
abbrev s7 (l:List Row):Prop:=l.Pairwise fun a b=>a.id < b.id
def ml {n:Nat}:∀ {l:List Row} {b:Int},dq n b l = 0 -> s7 l
 | [],_,_=>List.Pairwise.nil
 | y :: l,b,h=>by
  obtain ⟨h1,h2,h3,h4⟩:=a19 h;exact List.Pairwise.cons (fun x hx=>(i6 h4 x hx).1) (ml h4)
def pk {n:Nat}:∀ {l:List Row} {b:Int},(∀ x ∈ l,b < x.id /\ x.vals.length = n /\ x.vals.all bj = true) -> s7 l -> dq n b l = 0
 | [],_,_,_=>rfl
 | y :: l,b,h,hs=>by
  obtain ⟨h1,h2,h3⟩:=h y b8l;unfold s7 at hs;rw [b6a] at hs;simp only [dq];rw [if_neg b8i,if_neg b8i,if_neg (by simp [h3])];exact pk (fun x hx=>⟨hs.1 x hx,(h x (by simp [hx])).2⟩) hs.2
structure TOk (t:Tbl):Prop where
 nm:go t.name = true
 na:t.attrs.length <= 16
 nr:t.rows.length <= 1000
 nms:wa t.attrs = true
 rs:dq t.attrs.length 0 t.rows = 0
variable {t:Tbl}
def mh:cb t = 0 <-> TOk t:=by
 constructor
 · intro h
   unfold cb at h;split at h
   · omega
   split at h
   · omega
   split at h
   · omega
   rename_i h1 h2 h3;exact ⟨by simpa using h1,by omega,by omega,by simpa using h3,h⟩
 rintro ⟨h1,h2,h3,h4,h5⟩;unfold cb;rw [if_neg (by simp [h1]),if_neg b8i,if_neg (by simp [h4]),h5]
def zb {v:Val} (h:bj v = true):v.str.size <= 200:=by
 unfold bj at h;have e0:emp.size = 0:=rfl;split at h
 · simp only [b5j,decide_eq_true_eq] at h;rw [h.2];omega
 split at h
 · simp only [decide_eq_true_eq] at h;rw [h];omega
 split at h
 · simp only [b5j,decide_eq_true_eq] at h;omega
 simp only [b5j,decide_eq_true_eq] at h;rw [h.2];omega
def atz {l:List Val} (h:l.all bj = true):n5 l:=by
 intro j hj;rw [ca l j hj];have:=zb (b5u.1 h _ (b5l hj));unfold Val.ok;omega
theorem TOk.ok (h:TOk t):t.ok:=by
 refine ⟨by have:=h.na;omega,by have:=h.nr;omega,fun j hj=>?_⟩;rw [ca _ j hj];obtain ⟨_,h2,h3⟩:=i6 h.rs _ (b5l hj);exact ⟨by have:=h.na;omega,atz h3⟩
def v8.sub {l':List Row} (h:v8 l) (hs:∀ x ∈ l',x ∈ l):v8 l':=by
 intro j hj;rw [ca _ j hj];obtain ⟨k,hk,e⟩:=b5z (hs _ (b5l hj));rw [<- e,<- ca _ k hk];exact h k hk
def akz (h:cb t = 0):t.ok:=(mh.1 h).ok
def b33 (l:List Row) (k:Nat) (r:Row):List Row:=l.take k ++ r :: l.drop k
def abv {r:Row}:∀ {l:List Row},(sm r l).length = l.length + 1
 | []=>rfl
 | x :: l=>by
  simp only [sm];split
  · simp
  simp [abv (l:=l)]
def as1 {r:Row} (h:ut t r = 0):ajb t r = ⟨t.name,t.attrs,sm r t.rows⟩:=by rw [ajb,if_pos h]
def atx {i:Int} (h:yc t i = 0):ai5 t i = ⟨t.name,t.attrs,t.rows.eraseIdx (fe t.rows i).toNat⟩:=by rw [ai5,if_pos h]
def atb {i a:Int} {v:Val} (h:zx t i a v = 0):ai6 t i a v = ⟨t.name,t.attrs,a1j t.rows (fe t.rows i).toNat a.toNat v⟩:=by rw [ai6,if_pos h]
def an5 {r:Row} (h:ut t r = 0):cb t = 0 /\ r.vals.length = t.attrs.length /\ 0 < r.id /\ r.vals.all bj = true /\ fe t.rows r.id < 0 /\ t.rows.length < 1000:=by
 unfold ut at h;split at h
 · omega
 split at h
 · omega
 split at h
 · omega
 split at h
 · omega
 split at h
 · omega
 rename_i h1 h2 h3 h4 h5;rw [not_or] at h3;exact ⟨by omega,by omega,by omega,by simpa using h3.2,by omega,by omega⟩
def apc {i k:Nat} {v:Val}:(a1j l i k v).length = l.length:=by simp [a1j]
def axj {id:Int} (h:0 <= fe l id):(max (fe l id) 0).toNat < l.length:=by
 have:=amb (p:=fun r:Row=>decide (r.id = id)) (l:=l);unfold fe at *;omega
theorem TOk.width (h:TOk t) {i:Nat} (hi:i < t.rows.length):(t.rows.getD i default).vals.length = t.attrs.length:=by
 rw [ca _ _ hi];exact (i6 h.rs _ (b5l hi)).2.1
def azg {d:DB} {s:ByteArray} (h:¬ j2 d s < 0):(j2 d s).toNat < d.length:=by
 have:=amb (p:=fun t:Tbl=>decide (t.name = s)) (l:=d);unfold j2 at *;omega
def dbV.at {d:DB} (h:dbV d) {s:ByteArray} (hs:¬ j2 d s < 0):TOk (s3 d s):=mh.1 (h.2 _ (azg hs))
def av8 {d:DB} (h:a6e d t = 0):cb t = 0 /\ j2 d t.name < 0 /\ d.length < 50:=by
 unfold a6e at h;split at h
 · omega
 split at h
 · omega
 split at h
 · omega
 exact ⟨by omega,by omega,by omega⟩
end
end
end Go.Hx

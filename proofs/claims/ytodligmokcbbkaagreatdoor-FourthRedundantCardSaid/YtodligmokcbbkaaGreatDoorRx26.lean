/- A part of the proof: Bz5 Rb25 Ch22 Ch25 Cc4 Sp1 Sp2 Sp3 Sp4. -/
import Derived.Test.YtodligmokcbbkaaGreatDoorRx15
import Derived.Test.YtodligmokcbbkaaGreatDoorRx20
import Derived.Test.YtodligmokcbbkaaGreatDoorRx21
import Derived.Test.YtodligmokcbbkaaGreatDoorRx22
import Derived.Test.YtodligmokcbbkaaGreatDoorRx23
import Derived.Test.YtodligmokcbbkaaGreatDoorRx25
set_option linter.all false
section
namespace Go.Hx
theorem apg:xj 3 [] [⟨1,2⟩] 7 = (⟨1,2⟩,true) ∧ ck4 3 [] [⟨1,2⟩] 7 = 0:=by decide +kernel
theorem apc:a8t 3 [] [⟨1,2⟩] = [3,5] ∧ ck4 3 [] [⟨1,2⟩] 0 = 0:=by decide +kernel
theorem asj:xj 3 [⟨2,4⟩] [] 7 = (⟨2,1⟩,true) ∧ ck4 3 [⟨2,4⟩] [] 7 = 0:=by decide +kernel
theorem apm:a8t 3 [⟨2,4⟩] [] = [3,6] ∧ ck4 3 [⟨2,4⟩] [] 0 = 0:=by decide +kernel
structure Mx where
 d:Dps
 m:List Dp
deriving Inhabited
def Mx.mv (x:Mx):List Fd:=x.m.map (Dp.fd x.d.num)
def Mx.c (x:Mx):Nat → PV
 | 0=>x.d.c 0
 | 1=>x.d.c 1
 | 2=>dpl x.m
 | _=>.any
abbrev Mx.pc (x:Mx):PC:=.agg [x.c 0,x.c 1,x.c 2]
def Mx.ok (x:Mx):Bool:=decide (x.d.l.length ≤ 6) && decide (x.m.length ≤ 4)
theorem aov {a b:List AS} (hl:a.length = b.length) (h:∀ j,j < a.length → a.getD j default = b.getD j default):a = b:=by
 apply List.ext_getElem hl
 intro i h1 h2
 have:=h i h1
 rw [List.getD_eq_getElem?_getD,List.getD_eq_getElem?_getD,List.getElem?_eq_getElem h1,List.getElem?_eq_getElem h2] at this
 simpa using this
def aym (n:Int) (l m:List Fd) (ps:List AS):Int:=if ck4 n l m 0 = 0 then lsC n ps l m else ck4 n l m 0
def az4 (n:Int) (l m:List Fd) (ps:List AS):Bool:=if ck4 n l m 0 = 0 then (if lsC n ps l m = 0 then lsB n ps l m && ps.all (fun p=>!vBo (jm n l m) p) else false) else false
end Go.Hx
end
section
namespace Go.Hx
open Go.Proofs Go.Proofs.YtodligmokcbbkaaGreatDoor
open Go.RowKit Go.ChangeShapes Go.WideShapes Go.ChangeAt
def s2C (x:AS × AS):Nat → PV
 | 0=>asC x.1
 | 1=>asC x.2
 | _=>.any
end Go.Hx
end
section
namespace Go.Hx
structure Rcp where
 n:BitVec 8
 f:List Dp
 m:List Dp
 p:List (BitVec 8)
deriving Inhabited
def Rcp.num (d:Rcp) (k:Nat):Int:=1 + ((d.n.toNat % k:Nat):Int)
abbrev Rcp.pc (d:Rcp):PC:=.agg [.raw (.int .u8 (d.n.toNat:Int)),dpl d.f,dpl d.m,psl 1 u8C d.p]
def u8S (n:Int) (b:BitVec 8):AS:=b.setWidth 32 &&& am n
end Go.Hx
end
section
namespace Go.Hx
def stQ (x y:St):Bool:=(x.1 == y.1) && (decide ((x.2.1:Int) = (y.2.1:Int)) && (decide ((x.2.2.1:Int) = (y.2.2.1:Int)) && decide ((x.2.2.2:Int) = (y.2.2.2:Int))))
end Go.Hx
end
section
namespace Go.Hx
open Go.Proofs
abbrev Rcp.fs (d:Rcp) (k:Nat):List Fd:=d.f.map (Dp.fd (d.num k))
abbrev Rcp.ms (d:Rcp) (k:Nat):List Fd:=d.m.map (Dp.fd (d.num k))
abbrev Rcp.ps (d:Rcp) (k:Nat):List AS:=d.p.map (u8S (d.num k))
abbrev Rcp.t0 (d:Rcp) (k:Nat):List Rw:=db (jl (d.num k) (d.ps k))
section
variable {n:Int} {p m:List Fd} {l0 l:List Rw}
end
end Go.Hx
end
section
namespace Go.Hx
def sgn (a b:Int):Int:=if a < b then -1 else if b < a then 1 else 0
def bAt (s:ByteArray) (i:Nat):Int:=bp s i
def fc:List UInt8 → List UInt8 → Int
 | [],[]=>0
 | [],_ :: _=>-1
 | _ :: _,[]=>1
 | x :: xs,y :: ys=>if x = y then fc xs ys else sgn x.toNat y.toNat
abbrev bl (s:ByteArray):List UInt8:=s.data.toList
def jh (a b:ByteArray):Int:=fc (bl a) (bl b)
theorem ew (s:ByteArray):(bl s).length = s.size:=Array.length_toList
theorem a6k:∀ (i:Nat) (a b:List UInt8),i < a.length → i < b.length → a.getD i 0 = b.getD i 0 → fc (a.drop i) (b.drop i) = fc (a.drop (i + 1)) (b.drop (i + 1))
 | 0,x :: xs,y :: ys,_,_,h=>by
  simp only [List.getD_cons_zero] at h
  simp [fc,h]
 | i + 1,x :: xs,y :: ys,h1,h2,h=>by
  simp only [List.getD_cons_succ] at h
  simpa using a6k i xs ys (by simpa using h1) (by simpa using h2) h
 | _,[],_,h1,_,_=>by simp at h1
 | _,_ :: _,[],_,h2,_=>by simp at h2
theorem a71:∀ (i:Nat) (a b:List UInt8),i < a.length → i < b.length → a.getD i 0 ≠ b.getD i 0 → fc (a.drop i) (b.drop i) = sgn (a.getD i 0).toNat (b.getD i 0).toNat
 | 0,x :: xs,y :: ys,_,_,h=>by
  simp only [List.getD_cons_zero] at h
  simp [fc,h]
 | i + 1,x :: xs,y :: ys,h1,h2,h=>by
  simp only [List.getD_cons_succ] at h ⊢
  simpa using a71 i xs ys (by simpa using h1) (by simpa using h2) h
 | _,[],_,h1,_,_=>by simp at h1
 | _,_ :: _,[],_,h2,_=>by simp at h2
theorem a2o:∀ (i:Nat) (a b:List UInt8),i ≤ a.length → i ≤ b.length → (i = a.length ∨ i = b.length) → fc (a.drop i) (b.drop i) = sgn a.length b.length
 | 0,[],[],_,_,_=>by simp [fc,sgn]
 | 0,[],_ :: _,_,_,_=>by simp [fc,sgn] <;> omega
 | 0,_ :: _,[],_,_,_=>by simp [fc,sgn] <;> omega
 | 0,_ :: _,_ :: _,_,_,h=>by simp at h
 | i + 1,x :: xs,y :: ys,h1,h2,h=>by
  have:=a2o i xs ys (by simpa using h1) (by simpa using h2) (by simpa using h)
  simp only [List.drop_succ_cons,this,List.length_cons,sgn]
  repeat' split
  all_goals first | rfl | omega
 | i + 1,[],_,h1,_,_=>by simp at h1
 | i + 1,_ :: _,[],_,h2,_=>by simp at h2
theorem a7k:∀ {a b:List UInt8},fc a b = 0 ↔ a = b
 | [],[]=>by simp [fc]
 | [],_ :: _=>by simp [fc]
 | _ :: _,[]=>by simp [fc]
 | x :: xs,y :: ys=>by
  simp only [fc]
  by_cases h:x = y
  · simp [h,a7k]
  · have:¬ x.toNat = y.toNat:=fun e=>h (UInt8.toNat_inj.1 e)
    simp only [h,if_false,sgn,List.cons.injEq,false_and,iff_false]
    repeat' split
    all_goals omega
theorem a49 (a b:ByteArray) (i j:Nat):bp a i = bp b j ↔ (bl a).getD i 0 = (bl b).getD j 0:=by
 unfold bp
 rw [Int.natCast_inj,UInt8.toNat_inj]
theorem a1w {a b:ByteArray}:jh a b = 0 ↔ a = b:=by
 unfold jh
 rw [a7k]
 exact ⟨fun h=>ByteArray.ext (Array.ext' h),fun h=>by rw [h]⟩
def io (a b:Val):Int :=
 if sgn a.kind b.kind ≠ 0 then sgn a.kind b.kind else if sgn a.num b.num ≠ 0 then sgn a.num b.num else jh a.str b.str
theorem k6 {a b:Int}:sgn a b = 0 ↔ a = b:=by
 unfold sgn
 repeat' split
 all_goals omega
theorem yd {a b:Val}:io a b = 0 ↔ a = b:=by
 unfold io
 cases a;cases b
 simp only [Val.mk.injEq]
 split
 · rename_i h;rw [Ne,k6] at h
   constructor
   · intro e;rw [k6] at e;exact absurd e h
   · rintro ⟨e,_⟩;exact absurd e h
 · rename_i h;rw [Ne,k6,Classical.not_not] at h
   split
   · rename_i h2;rw [Ne,k6] at h2
     constructor
     · intro e;rw [k6] at e;exact absurd e h2
     · rintro ⟨_,e,_⟩;exact absurd e h2
   · rename_i h2;rw [Ne,k6,Classical.not_not] at h2
     rw [a1w]
     exact ⟨fun e=>⟨h,h2,e⟩,fun e=>e.2.2⟩
def gq:List Val → List Val → Int
 | [],[]=>0
 | [],_ :: _=>-1
 | _ :: _,[]=>1
 | x :: xs,y :: ys=>if io x y ≠ 0 then io x y else gq xs ys
theorem a40:∀ (i:Nat) (a b:List Val),i < a.length → i < b.length → io (a.getD i default) (b.getD i default) = 0 → gq (a.drop i) (b.drop i) = gq (a.drop (i + 1)) (b.drop (i + 1))
 | 0,x :: xs,y :: ys,_,_,h=>by
  simp only [List.getD_cons_zero] at h
  simp [gq,h]
 | i + 1,x :: xs,y :: ys,h1,h2,h=>by
  simp only [List.getD_cons_succ] at h
  simpa using a40 i xs ys (by simpa using h1) (by simpa using h2) h
 | _,[],_,h1,_,_=>by simp at h1
 | _,_ :: _,[],_,h2,_=>by simp at h2
theorem a4w:∀ (i:Nat) (a b:List Val),i < a.length → i < b.length → io (a.getD i default) (b.getD i default) ≠ 0 → gq (a.drop i) (b.drop i) = io (a.getD i default) (b.getD i default)
 | 0,x :: xs,y :: ys,_,_,h=>by
  simp only [List.getD_cons_zero] at h
  simp [gq,h]
 | i + 1,x :: xs,y :: ys,h1,h2,h=>by
  simp only [List.getD_cons_succ] at h ⊢
  simpa using a4w i xs ys (by simpa using h1) (by simpa using h2) h
 | _,[],_,h1,_,_=>by simp at h1
 | _,_ :: _,[],_,h2,_=>by simp at h2
theorem ym:∀ (i:Nat) (a b:List Val),i ≤ a.length → i ≤ b.length → (i = a.length ∨ i = b.length) → gq (a.drop i) (b.drop i) = sgn a.length b.length
 | 0,[],[],_,_,_=>by simp [gq,sgn]
 | 0,[],_ :: _,_,_,_=>by simp [gq,sgn] <;> omega
 | 0,_ :: _,[],_,_,_=>by simp [gq,sgn] <;> omega
 | 0,_ :: _,_ :: _,_,_,h=>by simp at h
 | i + 1,x :: xs,y :: ys,h1,h2,h=>by
  have:=ym i xs ys (by simpa using h1) (by simpa using h2) (by simpa using h)
  simp only [List.drop_succ_cons,this,List.length_cons,sgn]
  repeat' split
  all_goals first | rfl | omega
 | i + 1,[],_,h1,_,_=>by simp at h1
 | i + 1,_ :: _,[],_,h2,_=>by simp at h2
theorem a3f:∀ {a b:List Val},gq a b = 0 ↔ a = b
 | [],[]=>by simp [gq]
 | [],_ :: _=>by simp [gq]
 | _ :: _,[]=>by simp [gq]
 | x :: xs,y :: ys=>by
  simp only [gq]
  split
  · rename_i h
    refine ⟨fun e=>absurd e h,fun e=>?_⟩
    simp only [List.cons.injEq] at e
    exact absurd (yd.2 e.1) h
  · rename_i h
    rw [Ne,Classical.not_not,yd] at h
    simp [h,a3f]
end Go.Hx
end
section
namespace Go.Hx
abbrev emp:ByteArray:=⟨#[]⟩
def c6 (v:Val):Bool :=
 if v.kind = 0 then decide (v.num = 0) && decide (v.str = emp)
 else if v.kind = 1 then decide (v.str = emp)
 else if v.kind = 2 then decide (v.num = 0) && decide (v.str.size ≤ 200)
 else decide (v.kind = 3) && decide (1 ≤ v.num) && decide (v.str = emp)
def Val.ok (v:Val):Prop:=v.str.size ≤ 68719476736
def nu (l:List Val):Prop:=∀ j,j < l.length → (l.getD j default).ok
def Row.ok (r:Row):Prop:=r.vals.length ≤ 68719476736 ∧ nu r.vals
def a3s (l:List Row):Prop:=∀ j,j < l.length → (l.getD j default).ok
def Tbl.ok (t:Tbl):Prop:=t.attrs.length ≤ 68719476736 ∧ t.rows.length ≤ 68719476736 ∧ a3s t.rows
def ay9 (d:DB):Prop:=d.length ≤ 68719476736 ∧ ∀ j,j < d.length → Tbl.ok (d.getD j default)
def Chg.ok (x:Chg):Prop:=x.table.ok ∧ x.row.ok ∧ x.value.ok
def awm (l:List Chg):Prop:=∀ j,j < l.length → (l.getD j default).ok
def ltr (c:Int):Bool:=(decide (97 ≤ c) && decide (c ≤ 122)) || (decide (65 ≤ c) && decide (c ≤ 90)) || decide (c = 95)
def dig (c:Int):Bool:=decide (48 ≤ c) && decide (c ≤ 57)
abbrev aey:ByteArray:=⟨#[110,117,108,108]⟩
def a8m (s:ByteArray):Bool:=(List.range s.size).all fun i=>ltr (bp s i) || dig (bp s i)
def gn (s:ByteArray):Bool:=decide (s.size ≠ 0) && decide (s.size ≤ 24) && ltr (bp s 0) && decide (s ≠ aey) && a8m s
def zx (l:List ByteArray) (s:ByteArray):Int:=idx (fun x=>decide (x = s)) l
def lq (l:List ByteArray) (i:Nat):Bool:=gn (l.getD i default) && decide (zx (l.take i) (l.getD i default) < 0)
def xk (l:List ByteArray):Bool:=(List.range l.length).all (lq l)
def dx (n:Nat) (before:Int):List Row → Int
 | []=>0
 | r :: rs=>if r.id ≤ before then 1 else if r.vals.length ≠ n then 6 else if (r.vals.all c6) = false then 1 else dx n r.id rs
def cb (t:Tbl):Int :=
 if gn t.name = false then 1 else if 16 < t.attrs.length ∨ 1000 < t.rows.length then 3 else if xk t.attrs = false then 1 else dx t.attrs.length 0 t.rows
theorem abd {n:Nat} {l:List Row} {i:Nat} {b:Int} (hi:i < l.length):dx n b (l.drop i) = if (l.getD i default).id ≤ b then 1 else if (l.getD i default).vals.length ≠ n then 6 else if ((l.getD i default).vals.all c6) = false then 1 else dx n (l.getD i default).id (l.drop (i + 1)):=by
 rw [List.drop_eq_getElem_cons hi,dx]
 simp only [List.getD,List.getElem?_eq_getElem hi,Option.getD_some]
def ax1 (l:List Row) (id:Int):Option Nat:=l.findIdx? fun r=>decide (r.id = id)
def x8 (l:List Row) (id:Int):Int:=idx (fun r=>decide (r.id = id)) l
def tw (d:DB) (s:ByteArray):Int:=idx (fun t=>decide (t.name = s)) d
def auw (d:DB) (t:Tbl):Int:=if cb t ≠ 0 then cb t else if 0 ≤ tw d t.name then 5 else if 50 ≤ d.length then 3 else 0
theorem j3 {p:Nat → Bool} {n i:Nat} (hi:i < n) (h:p i = false):(List.range n).all p = false:=by
 rw [List.all_eq_false];exact ⟨i,List.mem_range.2 hi,by simp [h]⟩
theorem ly {p:Nat → Bool} {n:Nat} (h:∀ j,j < n → p j = true):(List.range n).all p = true:=by
 rw [List.all_eq_true];exact fun j hj=>h j (List.mem_range.1 hj)
theorem oo {s:ByteArray} (h:s.size = 0):gn s = false:=by simp [gn,h]
theorem mr {s:ByteArray} (h:24 < s.size):gn s = false:=by
 have:¬ s.size ≤ 24:=by omega
 simp [gn,this]
theorem s5 {s:ByteArray} (h:ltr (bp s 0) = false):gn s = false:=by simp [gn,h]
theorem zz {s:ByteArray} {i:Nat} (hi:(i:Int) = 0) (h:ltr (bp s i) = false):gn s = false:=by
 obtain rfl:i = 0:=by omega
 exact s5 h
theorem apl {s:ByteArray} {i:Nat} (hz:0 < i → ltr (bp s 0) = true) (h:i = 0 → ltr (bp s i) = true):ltr (bp s 0) = true:=by
 by_cases e:i = 0
 · subst e;exact h rfl
 · exact hz (by omega)
theorem ld {s:ByteArray} (h:s = aey):gn s = false:=by simp [gn,h]
theorem py {s:ByteArray} {i:Nat} (hi:i < s.size) (h1:ltr (bp s i) = false) (h2:dig (bp s i) = false):gn s = false:=by
 have:a8m s = false:=j3 hi (by simp [h1,h2])
 simp [gn,this]
theorem ahw {s:ByteArray} (h0:s.size ≠ 0) (h1:s.size ≤ 24) (h2:ltr (bp s 0) = true) (h3:s ≠ aey) (h4:∀ j,j < s.size → (ltr (bp s j) || dig (bp s j)) = true):gn s = true:=by
 have:a8m s = true:=ly h4
 simp [gn,this,h0,h1,h2,h3]
theorem sj {s:ByteArray}:s.size = 0 ↔ s = emp:=by
 constructor
 · intro h
   refine ByteArray.ext (Array.ext' ?_)
   have:s.data.toList.length = 0:=by rw [Array.length_toList];exact h
   exact List.eq_nil_of_length_eq_zero this
 · rintro rfl;rfl
theorem ani {α:Type} {p:α → Bool} {l:List α}:decide (0 ≤ idx p l) = l.any p:=by
 unfold idx
 cases h:l.findIdx? p with
 | none =>
  rw [List.findIdx?_eq_none_iff] at h
  have:l.any p = false:=by rw [List.any_eq_false];intro x hx;simp [h x hx]
  simp [this]
 | some i =>
  rw [List.findIdx?_eq_some_iff_getElem] at h
  obtain ⟨hi,hp,_⟩:=h
  have:l.any p = true:=by rw [List.any_eq_true];exact ⟨_,List.getElem_mem hi,hp⟩
  simp [this]
theorem aqx {α:Type} {p:α → Bool} {l:List α}:idx p l < l.length:=by
 unfold idx
 cases h:l.findIdx? p with
 | none=>simp;omega
 | some i =>
  rw [List.findIdx?_eq_some_iff_getElem] at h
  simp [h.1]
theorem abh {l:List Val}:(!l.any fun v=>!c6 v) = l.all c6:=by
 induction l with
 | nil=>rfl
 | cons x l ih=>simp only [List.any_cons,List.all_cons,Bool.not_or,Bool.not_not,ih]
def ofI (k:Int):Val :=
 if k = 0 then ⟨1,0,emp⟩ else if k = 1 then ⟨1,1,emp⟩ else if k = 2 then ⟨1,2,emp⟩ else if k = 3 then ⟨0,0,emp⟩ else if k = 4 then ⟨2,0,⟨#[97]⟩⟩ else if k = 5 then ⟨2,0,⟨#[98]⟩⟩
 else if k = 6 then ⟨2,0,emp⟩ else if k = 7 then ⟨3,1,emp⟩ else if k = 8 then ⟨1, -1,emp⟩ else if k = 9 then ⟨2,0,⟨#[97,98]⟩⟩ else if k = 10 then ⟨3,2,emp⟩ else ⟨1,7,emp⟩
def ofV (c:UInt8):Val:=ofI ((c.toNat:Int) % 12)
def avu (x:Opn):ByteArray:=[⟨#[114]⟩,⟨#[115]⟩,⟨#[116]⟩,emp].getD (x.name.toNat % 4) default
def axo (x:Opn):Row:=⟨x.id,x.vals.map ofV⟩
def a28:List ByteArray:=[⟨#[97]⟩,⟨#[98]⟩,⟨#[99]⟩,⟨#[100]⟩,⟨#[101]⟩,⟨#[102]⟩,⟨#[103]⟩,⟨#[104]⟩]
def aja (l:List UInt8) (n:Nat):List Val:=(List.range n).map fun k=>ofV (l.getD k default)
def akf (x:zu) (n:Nat):List Row:=(List.range x.rows.length).map fun (i:Nat)=>⟨1 + (i:Int) * (1 + (x.gap.toNat:Int) % 3),aja (x.rows.getD i default) n⟩
def av4 (x:zu) (n:Nat):Tbl:=⟨⟨#[114]⟩,a28.take n,akf x n⟩
def ax5 (x:Opn):Tbl:={ av4 x.t (x.t.attrs.toNat % 4) with name:=avu x }
end Go.Hx
end
section
namespace Go.Hx
abbrev T0:Tbl:=⟨emp,[],[]⟩
def aq2 (r:Row):List Row → List Row
 | []=>[r]
 | x :: xs=>if r.id < x.id then r :: x :: xs else x :: aq2 r xs
def ago (t:Tbl) (r:Row):Int :=
 if cb t ≠ 0 then cb t else if r.vals.length ≠ t.attrs.length then 6 else if r.id ≤ 0 ∨ r.vals.all c6 = false then 1
 else if 0 ≤ x8 t.rows r.id then 5 else if 1000 ≤ t.rows.length then 3 else 0
def aw9 (t:Tbl) (r:Row):Tbl:=if ago t r = 0 then { t with rows:=aq2 r t.rows } else T0
def ah6 (t:Tbl) (id:Int):Int:=if cb t ≠ 0 then cb t else if 0 ≤ x8 t.rows id then 0 else 4
def avl (t:Tbl) (id:Int):Tbl:=if ah6 t id = 0 then { t with rows:=t.rows.eraseIdx (x8 t.rows id).toNat } else T0
def alo (t:Tbl) (id attr:Int) (v:Val):Int :=
 if cb t ≠ 0 then cb t else if ¬ 0 ≤ x8 t.rows id then 4 else if attr < 0 ∨ (t.attrs.length:Int) ≤ attr then 6 else if c6 v = false then 1 else 0
def ava (l:List Row) (i k:Nat) (v:Val):List Row:=l.set i { l.getD i default with vals:=(l.getD i default).vals.set k v }
def auy (t:Tbl) (id attr:Int) (v:Val):Tbl:=if alo t id attr v = 0 then { t with rows:=ava t.rows (x8 t.rows id).toNat attr.toNat v } else T0
def ar7 (t:Tbl) (c:Chg):Int :=
 if c.kind = 2 then ago t c.row
 else if ¬ 0 ≤ x8 t.rows c.row.id then 4
 else if ¬ (t.rows.getD (max (x8 t.rows c.row.id) 0).toNat default).vals = c.row.vals then 16
 else if c.kind = 3 then ah6 t c.row.id
 else alo t c.row.id c.attr c.value
def avt (t:Tbl) (c:Chg):Tbl:=if c.kind = 2 then aw9 t c.row else if c.kind = 3 then avl t c.row.id else auy t c.row.id c.attr c.value
def af1 (d:DB) (s:ByteArray):Tbl:=d.getD (tw d s).toNat default
def a3c (d:DB) (c:Chg):Int :=
 if c.kind = 1 then (if c.name ≠ c.table.name then 1 else auw d c.table)
 else if c.kind < 1 ∨ 4 < c.kind then 1
 else if tw d c.name < 0 then 4
 else ar7 (af1 d c.name) c
def aoy (d:DB) (c:Chg):DB :=
 if a3c d c ≠ 0 then d
 else if c.kind = 1 then d ++ [c.table]
 else d.set (tw d c.name).toNat (avt (af1 d c.name) c)
def dbV (d:DB):Prop:=d.length ≤ 50 ∧ ∀ j,j < d.length → cb (d.getD j default) = 0
def att (d:DB):List Chg → Int
 | []=>0
 | c :: cs=>if a3c d c ≠ 0 then a3c d c else att (aoy d c) cs
def ata (d:DB):List Chg → DB
 | []=>d
 | c :: cs=>if a3c d c ≠ 0 then [] else ata (aoy d c) cs
def awd (s:Stt) (l:List Chg):Stt:=if l.length = 0 then s else ⟨s.done ++ [l],[],false,[]⟩
def ayb (s:Stt) (c:Chg):Stt:=if s.opn = true then { s with now:=s.now ++ [c] } else awd s [c]
def asy (x:Opn):Bool:=decide (x.vals.length ≤ 20) && decide (x.t.rows.length ≤ 6) && x.t.rows.all fun r=>decide (r.length ≤ 20)
def few (l:List Opn) (most:Int):Bool:=l.all asy && decide ((l.length:Int) ≤ most)
end Go.Hx
end
section
namespace Go.Hx
theorem yl {n:Nat} {b:Int} {x:Row} {l:List Row} (h:dx n b (x :: l) = 0):b < x.id ∧ x.vals.length = n ∧ x.vals.all c6 = true ∧ dx n x.id l = 0:=by
 simp only [dx] at h
 split at h
 · omega
 · split at h
   · omega
   · split at h
     · omega
     · rename_i h1 h2 h3
       exact ⟨by omega,by omega,by simpa using h3,h⟩
theorem m8 {n:Nat}:∀ {l:List Row} {b:Int},dx n b l = 0 → ∀ x ∈ l,b < x.id ∧ x.vals.length = n ∧ x.vals.all c6 = true
 | [],_,_,x,hx=>by cases hx
 | y :: l,b,h,x,hx=>by
  obtain ⟨h1,h2,h3,h4⟩:=yl h
  rcases List.mem_cons.1 hx with rfl | hx
  · exact ⟨h1,h2,h3⟩
  · obtain ⟨g1,g2⟩:=m8 h4 x hx
    exact ⟨by omega,g2⟩
abbrev ah2 (l:List Row):Prop:=l.Pairwise fun a b=>a.id < b.id
theorem vu {n:Nat}:∀ {l:List Row} {b:Int},dx n b l = 0 → ah2 l
 | [],_,_=>List.Pairwise.nil
 | y :: l,b,h=>by
  obtain ⟨h1,h2,h3,h4⟩:=yl h
  exact List.Pairwise.cons (fun x hx=>(m8 h4 x hx).1) (vu h4)
structure TOk (t:Tbl):Prop where
 nm:gn t.name = true
 na:t.attrs.length ≤ 16
 nr:t.rows.length ≤ 1000
 nms:xk t.attrs = true
 rs:dx t.attrs.length 0 t.rows = 0
theorem ir {t:Tbl}:cb t = 0 ↔ TOk t:=by
 constructor
 · intro h
   unfold cb at h
   split at h
   · omega
   · split at h
     · omega
     · split at h
       · omega
       · rename_i h1 h2 h3
         exact ⟨by simpa using h1,by omega,by omega,by simpa using h3,h⟩
 · rintro ⟨h1,h2,h3,h4,h5⟩
   unfold cb
   rw [if_neg (by simp [h1]),if_neg (by omega),if_neg (by simp [h4]),h5]
theorem x7 {v:Val} (h:c6 v = true):v.str.size ≤ 200:=by
 unfold c6 at h
 have e0:emp.size = 0:=rfl
 split at h
 · simp only [Bool.and_eq_true,decide_eq_true_eq] at h;rw [h.2];omega
 · split at h
   · simp only [decide_eq_true_eq] at h;rw [h];omega
   · split at h
     · simp only [Bool.and_eq_true,decide_eq_true_eq] at h;omega
     · simp only [Bool.and_eq_true,decide_eq_true_eq] at h;rw [h.2];omega
theorem ant {l:List Val} (h:l.all c6 = true):nu l:=by
 intro j hj
 rw [eq l j hj]
 have:=x7 (List.all_eq_true.1 h _ (List.getElem_mem hj))
 unfold Val.ok
 omega
theorem TOk.ok {t:Tbl} (h:TOk t):t.ok:=by
 refine ⟨by have:=h.na;omega,by have:=h.nr;omega,fun j hj=>?_⟩
 rw [eq _ j hj]
 obtain ⟨_,h2,h3⟩:=m8 h.rs _ (List.getElem_mem hj)
 exact ⟨by have:=h.na;omega,ant h3⟩
theorem a3s.sub {l l':List Row} (h:a3s l) (hs:∀ x ∈ l',x ∈ l):a3s l':=by
 intro j hj
 rw [eq _ j hj]
 obtain ⟨k,hk,e⟩:=List.getElem_of_mem (hs _ (List.getElem_mem hj))
 rw [← e,← eq _ k hk]
 exact h k hk
def awx (l:List Row) (k:Nat) (r:Row):List Row:=l.take k ++ r :: l.drop k
theorem TOk.width {t:Tbl} (h:TOk t) {i:Nat} (hi:i < t.rows.length):(t.rows.getD i default).vals.length = t.attrs.length:=by
 rw [eq _ _ hi]
 exact (m8 h.rs _ (List.getElem_mem hi)).2.1
theorem aoo {d:DB} {s:ByteArray} (h:¬ tw d s < 0):(tw d s).toNat < d.length:=by
 have:=aqx (p:=fun t:Tbl=>decide (t.name = s)) (l:=d)
 unfold tw at *
 omega
theorem dbV.at {d:DB} (h:dbV d) {s:ByteArray} (hs:¬ tw d s < 0):TOk (af1 d s):=ir.1 (h.2 _ (aoo hs))
end Go.Hx
end

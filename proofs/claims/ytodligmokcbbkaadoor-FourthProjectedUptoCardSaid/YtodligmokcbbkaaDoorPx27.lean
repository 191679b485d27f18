/- A part of the proof: Bz5 Rb25 Ch22 Ch25 Cc4 Sp1 Sp2 Sp3 Sp4. -/
import Derived.Test.YtodligmokcbbkaaDoorPx15
import Derived.Test.YtodligmokcbbkaaDoorPx21
import Derived.Test.YtodligmokcbbkaaDoorPx23
import Derived.Test.YtodligmokcbbkaaDoorPx24
import Derived.Test.YtodligmokcbbkaaDoorPx26
set_option linter.all false
section
namespace Go.Hx
theorem ani:w8 3 [] [⟨1,2⟩] 7 = (⟨1,2⟩,true) ∧ ck4 3 [] [⟨1,2⟩] 7 = 0:=by decide +kernel
theorem am7:a8p 3 [] [⟨1,2⟩] = [3,5] ∧ ck4 3 [] [⟨1,2⟩] 0 = 0:=by decide +kernel
theorem aoa:w8 3 [⟨2,4⟩] [] 7 = (⟨2,1⟩,true) ∧ ck4 3 [⟨2,4⟩] [] 7 = 0:=by decide +kernel
theorem aml:a8p 3 [⟨2,4⟩] [] = [3,6] ∧ ck4 3 [⟨2,4⟩] [] 0 = 0:=by decide +kernel
structure Mx where
 d:Dps
 m:List Dp
deriving Inhabited
def Mx.mv (x:Mx):List Fd:=x.m.map (Dp.fd x.d.num)
def Mx.c (x:Mx):Nat → PV
 | 0=>x.d.c 0
 | 1=>x.d.c 1
 | 2=>dpl x.m
 | _=>.any
abbrev Mx.pc (x:Mx):PC:=.agg [x.c 0,x.c 1,x.c 2]
def Mx.ok (x:Mx):Bool:=decide (x.d.l.length ≤ 6) && decide (x.m.length ≤ 4)
theorem an6 {a b:List AS} (hl:a.length = b.length) (h:∀ j,j < a.length → a.getD j default = b.getD j default):a = b:=by
 apply List.ext_getElem hl
 intro i h1 h2
 have:=h i h1
 rw [List.getD_eq_getElem?_getD,List.getD_eq_getElem?_getD,List.getElem?_eq_getElem h1,List.getElem?_eq_getElem h2] at this
 simpa using this
def avi (n:Int) (l m:List Fd) (ps:List AS):Int:=if ck4 n l m 0 = 0 then lsC n ps l m else ck4 n l m 0
def av9 (n:Int) (l m:List Fd) (ps:List AS):Bool:=if ck4 n l m 0 = 0 then (if lsC n ps l m = 0 then lsB n ps l m && ps.all (fun p=>!vBo (da n l m) p) else false) else false
end Go.Hx
end
section
namespace Go.Hx
open Go.Proofs Go.Proofs.YtodligmokcbbkaaDoor
open Go.RowKit Go.ChangeShapes Go.WideShapes Go.ChangeAt
theorem as7:RdB Tryd.prog 29 3 Mx.c fun b x=>x.d.l.length ≤ b ∧ x.m.length ≤ b:=by
 intro H enc w sp held fuel cs x h
 obtain ⟨hl,n,hf⟩:=vj Tryd.underlying29 h
 obtain ⟨y0,e0⟩:=hf 0 _ rfl
 obtain ⟨y1,e1⟩:=hf 1 _ rfl
 obtain ⟨a0,b0,h0⟩:=k7 (B:=fun b (d:Dps)=>d.l.length ≤ b) (fun _ _ _ h k=>Nat.le_trans k h) arp e0
 obtain ⟨a1,b1,h1⟩:=k7 (B:=fun b (l:List Dp)=>l.length ≤ b) (fun _ _ _ h k=>Nat.le_trans k h) ajm e1
 refine ⟨hl.trans (by kernel_rfl),(⟨a0,a1⟩:Mx),⟨b0,b1⟩,fun j hj=>?_⟩
 match j,hj with
 | 0,_=>exact h0 0 (by omega)
 | 1,_=>exact h0 1 (by omega)
 | 2,_=>exact h1 0 (by omega)
def s2C (x:AS × AS):Nat → PV
 | 0=>asC x.1
 | 1=>asC x.2
 | _=>.any
theorem aqr:Tryd.prog.readableRec 29 = true ∧ 29 < Tryd.prog.types.size:=⟨by kernel_rfl,of_decide_eq_true (by kernel_rfl)⟩
end Go.Hx
end
section
namespace Go.Hx
structure Rcp where
 n:BitVec 8
 f:List Dp
 m:List Dp
 p:List (BitVec 8)
deriving Inhabited
def Rcp.num (d:Rcp) (k:Nat):Int:=1 + ((d.n.toNat % k:Nat):Int)
abbrev Rcp.pc (d:Rcp):PC:=.agg [.raw (.int .u8 (d.n.toNat:Int)),dpl d.f,dpl d.m,psl 1 u8C d.p]
def u8S (n:Int) (b:BitVec 8):AS:=b.setWidth 32 &&& aq n
end Go.Hx
end
section
namespace Go.Hx
def stQ (x y:St):Bool:=(x.1 == y.1) && (decide ((x.2.1:Int) = (y.2.1:Int)) && (decide ((x.2.2.1:Int) = (y.2.2.1:Int)) && decide ((x.2.2.2:Int) = (y.2.2.2:Int))))
end Go.Hx
end
section
namespace Go.Hx
open Go.Proofs
abbrev Rcp.fs (d:Rcp) (k:Nat):List Fd:=d.f.map (Dp.fd (d.num k))
abbrev Rcp.ms (d:Rcp) (k:Nat):List Fd:=d.m.map (Dp.fd (d.num k))
abbrev Rcp.ps (d:Rcp) (k:Nat):List AS:=d.p.map (u8S (d.num k))
abbrev Rcp.t0 (d:Rcp) (k:Nat):List Rw:=ci (io (d.num k) (d.ps k))
section
variable {n:Int} {p m:List Fd} {l0 l:List Rw}
end
end Go.Hx
end
section
namespace Go.Hx
def sgn (a b:Int):Int:=if a < b then -1 else if b < a then 1 else 0
def bAt (s:ByteArray) (i:Nat):Int:=c8 s i
def kc:List UInt8 → List UInt8 → Int
 | [],[]=>0
 | [],_ :: _=>-1
 | _ :: _,[]=>1
 | x :: xs,y :: ys=>if x = y then kc xs ys else sgn x.toNat y.toNat
abbrev bl (s:ByteArray):List UInt8:=s.data.toList
def tw (a b:ByteArray):Int:=kc (bl a) (bl b)
theorem fm (s:ByteArray):(bl s).length = s.size:=Array.length_toList
theorem a6h:∀ (i:Nat) (a b:List UInt8),i < a.length → i < b.length → a.getD i 0 = b.getD i 0 → kc (a.drop i) (b.drop i) = kc (a.drop (i + 1)) (b.drop (i + 1))
 | 0,x :: xs,y :: ys,_,_,h=>by
  simp only [List.getD_cons_zero] at h
  simp [kc,h]
 | i + 1,x :: xs,y :: ys,h1,h2,h=>by
  simp only [List.getD_cons_succ] at h
  simpa using a6h i xs ys (by simpa using h1) (by simpa using h2) h
 | _,[],_,h1,_,_=>by simp at h1
 | _,_ :: _,[],_,h2,_=>by simp at h2
theorem a6j:∀ (i:Nat) (a b:List UInt8),i < a.length → i < b.length → a.getD i 0 ≠ b.getD i 0 → kc (a.drop i) (b.drop i) = sgn (a.getD i 0).toNat (b.getD i 0).toNat
 | 0,x :: xs,y :: ys,_,_,h=>by
  simp only [List.getD_cons_zero] at h
  simp [kc,h]
 | i + 1,x :: xs,y :: ys,h1,h2,h=>by
  simp only [List.getD_cons_succ] at h ⊢
  simpa using a6j i xs ys (by simpa using h1) (by simpa using h2) h
 | _,[],_,h1,_,_=>by simp at h1
 | _,_ :: _,[],_,h2,_=>by simp at h2
theorem a1v:∀ (i:Nat) (a b:List UInt8),i ≤ a.length → i ≤ b.length → (i = a.length ∨ i = b.length) → kc (a.drop i) (b.drop i) = sgn a.length b.length
 | 0,[],[],_,_,_=>by simp [kc,sgn]
 | 0,[],_ :: _,_,_,_=>by simp [kc,sgn] <;> omega
 | 0,_ :: _,[],_,_,_=>by simp [kc,sgn] <;> omega
 | 0,_ :: _,_ :: _,_,_,h=>by simp at h
 | i + 1,x :: xs,y :: ys,h1,h2,h=>by
  have:=a1v i xs ys (by simpa using h1) (by simpa using h2) (by simpa using h)
  simp only [List.drop_succ_cons,this,List.length_cons,sgn]
  repeat' split
  all_goals first | rfl | omega
 | i + 1,[],_,h1,_,_=>by simp at h1
 | i + 1,_ :: _,[],_,h2,_=>by simp at h2
theorem a6g:∀ {a b:List UInt8},kc a b = 0 ↔ a = b
 | [],[]=>by simp [kc]
 | [],_ :: _=>by simp [kc]
 | _ :: _,[]=>by simp [kc]
 | x :: xs,y :: ys=>by
  simp only [kc]
  by_cases h:x = y
  · simp [h,a6g]
  · have:¬ x.toNat = y.toNat:=fun e=>h (UInt8.toNat_inj.1 e)
    simp only [h,if_false,sgn,List.cons.injEq,false_and,iff_false]
    repeat' split
    all_goals omega
theorem a2p (a b:ByteArray) (i j:Nat):c8 a i = c8 b j ↔ (bl a).getD i 0 = (bl b).getD j 0:=by
 unfold c8
 rw [Int.natCast_inj,UInt8.toNat_inj]
theorem aa3 {a b:ByteArray}:tw a b = 0 ↔ a = b:=by
 unfold tw
 rw [a6g]
 exact ⟨fun h=>ByteArray.ext (Array.ext' h),fun h=>by rw [h]⟩
def n9 (a b:Val):Int :=
 if sgn a.kind b.kind ≠ 0 then sgn a.kind b.kind else if sgn a.num b.num ≠ 0 then sgn a.num b.num else tw a.str b.str
theorem my {a b:Int}:sgn a b = 0 ↔ a = b:=by
 unfold sgn
 repeat' split
 all_goals omega
theorem a62 {a b:Val}:n9 a b = 0 ↔ a = b:=by
 unfold n9
 cases a;cases b
 simp only [Val.mk.injEq]
 split
 · rename_i h;rw [Ne,my] at h
   constructor
   · intro e;rw [my] at e;exact absurd e h
   · rintro ⟨e,_⟩;exact absurd e h
 · rename_i h;rw [Ne,my,Classical.not_not] at h
   split
   · rename_i h2;rw [Ne,my] at h2
     constructor
     · intro e;rw [my] at e;exact absurd e h2
     · rintro ⟨_,e,_⟩;exact absurd e h2
   · rename_i h2;rw [Ne,my,Classical.not_not] at h2
     rw [aa3]
     exact ⟨fun e=>⟨h,h2,e⟩,fun e=>e.2.2⟩
def fq:List Val → List Val → Int
 | [],[]=>0
 | [],_ :: _=>-1
 | _ :: _,[]=>1
 | x :: xs,y :: ys=>if n9 x y ≠ 0 then n9 x y else fq xs ys
theorem a36:∀ (i:Nat) (a b:List Val),i < a.length → i < b.length → n9 (a.getD i default) (b.getD i default) = 0 → fq (a.drop i) (b.drop i) = fq (a.drop (i + 1)) (b.drop (i + 1))
 | 0,x :: xs,y :: ys,_,_,h=>by
  simp only [List.getD_cons_zero] at h
  simp [fq,h]
 | i + 1,x :: xs,y :: ys,h1,h2,h=>by
  simp only [List.getD_cons_succ] at h
  simpa using a36 i xs ys (by simpa using h1) (by simpa using h2) h
 | _,[],_,h1,_,_=>by simp at h1
 | _,_ :: _,[],_,h2,_=>by simp at h2
theorem a3s:∀ (i:Nat) (a b:List Val),i < a.length → i < b.length → n9 (a.getD i default) (b.getD i default) ≠ 0 → fq (a.drop i) (b.drop i) = n9 (a.getD i default) (b.getD i default)
 | 0,x :: xs,y :: ys,_,_,h=>by
  simp only [List.getD_cons_zero] at h
  simp [fq,h]
 | i + 1,x :: xs,y :: ys,h1,h2,h=>by
  simp only [List.getD_cons_succ] at h ⊢
  simpa using a3s i xs ys (by simpa using h1) (by simpa using h2) h
 | _,[],_,h1,_,_=>by simp at h1
 | _,_ :: _,[],_,h2,_=>by simp at h2
theorem yr:∀ (i:Nat) (a b:List Val),i ≤ a.length → i ≤ b.length → (i = a.length ∨ i = b.length) → fq (a.drop i) (b.drop i) = sgn a.length b.length
 | 0,[],[],_,_,_=>by simp [fq,sgn]
 | 0,[],_ :: _,_,_,_=>by simp [fq,sgn] <;> omega
 | 0,_ :: _,[],_,_,_=>by simp [fq,sgn] <;> omega
 | 0,_ :: _,_ :: _,_,_,h=>by simp at h
 | i + 1,x :: xs,y :: ys,h1,h2,h=>by
  have:=yr i xs ys (by simpa using h1) (by simpa using h2) (by simpa using h)
  simp only [List.drop_succ_cons,this,List.length_cons,sgn]
  repeat' split
  all_goals first | rfl | omega
 | i + 1,[],_,h1,_,_=>by simp at h1
 | i + 1,_ :: _,[],_,h2,_=>by simp at h2
theorem a3y:∀ {a b:List Val},fq a b = 0 ↔ a = b
 | [],[]=>by simp [fq]
 | [],_ :: _=>by simp [fq]
 | _ :: _,[]=>by simp [fq]
 | x :: xs,y :: ys=>by
  simp only [fq]
  split
  · rename_i h
    refine ⟨fun e=>absurd e h,fun e=>?_⟩
    simp only [List.cons.injEq] at e
    exact absurd (a62.2 e.1) h
  · rename_i h
    rw [Ne,Classical.not_not,a62] at h
    simp [h,a3y]
end Go.Hx
end
section
namespace Go.Hx
abbrev emp:ByteArray:=⟨#[]⟩
def db (v:Val):Bool :=
 if v.kind = 0 then decide (v.num = 0) && decide (v.str = emp)
 else if v.kind = 1 then decide (v.str = emp)
 else if v.kind = 2 then decide (v.num = 0) && decide (v.str.size ≤ 200)
 else decide (v.kind = 3) && decide (1 ≤ v.num) && decide (v.str = emp)
def Val.ok (v:Val):Prop:=v.str.size ≤ 68719476736
def kz (l:List Val):Prop:=∀ j,j < l.length → (l.getD j default).ok
def Row.ok (r:Row):Prop:=r.vals.length ≤ 68719476736 ∧ kz r.vals
def qd (l:List Row):Prop:=∀ j,j < l.length → (l.getD j default).ok
def Tbl.ok (t:Tbl):Prop:=t.attrs.length ≤ 68719476736 ∧ t.rows.length ≤ 68719476736 ∧ qd t.rows
def as9 (d:DB):Prop:=d.length ≤ 68719476736 ∧ ∀ j,j < d.length → Tbl.ok (d.getD j default)
def Chg.ok (x:Chg):Prop:=x.table.ok ∧ x.row.ok ∧ x.value.ok
def amf (l:List Chg):Prop:=∀ j,j < l.length → (l.getD j default).ok
def ltr (c:Int):Bool:=(decide (97 ≤ c) && decide (c ≤ 122)) || (decide (65 ≤ c) && decide (c ≤ 90)) || decide (c = 95)
def dig (c:Int):Bool:=decide (48 ≤ c) && decide (c ≤ 57)
abbrev abu:ByteArray:=⟨#[110,117,108,108]⟩
def a8d (s:ByteArray):Bool:=(List.range s.size).all fun i=>ltr (c8 s i) || dig (c8 s i)
def fu (s:ByteArray):Bool:=decide (s.size ≠ 0) && decide (s.size ≤ 24) && ltr (c8 s 0) && decide (s ≠ abu) && a8d s
def a1w (l:List ByteArray) (s:ByteArray):Int:=idx (fun x=>decide (x = s)) l
def nn (l:List ByteArray) (i:Nat):Bool:=fu (l.getD i default) && decide (a1w (l.take i) (l.getD i default) < 0)
def oh (l:List ByteArray):Bool:=(List.range l.length).all (nn l)
def dp (n:Nat) (before:Int):List Row → Int
 | []=>0
 | r :: rs=>if r.id ≤ before then 1 else if r.vals.length ≠ n then 6 else if (r.vals.all db) = false then 1 else dp n r.id rs
def cg (t:Tbl):Int :=
 if fu t.name = false then 1 else if 16 < t.attrs.length ∨ 1000 < t.rows.length then 3 else if oh t.attrs = false then 1 else dp t.attrs.length 0 t.rows
theorem a9l {n:Nat} {l:List Row} {i:Nat} {b:Int} (hi:i < l.length):dp n b (l.drop i) = if (l.getD i default).id ≤ b then 1 else if (l.getD i default).vals.length ≠ n then 6 else if ((l.getD i default).vals.all db) = false then 1 else dp n (l.getD i default).id (l.drop (i + 1)):=by
 rw [List.drop_eq_getElem_cons hi,dp]
 simp only [List.getD,List.getElem?_eq_getElem hi,Option.getD_some]
def atm (l:List Row) (id:Int):Option Nat:=l.findIdx? fun r=>decide (r.id = id)
def dv (l:List Row) (id:Int):Int:=idx (fun r=>decide (r.id = id)) l
def gu (d:DB) (s:ByteArray):Int:=idx (fun t=>decide (t.name = s)) d
def a2q (d:DB) (t:Tbl):Int:=if cg t ≠ 0 then cg t else if 0 ≤ gu d t.name then 5 else if 50 ≤ d.length then 3 else 0
theorem i6 {p:Nat → Bool} {n i:Nat} (hi:i < n) (h:p i = false):(List.range n).all p = false:=by
 rw [List.all_eq_false];exact ⟨i,List.mem_range.2 hi,by simp [h]⟩
theorem jg {p:Nat → Bool} {n:Nat} (h:∀ j,j < n → p j = true):(List.range n).all p = true:=by
 rw [List.all_eq_true];exact fun j hj=>h j (List.mem_range.1 hj)
theorem zc {s:ByteArray} (h:s.size = 0):fu s = false:=by simp [fu,h]
theorem w5 {s:ByteArray} (h:24 < s.size):fu s = false:=by
 have:¬ s.size ≤ 24:=by omega
 simp [fu,this]
theorem vv {s:ByteArray} (h:ltr (c8 s 0) = false):fu s = false:=by simp [fu,h]
theorem ru {s:ByteArray} (h:s = abu):fu s = false:=by simp [fu,h]
theorem a5r {s:ByteArray} {i:Nat} (hi:i < s.size) (h1:ltr (c8 s i) = false) (h2:dig (c8 s i) = false):fu s = false:=by
 have:a8d s = false:=i6 hi (by simp [h1,h2])
 simp [fu,this]
theorem apg {s:ByteArray} (h0:s.size ≠ 0) (h1:s.size ≤ 24) (h2:ltr (c8 s 0) = true) (h3:s ≠ abu) (h4:∀ j,j < s.size → (ltr (c8 s j) || dig (c8 s j)) = true):fu s = true:=by
 have:a8d s = true:=jg h4
 simp [fu,this,h0,h1,h2,h3]
theorem a4g {α:Type} {p:α → Bool} {l:List α}:decide (0 ≤ idx p l) = l.any p:=by
 unfold idx
 cases h:l.findIdx? p with
 | none =>
  rw [List.findIdx?_eq_none_iff] at h
  have:l.any p = false:=by rw [List.any_eq_false];intro x hx;simp [h x hx]
  simp [this]
 | some i =>
  rw [List.findIdx?_eq_some_iff_getElem] at h
  obtain ⟨hi,hp,_⟩:=h
  have:l.any p = true:=by rw [List.any_eq_true];exact ⟨_,List.getElem_mem hi,hp⟩
  simp [this]
theorem af3 {α:Type} {p:α → Bool} {l:List α}:idx p l < l.length:=by
 unfold idx
 cases h:l.findIdx? p with
 | none=>simp;omega
 | some i =>
  rw [List.findIdx?_eq_some_iff_getElem] at h
  simp [h.1]
def ofI (k:Int):Val :=
 if k = 0 then ⟨1,0,emp⟩ else if k = 1 then ⟨1,1,emp⟩ else if k = 2 then ⟨1,2,emp⟩ else if k = 3 then ⟨0,0,emp⟩ else if k = 4 then ⟨2,0,⟨#[97]⟩⟩ else if k = 5 then ⟨2,0,⟨#[98]⟩⟩
 else if k = 6 then ⟨2,0,emp⟩ else if k = 7 then ⟨3,1,emp⟩ else if k = 8 then ⟨1, -1,emp⟩ else if k = 9 then ⟨2,0,⟨#[97,98]⟩⟩ else if k = 10 then ⟨3,2,emp⟩ else ⟨1,7,emp⟩
def ofV (c:UInt8):Val:=ofI ((c.toNat:Int) % 12)
def a4t (x:Opn):ByteArray:=[⟨#[114]⟩,⟨#[115]⟩,⟨#[116]⟩,emp].getD (x.name.toNat % 4) default
def ajs (x:Opn):Row:=⟨x.id,x.vals.map ofV⟩
def j4:List ByteArray:=[⟨#[97]⟩,⟨#[98]⟩,⟨#[99]⟩,⟨#[100]⟩,⟨#[101]⟩,⟨#[102]⟩,⟨#[103]⟩,⟨#[104]⟩]
def jx (l:List UInt8) (n:Nat):List Val:=(List.range n).map fun k=>ofV (l.getD k default)
def i9 (x:gm) (n:Nat):List Row:=(List.range x.rows.length).map fun (i:Nat)=>⟨1 + (i:Int) * (1 + (x.gap.toNat:Int) % 3),jx (x.rows.getD i default) n⟩
def ae (x:gm) (n:Nat):Tbl:=⟨⟨#[114]⟩,j4.take n,i9 x n⟩
def ajr (x:Opn):Tbl:={ ae x.t (x.t.attrs.toNat % 4) with name:=a4t x }
theorem a65 {β:Type} [Inhabited β] (f:Nat → β) (n i:Nat) (h:i < n):((List.range n).map f).getD i default = f i:=by
 simp [List.getD,h]
end Go.Hx
end
section
namespace Go.Hx
abbrev T0:Tbl:=⟨emp,[],[]⟩
def oc (r:Row):List Row → List Row
 | []=>[r]
 | x :: xs=>if r.id < x.id then r :: x :: xs else x :: oc r xs
def qv (t:Tbl) (r:Row):Int :=
 if cg t ≠ 0 then cg t else if r.vals.length ≠ t.attrs.length then 6 else if r.id ≤ 0 ∨ r.vals.all db = false then 1
 else if 0 ≤ dv t.rows r.id then 5 else if 1000 ≤ t.rows.length then 3 else 0
def acb (t:Tbl) (r:Row):Tbl:=if qv t r = 0 then { t with rows:=oc r t.rows } else T0
def uh (t:Tbl) (id:Int):Int:=if cg t ≠ 0 then cg t else if 0 ≤ dv t.rows id then 0 else 4
def adk (t:Tbl) (id:Int):Tbl:=if uh t id = 0 then { t with rows:=t.rows.eraseIdx (dv t.rows id).toNat } else T0
def vz (t:Tbl) (id attr:Int) (v:Val):Int :=
 if cg t ≠ 0 then cg t else if ¬ 0 ≤ dv t.rows id then 4 else if attr < 0 ∨ (t.attrs.length:Int) ≤ attr then 6 else if db v = false then 1 else 0
def xc (l:List Row) (i k:Nat) (v:Val):List Row:=l.set i { l.getD i default with vals:=(l.getD i default).vals.set k v }
def aby (t:Tbl) (id attr:Int) (v:Val):Tbl:=if vz t id attr v = 0 then { t with rows:=xc t.rows (dv t.rows id).toNat attr.toNat v } else T0
def a47 (t:Tbl) (c:Chg):Int :=
 if c.kind = 2 then qv t c.row
 else if ¬ 0 ≤ dv t.rows c.row.id then 4
 else if ¬ (t.rows.getD (max (dv t.rows c.row.id) 0).toNat default).vals = c.row.vals then 16
 else if c.kind = 3 then uh t c.row.id
 else vz t c.row.id c.attr c.value
def a29 (t:Tbl) (c:Chg):Tbl:=if c.kind = 2 then acb t c.row else if c.kind = 3 then adk t c.row.id else aby t c.row.id c.attr c.value
def np (d:DB) (s:ByteArray):Tbl:=d.getD (gu d s).toNat default
def gk (d:DB) (c:Chg):Int :=
 if c.kind = 1 then (if c.name ≠ c.table.name then 1 else a2q d c.table)
 else if c.kind < 1 ∨ 4 < c.kind then 1
 else if gu d c.name < 0 then 4
 else a47 (np d c.name) c
def vr (d:DB) (c:Chg):DB :=
 if gk d c ≠ 0 then d
 else if c.kind = 1 then d ++ [c.table]
 else d.set (gu d c.name).toNat (a29 (np d c.name) c)
theorem aE2 {d:DB} {c:Chg} (h:c.kind = 1) (h2:c.name = c.table.name):gk d c = a2q d c.table:=by rw [gk,if_pos h,if_neg (by simp [h2])]
theorem aE5 {d:DB} {c:Chg} (h:2 ≤ c.kind ∧ c.kind ≤ 4) (h2:¬ gu d c.name < 0):gk d c = a47 (np d c.name) c:=by rw [gk,if_neg (by omega),if_neg (by omega),if_neg h2]
theorem am3 {d:DB} {c:Chg} {e:Int} (h:gk d c = e) (he:e ≠ 0):vr d c = d:=by rw [vr,if_pos (by rw [h];exact he)]
theorem aD1 {d:DB} {c:Chg} (h:gk d c = 0) (h1:c.kind = 1):vr d c = d ++ [c.table]:=by rw [vr,if_neg (by simp [h]),if_pos h1]
theorem aD2 {d:DB} {c:Chg} {u:Tbl} (h:gk d c = 0) (h1:¬ c.kind = 1) (hu:a29 (np d c.name) c = u):vr d c = d.set (gu d c.name).toNat u:=by rw [vr,if_neg (by simp [h]),if_neg h1,hu]
def dbV (d:DB):Prop:=d.length ≤ 50 ∧ ∀ j,j < d.length → cg (d.getD j default) = 0
def aq7 (d:DB):List Chg → Int
 | []=>0
 | c :: cs=>if gk d c ≠ 0 then gk d c else aq7 (vr d c) cs
def a6x (d:DB):List Chg → DB
 | []=>d
 | c :: cs=>if gk d c ≠ 0 then [] else a6x (vr d c) cs
def aru (s:Stt) (l:List Chg):Stt:=if l.length = 0 then s else ⟨s.done ++ [l],[],false,[]⟩
def auc (s:Stt) (c:Chg):Stt:=if s.opn = true then { s with now:=s.now ++ [c] } else aru s [c]
def aqs (x:Opn):Bool:=decide (x.vals.length ≤ 20) && decide (x.t.rows.length ≤ 6) && x.t.rows.all fun r=>decide (r.length ≤ 20)
def few (l:List Opn) (most:Int):Bool:=l.all aqs && decide ((l.length:Int) ≤ most)
end Go.Hx
end
section
namespace Go.Hx
theorem yx {n:Nat} {b:Int} {x:Row} {l:List Row} (h:dp n b (x :: l) = 0):b < x.id ∧ x.vals.length = n ∧ x.vals.all db = true ∧ dp n x.id l = 0:=by
 simp only [dp] at h
 split at h
 · omega
 · split at h
   · omega
   · split at h
     · omega
     · rename_i h1 h2 h3
       exact ⟨by omega,by omega,by simpa using h3,h⟩
theorem ff {n:Nat}:∀ {l:List Row} {b:Int},dp n b l = 0 → ∀ x ∈ l,b < x.id ∧ x.vals.length = n ∧ x.vals.all db = true
 | [],_,_,x,hx=>by cases hx
 | y :: l,b,h,x,hx=>by
  obtain ⟨h1,h2,h3,h4⟩:=yx h
  rcases List.mem_cons.1 hx with rfl | hx
  · exact ⟨h1,h2,h3⟩
  · obtain ⟨g1,g2⟩:=ff h4 x hx
    exact ⟨by omega,g2⟩
abbrev jd (l:List Row):Prop:=l.Pairwise fun a b=>a.id < b.id
theorem dz {n:Nat}:∀ {l:List Row} {b:Int},dp n b l = 0 → jd l
 | [],_,_=>List.Pairwise.nil
 | y :: l,b,h=>by
  obtain ⟨h1,h2,h3,h4⟩:=yx h
  exact List.Pairwise.cons (fun x hx=>(ff h4 x hx).1) (dz h4)
theorem kf {n:Nat}:∀ {l:List Row} {b:Int},(∀ x ∈ l,b < x.id ∧ x.vals.length = n ∧ x.vals.all db = true) → jd l → dp n b l = 0
 | [],_,_,_=>rfl
 | y :: l,b,h,hs=>by
  obtain ⟨h1,h2,h3⟩:=h y (by simp)
  unfold jd at hs
  rw [List.pairwise_cons] at hs
  simp only [dp]
  rw [if_neg (by omega),if_neg (by omega),if_neg (by simp [h3])]
  exact kf (fun x hx=>⟨hs.1 x hx,(h x (by simp [hx])).2⟩) hs.2
structure TOk (t:Tbl):Prop where
 nm:fu t.name = true
 na:t.attrs.length ≤ 16
 nr:t.rows.length ≤ 1000
 nms:oh t.attrs = true
 rs:dp t.attrs.length 0 t.rows = 0
theorem mb {t:Tbl}:cg t = 0 ↔ TOk t:=by
 constructor
 · intro h
   unfold cg at h
   split at h
   · omega
   · split at h
     · omega
     · split at h
       · omega
       · rename_i h1 h2 h3
         exact ⟨by simpa using h1,by omega,by omega,by simpa using h3,h⟩
 · rintro ⟨h1,h2,h3,h4,h5⟩
   unfold cg
   rw [if_neg (by simp [h1]),if_neg (by omega),if_neg (by simp [h4]),h5]
theorem ad0 {v:Val} (h:db v = true):v.str.size ≤ 200:=by
 unfold db at h
 have e0:emp.size = 0:=rfl
 split at h
 · simp only [Bool.and_eq_true,decide_eq_true_eq] at h;rw [h.2];omega
 · split at h
   · simp only [decide_eq_true_eq] at h;rw [h];omega
   · split at h
     · simp only [Bool.and_eq_true,decide_eq_true_eq] at h;omega
     · simp only [Bool.and_eq_true,decide_eq_true_eq] at h;rw [h.2];omega
theorem alt {l:List Val} (h:l.all db = true):kz l:=by
 intro j hj
 rw [c7 l j hj]
 have:=ad0 (List.all_eq_true.1 h _ (List.getElem_mem hj))
 unfold Val.ok
 omega
theorem TOk.ok {t:Tbl} (h:TOk t):t.ok:=by
 refine ⟨by have:=h.na;omega,by have:=h.nr;omega,fun j hj=>?_⟩
 rw [c7 _ j hj]
 obtain ⟨_,h2,h3⟩:=ff h.rs _ (List.getElem_mem hj)
 exact ⟨by have:=h.na;omega,alt h3⟩
theorem qd.sub {l l':List Row} (h:qd l) (hs:∀ x ∈ l',x ∈ l):qd l':=by
 intro j hj
 rw [c7 _ j hj]
 obtain ⟨k,hk,e⟩:=List.getElem_of_mem (hs _ (List.getElem_mem hj))
 rw [← e,← c7 _ k hk]
 exact h k hk
theorem afk {t:Tbl} (h:cg t = 0):t.ok:=(mb.1 h).ok
def atg (l:List Row) (k:Nat) (r:Row):List Row:=l.take k ++ r :: l.drop k
theorem a94 {r:Row}:∀ {l:List Row},(oc r l).length = l.length + 1
 | []=>rfl
 | x :: l=>by
  simp only [oc]
  split
  · simp
  · simp [a94 (l:=l)]
theorem alp {t:Tbl} {r:Row} (h:qv t r = 0):acb t r = ⟨t.name,t.attrs,oc r t.rows⟩:=by rw [acb,if_pos h]
theorem alr {t:Tbl} {i:Int} (h:uh t i = 0):adk t i = ⟨t.name,t.attrs,t.rows.eraseIdx (dv t.rows i).toNat⟩:=by rw [adk,if_pos h]
theorem al8 {t:Tbl} {i a:Int} {v:Val} (h:vz t i a v = 0):aby t i a v = ⟨t.name,t.attrs,xc t.rows (dv t.rows i).toNat a.toNat v⟩:=by rw [aby,if_pos h]
theorem aie {t:Tbl} {r:Row} (h:qv t r = 0):cg t = 0 ∧ r.vals.length = t.attrs.length ∧ 0 < r.id ∧ r.vals.all db = true ∧ dv t.rows r.id < 0 ∧ t.rows.length < 1000:=by
 unfold qv at h
 split at h
 · omega
 · split at h
   · omega
   · split at h
     · omega
     · split at h
       · omega
       · split at h
         · omega
         · rename_i h1 h2 h3 h4 h5
           rw [not_or] at h3
           exact ⟨by omega,by omega,by omega,by simpa using h3.2,by omega,by omega⟩
theorem ahr {l:List Row} {i k:Nat} {v:Val}:(xc l i k v).length = l.length:=by simp [xc]
theorem aoq {l:List Row} {id:Int} (h:0 ≤ dv l id):(max (dv l id) 0).toNat < l.length:=by
 have:=af3 (p:=fun r:Row=>decide (r.id = id)) (l:=l)
 unfold dv at *
 omega
theorem TOk.width {t:Tbl} (h:TOk t) {i:Nat} (hi:i < t.rows.length):(t.rows.getD i default).vals.length = t.attrs.length:=by
 rw [c7 _ _ hi]
 exact (ff h.rs _ (List.getElem_mem hi)).2.1
theorem aoj {d:DB} {s:ByteArray} (h:¬ gu d s < 0):(gu d s).toNat < d.length:=by
 have:=af3 (p:=fun t:Tbl=>decide (t.name = s)) (l:=d)
 unfold gu at *
 omega
theorem dbV.at {d:DB} (h:dbV d) {s:ByteArray} (hs:¬ gu d s < 0):TOk (np d s):=mb.1 (h.2 _ (aoj hs))
theorem akt {d:DB} {t:Tbl} (h:a2q d t = 0):cg t = 0 ∧ gu d t.name < 0 ∧ d.length < 50:=by
 unfold a2q at h
 split at h
 · omega
 · split at h
   · omega
   · split at h
     · omega
     · exact ⟨by omega,by omega,by omega⟩
end Go.Hx
end

/- A part of the proof: Sp1 Sp2 Sp3 Sp4 Ka1 Kw1 Kb1 Hx28 Hx29. -/
import Derived.Laws.IdiomRangeMap
import Derived.Test.YtnlcekpflogjkaaGreatDoorTx28
set_option linter.all false
set_option maxRecDepth 100000
namespace Go.Hx
section
def sgn (a b:Int):Int:=if a < b then -1 else if b < a then 1 else 0
def bAt (s:ByteArray) (i:Nat):Int:=c9 s i
def ir:List UInt8 -> List UInt8 -> Int
 | [],[]=>0
 | [],_ :: _=>-1
 | _ :: _,[]=>1
 | x :: xs,y :: ys=>if x = y then ir xs ys else sgn x.toNat y.toNat
abbrev bl (s:ByteArray):List UInt8:=s.data.toList
def o3 (a b:ByteArray):Int:=ir (bl a) (bl b)
def gj (s:ByteArray):(bl s).length = s.size:=bsi
def aiv:∀ (i:Nat) (a b:List UInt8),i < a.length -> i < b.length -> a.getD i 0 = b.getD i 0 -> ir (a.drop i) (b.drop i) = ir (a.drop (i + 1)) (b.drop (i + 1))
 | 0,x :: xs,y :: ys,_,_,h=>by
  simp only [List.getD_cons_zero] at h;simp [ir,h]
 | i + 1,x :: xs,y :: ys,h1,h2,h=>by
  simp only [List.getD_cons_succ] at h;simpa using aiv i xs ys (by simpa using h1) (by simpa using h2) h
 | _,[],_,h1,_,_=>by simp at h1
 | _,_ :: _,[],_,h2,_=>by simp at h2
def aj6:∀ (i:Nat) (a b:List UInt8),i < a.length -> i < b.length -> a.getD i 0 ≠ b.getD i 0 -> ir (a.drop i) (b.drop i) = sgn (a.getD i 0).toNat (b.getD i 0).toNat
 | 0,x :: xs,y :: ys,_,_,h=>by
  simp only [List.getD_cons_zero] at h;simp [ir,h]
 | i + 1,x :: xs,y :: ys,h1,h2,h=>by
  simp only [List.getD_cons_succ] at h ⊢;simpa using aj6 i xs ys (by simpa using h1) (by simpa using h2) h
 | _,[],_,h1,_,_=>by simp at h1
 | _,_ :: _,[],_,h2,_=>by simp at h2
def abn:∀ (i:Nat) (a b:List UInt8),i <= a.length -> i <= b.length -> (i = a.length \/ i = b.length) -> ir (a.drop i) (b.drop i) = sgn a.length b.length
 | 0,[],[],_,_,_=>by simp [ir,sgn]
 | 0,[],_ :: _,_,_,_=>by simp [ir,sgn] <;> omega
 | 0,_ :: _,[],_,_,_=>by simp [ir,sgn] <;> omega
 | 0,_ :: _,_ :: _,_,_,h=>by simp at h
 | i + 1,x :: xs,y :: ys,h1,h2,h=>by
  have:=abn i xs ys (by simpa using h1) (by simpa using h2) (by simpa using h);simp only [List.drop_succ_cons,this,bs6,sgn]
  repeat' split
  all_goals first | rfl | omega
 | i + 1,[],_,h1,_,_=>by simp at h1
 | i + 1,_ :: _,[],_,h2,_=>by simp at h2
def ajp:∀ {a b:List UInt8},ir a b = 0 <-> a = b
 | [],[]=>by simp [ir]
 | [],_ :: _=>by simp [ir]
 | _ :: _,[]=>by simp [ir]
 | x :: xs,y :: ys=>by
  simp only [ir];by_cases h:x = y
  · simp [h,ajp]
  have:¬ x.toNat = y.toNat:=fun e=>h (UInt8.toNat_inj.1 e);simp only [h,if_false,sgn,bue,false_and,iff_false]
  repeat' split
  all_goals omega
def ae8 (a b:ByteArray) (i j:Nat):c9 a i = c9 b j <-> (bl a).getD i 0 = (bl b).getD j 0:=by
 unfold c9;rw [Int.natCast_inj,UInt8.toNat_inj]
def aa4 {a b:ByteArray}:o3 a b = 0 <-> a = b:=by
 unfold o3;rw [ajp];exact ⟨fun h=>ByteArray.ext (Array.ext' h),fun h=>by rw [h]⟩
def ig (a b:Val):Int :=
 if sgn a.kind b.kind ≠ 0 then sgn a.kind b.kind else if sgn a.num b.num ≠ 0 then sgn a.num b.num else o3 a.str b.str
def ou {a b:Int}:sgn a b = 0 <-> a = b:=by
 unfold sgn
 repeat' split
 all_goals omega
def a13 {a b:Val}:ig a b = 0 <-> a = b:=by
 unfold ig;cases a;cases b;simp only [Val.mk.injEq];split
 · rename_i h;rw [Ne,ou] at h
   constructor
   · intro e;rw [ou] at e;exact absurd e h
   rintro ⟨e,_⟩;exact absurd e h
 rename_i h;rw [Ne,ou,Classical.not_not] at h;split
 · rename_i h2;rw [Ne,ou] at h2
   constructor
   · intro e;rw [ou] at e;exact absurd e h2
   rintro ⟨_,e,_⟩;exact absurd e h2
 rename_i h2;rw [Ne,ou,Classical.not_not] at h2;rw [aa4];exact ⟨fun e=>⟨h,h2,e⟩,fun e=>e.2.2⟩
def dl:List Val -> List Val -> Int
 | [],[]=>0
 | [],_ :: _=>-1
 | _ :: _,[]=>1
 | x :: xs,y :: ys=>if ig x y ≠ 0 then ig x y else dl xs ys
def ads:∀ (i:Nat) (a b:List Val),i < a.length -> i < b.length -> ig (a.getD i default) (b.getD i default) = 0 -> dl (a.drop i) (b.drop i) = dl (a.drop (i + 1)) (b.drop (i + 1))
 | 0,x :: xs,y :: ys,_,_,h=>by
  simp only [List.getD_cons_zero] at h;simp [dl,h]
 | i + 1,x :: xs,y :: ys,h1,h2,h=>by
  simp only [List.getD_cons_succ] at h;simpa using ads i xs ys (by simpa using h1) (by simpa using h2) h
 | _,[],_,h1,_,_=>by simp at h1
 | _,_ :: _,[],_,h2,_=>by simp at h2
def aeu:∀ (i:Nat) (a b:List Val),i < a.length -> i < b.length -> ig (a.getD i default) (b.getD i default) ≠ 0 -> dl (a.drop i) (b.drop i) = ig (a.getD i default) (b.getD i default)
 | 0,x :: xs,y :: ys,_,_,h=>by
  simp only [List.getD_cons_zero] at h;simp [dl,h]
 | i + 1,x :: xs,y :: ys,h1,h2,h=>by
  simp only [List.getD_cons_succ] at h ⊢;simpa using aeu i xs ys (by simpa using h1) (by simpa using h2) h
 | _,[],_,h1,_,_=>by simp at h1
 | _,_ :: _,[],_,h2,_=>by simp at h2
def a7u:∀ (i:Nat) (a b:List Val),i <= a.length -> i <= b.length -> (i = a.length \/ i = b.length) -> dl (a.drop i) (b.drop i) = sgn a.length b.length
 | 0,[],[],_,_,_=>by simp [dl,sgn]
 | 0,[],_ :: _,_,_,_=>by simp [dl,sgn] <;> omega
 | 0,_ :: _,[],_,_,_=>by simp [dl,sgn] <;> omega
 | 0,_ :: _,_ :: _,_,_,h=>by simp at h
 | i + 1,x :: xs,y :: ys,h1,h2,h=>by
  have:=a7u i xs ys (by simpa using h1) (by simpa using h2) (by simpa using h);simp only [List.drop_succ_cons,this,bs6,sgn]
  repeat' split
  all_goals first | rfl | omega
 | i + 1,[],_,h1,_,_=>by simp at h1
 | i + 1,_ :: _,[],_,h2,_=>by simp at h2
def a5k:∀ {a b:List Val},dl a b = 0 <-> a = b
 | [],[]=>by simp [dl]
 | [],_ :: _=>by simp [dl]
 | _ :: _,[]=>by simp [dl]
 | x :: xs,y :: ys=>by
  simp only [dl];split
  · rename_i h
    refine ⟨fun e=>absurd e h,fun e=>?_⟩;simp only [bue] at e;exact absurd (a13.2 e.1) h
  rename_i h;rw [Ne,Classical.not_not,a13] at h;simp [h,a5k]
end
section
abbrev emp:ByteArray:=⟨#[]⟩
def d9 (v:Val):Bool :=
 if v.kind = 0 then decide (v.num = 0) && decide (v.str = emp)
 else if v.kind = 1 then decide (v.str = emp)
 else if v.kind = 2 then decide (v.num = 0) && decide (v.str.size <= 200)
 else decide (v.kind = 3) && decide (1 <= v.num) && decide (v.str = emp)
def Val.ok (v:Val):Prop:=v.str.size <= 68719476736
def ur (l:List Val):Prop:=∀ j,j < l.length -> (l.getD j default).ok
def Row.ok (r:Row):Prop:=r.vals.length <= 68719476736 /\ ur r.vals
def ad7 (l:List Row):Prop:=∀ j,j < l.length -> (l.getD j default).ok
def Tbl.ok (t:Tbl):Prop:=t.attrs.length <= 68719476736 /\ t.rows.length <= 68719476736 /\ ad7 t.rows
def bnb (d:DB):Prop:=d.length <= 68719476736 /\ ∀ j,j < d.length -> Tbl.ok (d.getD j default)
def Chg.ok (x:Chg):Prop:=x.table.ok /\ x.row.ok /\ x.value.ok
def bhx (l:List Chg):Prop:=∀ j,j < l.length -> (l.getD j default).ok
def ltr (c:Int):Bool:=(decide (97 <= c) && decide (c <= 122)) || (decide (65 <= c) && decide (c <= 90)) || decide (c = 95)
def dig (c:Int):Bool:=decide (48 <= c) && decide (c <= 57)
abbrev avb:ByteArray:=⟨#[110,117,108,108]⟩
def aop (s:ByteArray):Bool:=(List.range s.size).all fun i=>ltr (c9 s i) || dig (c9 s i)
def lp (s:ByteArray):Bool:=decide (s.size ≠ 0) && decide (s.size <= 24) && ltr (c9 s 0) && decide (s ≠ avb) && aop s
def ah1 (l:List ByteArray) (s:ByteArray):Int:=idx (fun x=>decide (x = s)) l
def a4g (l:List ByteArray) (i:Nat):Bool:=lp (l.getD i default) && decide (ah1 (l.take i) (l.getD i default) < 0)
def a8f (l:List ByteArray):Bool:=(List.range l.length).all (a4g l)
def gv (n:Nat) (before:Int):List Row -> Int
 | []=>0
 | r :: rs=>if r.id <= before then 1 else if r.vals.length ≠ n then 6 else if (r.vals.all d9) = false then 1 else gv n r.id rs
def d8 (t:Tbl):Int :=
 if lp t.name = false then 1 else if 16 < t.attrs.length \/ 1000 < t.rows.length then 3 else if a8f t.attrs = false then 1 else gv t.attrs.length 0 t.rows
section
variable {i:Nat}
def als {n:Nat} {l:List Row} {b:Int} (hi:i < l.length):gv n b (l.drop i) = if (l.getD i default).id <= b then 1 else if (l.getD i default).vals.length ≠ n then 6 else if ((l.getD i default).vals.all d9) = false then 1 else gv n (l.getD i default).id (l.drop (i + 1)):=by
 rw [bty hi,gv];simp only [List.getD,brb hi,bsn]
def bp3 (l:List Row) (id:Int):Option Nat:=l.findIdx? fun r=>decide (r.id = id)
def iq (l:List Row) (id:Int):Int:=idx (fun r=>decide (r.id = id)) l
def md (d:DB) (s:ByteArray):Int:=idx (fun t=>decide (t.name = s)) d
def acs (d:DB) (t:Tbl):Int:=if d8 t ≠ 0 then d8 t else if 0 <= md d t.name then 5 else if 50 <= d.length then 3 else 0
def sq {p:Nat -> Bool} {n:Nat} (hi:i < n) (h:p i = false):(List.range n).all p = false:=by
 rw [List.all_eq_false];exact ⟨i,brw.2 hi,by simp [h]⟩
def wt {p:Nat -> Bool} {n:Nat} (h:∀ j,j < n -> p j = true):(List.range n).all p = true:=by
 rw [bs2];exact fun j hj=>h j (brw.1 hj)
variable {s:ByteArray}
def ah6 (h:s.size = 0):lp s = false:=by simp [lp,h]
def abu (h:24 < s.size):lp s = false:=by
 have:¬ s.size <= 24:=by omega
 simp [lp,this]
def b6s (h:ltr (c9 s 0) = false):lp s = false:=by simp [lp,h]
def a7g (hi:(i:Int) = 0) (h:ltr (c9 s i) = false):lp s = false:=by
 obtain rfl:i = 0:=by omega
 exact b6s h
def bfa (hz:0 < i -> ltr (c9 s 0) = true) (h:i = 0 -> ltr (c9 s i) = true):ltr (c9 s 0) = true:=by
 by_cases e:i = 0
 · subst e;exact h rfl
 exact hz bv9
def a6k (h:s = avb):lp s = false:=by simp [lp,h]
def a79 (hi:i < s.size) (h1:ltr (c9 s i) = false) (h2:dig (c9 s i) = false):lp s = false:=by
 have:aop s = false:=sq hi (by simp [h1,h2]);simp [lp,this]
def bhn (h0:s.size ≠ 0) (h1:s.size <= 24) (h2:ltr (c9 s 0) = true) (h3:s ≠ avb) (h4:∀ j,j < s.size -> (ltr (c9 s j) || dig (c9 s j)) = true):lp s = true:=by
 have:aop s = true:=wt h4;simp [lp,this,h0,h1,h2,h3]
def zh:s.size = 0 <-> s = emp:=by
 constructor
 · intro h
   refine ByteArray.ext (Array.ext' ?_);have:s.data.toList.length = 0:=by rw [bsi];exact h
   exact bss this
 rintro rfl;rfl
def atq {α:Type} {p:α -> Bool} {l:List α}:decide (0 <= idx p l) = l.any p:=by
 unfold idx
 cases h:l.findIdx? p with
 | none =>
  rw [bur] at h;have:l.any p = false:=by rw [bt1];intro x hx;simp [h x hx]
  simp [this]
 | some i =>
  rw [btq] at h;obtain ⟨hi,hp,_⟩:=h;have:l.any p = true:=by rw [bsf];exact ⟨_,brs hi,hp⟩
  simp [this]
def aya {α:Type} {p:α -> Bool} {l:List α}:idx p l < l.length:=by
 unfold idx
 cases h:l.findIdx? p with
 | none=>simp;omega
 | some i =>
  rw [btq] at h;simp [h.1]
def ar1 {l:List Val}:(!l.any fun v=>!d9 v) = l.all d9:=by
 induction l with
 | nil=>rfl
 | cons x l ih=>simp only [List.any_cons,List.all_cons,Bool.not_or,Bool.not_not,ih]
def ofI (k:Int):Val :=
 if k = 0 then ⟨1,0,emp⟩ else if k = 1 then ⟨1,1,emp⟩ else if k = 2 then ⟨1,2,emp⟩ else if k = 3 then ⟨0,0,emp⟩ else if k = 4 then ⟨2,0,⟨#[97]⟩⟩ else if k = 5 then ⟨2,0,⟨#[98]⟩⟩
 else if k = 6 then ⟨2,0,emp⟩ else if k = 7 then ⟨3,1,emp⟩ else if k = 8 then ⟨1, -1,emp⟩ else if k = 9 then ⟨2,0,⟨#[97,98]⟩⟩ else if k = 10 then ⟨3,2,emp⟩ else ⟨1,7,emp⟩
def ofV (c:UInt8):Val:=ofI ((c.toNat:Int) % 12)
def ai2 (x:Opn):ByteArray:=[⟨#[114]⟩,⟨#[115]⟩,⟨#[116]⟩,emp].getD (x.name.toNat % 4) default
def b7u (x:Opn):Row:=⟨x.id,x.vals.map ofV⟩
def og:List ByteArray:=[⟨#[97]⟩,⟨#[98]⟩,⟨#[99]⟩,⟨#[100]⟩,⟨#[101]⟩,⟨#[102]⟩,⟨#[103]⟩,⟨#[104]⟩]
def qt (l:List UInt8) (n:Nat):List Val:=(List.range n).map fun k=>ofV (l.getD k default)
def n4 (x:oe) (n:Nat):List Row:=(List.range x.rows.length).map fun (i:Nat)=>⟨1 + (i:Int) * (1 + (x.gap.toNat:Int) % 3),qt (x.rows.getD i default) n⟩
def sg (x:oe) (n:Nat):Tbl:=⟨⟨#[114]⟩,og.take n,n4 x n⟩
def b7n (x:Opn):Tbl:={ sg x.t (x.t.attrs.toNat % 4) with name:=ai2 x }
def ail {β:Type} [Inhabited β] (f:Nat -> β) (n i:Nat) (h:i < n):((List.range n).map f).getD i default = f i:=by
 simp [List.getD,h]
end
end
section
abbrev T0:Tbl:=⟨emp,[],[]⟩
def xw (r:Row):List Row -> List Row
 | []=>[r]
 | x :: xs=>if r.id < x.id then r :: x :: xs else x :: xw r xs
def a06 (t:Tbl) (r:Row):Int :=
 if d8 t ≠ 0 then d8 t else if r.vals.length ≠ t.attrs.length then 6 else if r.id <= 0 \/ r.vals.all d9 = false then 1
 else if 0 <= iq t.rows r.id then 5 else if 1000 <= t.rows.length then 3 else 0
def ava (t:Tbl) (r:Row):Tbl:=if a06 t r = 0 then { t with rows:=xw r t.rows } else T0
def a2x (t:Tbl) (id:Int):Int:=if d8 t ≠ 0 then d8 t else if 0 <= iq t.rows id then 0 else 4
def ave (t:Tbl) (id:Int):Tbl:=if a2x t id = 0 then { t with rows:=t.rows.eraseIdx (iq t.rows id).toNat } else T0
def a56 (t:Tbl) (id attr:Int) (v:Val):Int :=
 if d8 t ≠ 0 then d8 t else if ¬ 0 <= iq t.rows id then 4 else if attr < 0 \/ (t.attrs.length:Int) <= attr then 6 else if d9 v = false then 1 else 0
def a7y (l:List Row) (i k:Nat) (v:Val):List Row:=l.set i { l.getD i default with vals:=(l.getD i default).vals.set k v }
def ax6 (t:Tbl) (id attr:Int) (v:Val):Tbl:=if a56 t id attr v = 0 then { t with rows:=a7y t.rows (iq t.rows id).toNat attr.toNat v } else T0
def afb (t:Tbl) (c:Chg):Int :=
 if c.kind = 2 then a06 t c.row
 else if ¬ 0 <= iq t.rows c.row.id then 4
 else if ¬ (t.rows.getD (max (iq t.rows c.row.id) 0).toNat default).vals = c.row.vals then 16
 else if c.kind = 3 then a2x t c.row.id
 else a56 t c.row.id c.attr c.value
def ac9 (t:Tbl) (c:Chg):Tbl:=if c.kind = 2 then ava t c.row else if c.kind = 3 then ave t c.row.id else ax6 t c.row.id c.attr c.value
def wz (d:DB) (s:ByteArray):Tbl:=d.getD (md d s).toNat default
def ll (d:DB) (c:Chg):Int :=
 if c.kind = 1 then (if c.name ≠ c.table.name then 1 else acs d c.table)
 else if c.kind < 1 \/ 4 < c.kind then 1
 else if md d c.name < 0 then 4
 else afb (wz d c.name) c
def a4k (d:DB) (c:Chg):DB :=
 if ll d c ≠ 0 then d
 else if c.kind = 1 then d ++ [c.table]
 else d.set (md d c.name).toNat (ac9 (wz d c.name) c)
section
variable {c:Chg} {d:DB}
def aE2 (h:c.kind = 1) (h2:c.name = c.table.name):ll d c = acs d c.table:=by rw [ll,if_pos h,if_neg (by simp [h2])]
def aE5 (h:2 <= c.kind /\ c.kind <= 4) (h2:¬ md d c.name < 0):ll d c = afb (wz d c.name) c:=by rw [ll,if_neg bv9,if_neg bv9,if_neg h2]
def bfk {e:Int} (h:ll d c = e) (he:e ≠ 0):a4k d c = d:=by rw [a4k,if_pos (by rw [h];exact he)]
def aD1 (h:ll d c = 0) (h1:c.kind = 1):a4k d c = d ++ [c.table]:=by rw [a4k,if_neg (by simp [h]),if_pos h1]
def aD2 {u:Tbl} (h:ll d c = 0) (h1:¬ c.kind = 1) (hu:ac9 (wz d c.name) c = u):a4k d c = d.set (md d c.name).toNat u:=by rw [a4k,if_neg (by simp [h]),if_neg h1,hu]
def dbV (d:DB):Prop:=d.length <= 50 /\ ∀ j,j < d.length -> d8 (d.getD j default) = 0
def blh (d:DB):List Chg -> Int
 | []=>0
 | c :: cs=>if ll d c ≠ 0 then ll d c else blh (a4k d c) cs
def ake (d:DB):List Chg -> DB
 | []=>d
 | c :: cs=>if ll d c ≠ 0 then [] else ake (a4k d c) cs
def bof (s:Stt) (l:List Chg):Stt:=if l.length = 0 then s else ⟨s.done ++ [l],[],false,[]⟩
def bqh (s:Stt) (c:Chg):Stt:=if s.opn = true then { s with now:=s.now ++ [c] } else bof s [c]
def bks (x:Opn):Bool:=decide (x.vals.length <= 20) && decide (x.t.rows.length <= 6) && x.t.rows.all fun r=>decide (r.length <= 20)
def few (l:List Opn) (most:Int):Bool:=l.all bks && decide ((l.length:Int) <= most)
end
end
section
section
variable {l:List Row}
def a6a {n:Nat} {b:Int} {x:Row} (h:gv n b (x :: l) = 0):b < x.id /\ x.vals.length = n /\ x.vals.all d9 = true /\ gv n x.id l = 0:=by
 simp only [gv] at h;split at h
 · omega
 split at h
 · omega
 split at h
 · omega
 rename_i h1 h2 h3;exact ⟨by omega,by omega,by simpa using h3,h⟩
def jp {n:Nat}:∀ {l:List Row} {b:Int},gv n b l = 0 -> ∀ x ∈ l,b < x.id /\ x.vals.length = n /\ x.vals.all d9 = true
 | [],_,_,x,hx=>by cases hx
 | y :: l,b,h,x,hx=>by
  obtain ⟨h1,h2,h3,h4⟩:=a6a h
  rcases brm.1 hx with rfl | hx
  · exact ⟨h1,h2,h3⟩
  obtain ⟨g1,g2⟩:=jp h4 x hx;exact ⟨by omega,g2⟩
abbrev vk (l:List Row):Prop:=l.Pairwise fun a b=>a.id < b.id
def qz {n:Nat}:∀ {l:List Row} {b:Int},gv n b l = 0 -> vk l
 | [],_,_=>List.Pairwise.nil
 | y :: l,b,h=>by
  obtain ⟨h1,h2,h3,h4⟩:=a6a h;exact List.Pairwise.cons (fun x hx=>(jp h4 x hx).1) (qz h4)
def vh {n:Nat}:∀ {l:List Row} {b:Int},(∀ x ∈ l,b < x.id /\ x.vals.length = n /\ x.vals.all d9 = true) -> vk l -> gv n b l = 0
 | [],_,_,_=>rfl
 | y :: l,b,h,hs=>by
  obtain ⟨h1,h2,h3⟩:=h y bvd;unfold vk at hs;rw [bsb] at hs;simp only [gv];rw [if_neg bv9,if_neg bv9,if_neg (by simp [h3])];exact vh (fun x hx=>⟨hs.1 x hx,(h x (by simp [hx])).2⟩) hs.2
structure TOk (t:Tbl):Prop where
 nm:lp t.name = true
 na:t.attrs.length <= 16
 nr:t.rows.length <= 1000
 nms:a8f t.attrs = true
 rs:gv t.attrs.length 0 t.rows = 0
variable {t:Tbl}
def nn:d8 t = 0 <-> TOk t:=by
 constructor
 · intro h
   unfold d8 at h;split at h
   · omega
   split at h
   · omega
   split at h
   · omega
   rename_i h1 h2 h3;exact ⟨by simpa using h1,by omega,by omega,by simpa using h3,h⟩
 rintro ⟨h1,h2,h3,h4,h5⟩;unfold d8;rw [if_neg (by simp [h1]),if_neg bv9,if_neg (by simp [h4]),h5]
def a5q {v:Val} (h:d9 v = true):v.str.size <= 200:=by
 unfold d9 at h;have e0:emp.size = 0:=rfl;split at h
 · simp only [brk,decide_eq_true_eq] at h;rw [h.2];omega
 split at h
 · simp only [decide_eq_true_eq] at h;rw [h];omega
 split at h
 · simp only [brk,decide_eq_true_eq] at h;omega
 simp only [brk,decide_eq_true_eq] at h;rw [h.2];omega
def b8t {l:List Val} (h:l.all d9 = true):ur l:=by
 intro j hj;rw [bw l j hj];have:=a5q (bs2.1 h _ (brs hj));unfold Val.ok;omega
theorem TOk.ok (h:TOk t):t.ok:=by
 refine ⟨by have:=h.na;omega,by have:=h.nr;omega,fun j hj=>?_⟩;rw [bw _ j hj];obtain ⟨_,h2,h3⟩:=jp h.rs _ (brs hj);exact ⟨by have:=h.na;omega,b8t h3⟩
def ad7.sub {l':List Row} (h:ad7 l) (hs:∀ x ∈ l',x ∈ l):ad7 l':=by
 intro j hj;rw [bw _ j hj];obtain ⟨k,hk,e⟩:=bry (hs _ (brs hj));rw [<- e,<- bw _ k hk];exact h k hk
def azt (h:d8 t = 0):t.ok:=(nn.1 h).ok
def bp5 (l:List Row) (k:Nat) (r:Row):List Row:=l.take k ++ r :: l.drop k
def ant {r:Row}:∀ {l:List Row},(xw r l).length = l.length + 1
 | []=>rfl
 | x :: l=>by
  simp only [xw];split
  · simp
  simp [ant (l:=l)]
def b8y {r:Row} (h:a06 t r = 0):ava t r = ⟨t.name,t.attrs,xw r t.rows⟩:=by rw [ava,if_pos h]
def be9 {i:Int} (h:a2x t i = 0):ave t i = ⟨t.name,t.attrs,t.rows.eraseIdx (iq t.rows i).toNat⟩:=by rw [ave,if_pos h]
def bba {i a:Int} {v:Val} (h:a56 t i a v = 0):ax6 t i a v = ⟨t.name,t.attrs,a7y t.rows (iq t.rows i).toNat a.toNat v⟩:=by rw [ax6,if_pos h]
def b2e {r:Row} (h:a06 t r = 0):d8 t = 0 /\ r.vals.length = t.attrs.length /\ 0 < r.id /\ r.vals.all d9 = true /\ iq t.rows r.id < 0 /\ t.rows.length < 1000:=by
 unfold a06 at h;split at h
 · omega
 split at h
 · omega
 split at h
 · omega
 split at h
 · omega
 split at h
 · omega
 rename_i h1 h2 h3 h4 h5;rw [not_or] at h3;exact ⟨by omega,by omega,by omega,by simpa using h3.2,by omega,by omega⟩
def b52 {i k:Nat} {v:Val}:(a7y l i k v).length = l.length:=by simp [a7y]
def bhp {id:Int} (h:0 <= iq l id):(max (iq l id) 0).toNat < l.length:=by
 have:=aya (p:=fun r:Row=>decide (r.id = id)) (l:=l);unfold iq at *;omega
theorem TOk.width (h:TOk t) {i:Nat} (hi:i < t.rows.length):(t.rows.getD i default).vals.length = t.attrs.length:=by
 rw [bw _ _ hi];exact (jp h.rs _ (brs hi)).2.1
def bgk {d:DB} {s:ByteArray} (h:¬ md d s < 0):(md d s).toNat < d.length:=by
 have:=aya (p:=fun t:Tbl=>decide (t.name = s)) (l:=d);unfold md at *;omega
def dbV.at {d:DB} (h:dbV d) {s:ByteArray} (hs:¬ md d s < 0):TOk (wz d s):=nn.1 (h.2 _ (bgk hs))
def bdq {d:DB} (h:acs d t = 0):d8 t = 0 /\ md d t.name < 0 /\ d.length < 50:=by
 unfold acs at h;split at h
 · omega
 split at h
 · omega
 split at h
 · omega
 exact ⟨by omega,by omega,by omega⟩
end
end
section
section
variable {i:Nat}
def awg {α:Type} [Inhabited α] {p:α -> Bool} {l:List α} (hi:i < l.length) (h:p (l.getD i default) = true):(l.take (i + 1)).filter p = (l.take i).filter p ++ [l.getD i default]:=by
 rw [al hi,bta,bti,if_pos h];rfl
def awq {α:Type} [Inhabited α] {p:α -> Bool} {l:List α} (hi:i < l.length) (h:p (l.getD i default) = false):(l.take (i + 1)).filter p = (l.take i).filter p:=by
 rw [al hi,bta,bti,if_neg (by rw [h];simp),buk,bse]
def acf (s:AS) (f:Fd):Bool:=decide (sub f.lhs s) && !decide (sub f.rhs s)
def avz (l:List Fd) (s:AS):Int:=idx (acf s) l
def aku (l:List Fd) (s:AS):Bool:=decide (avz l s < 0)
def x7 (l:List Fd) (n:Int) (i:Nat):List AS:=((c4 (aa n)).take i).filter (aku l)
def f7 (l:List Fd) (n:Int):List AS:=(c4 (aa n)).filter (aku l)
variable {l:List Fd} {n:Int}
def a8k (hi:i < (c4 (aa n)).length) (h:avz l ((c4 (aa n)).getD i default) < 0):x7 l n (i + 1) = x7 l n i ++ [(c4 (aa n)).getD i default]:=awg hi (by unfold aku;exact decide_eq_true h)
def a9n (hi:i < (c4 (aa n)).length) (h:¬ avz l ((c4 (aa n)).getD i default) < 0):x7 l n (i + 1) = x7 l n i:=awq hi (by unfold aku;exact decide_eq_false h)
def azv:x7 l n (c4 (aa n)).length = f7 l n:=by unfold x7 f7;rw [bro]
def b1d:(x7 l n i).length <= i:=bs4 (btb _ _) (List.length_take_le _ _)
def am7 (s:AS) (a c:AS):AS:=if c ≠ s /\ sub s c then a &&& c else a
def vq (n:Int) (cl:List AS) (s:AS) (k:Nat):AS:=(cl.take k).foldl (am7 s) (aa n)
variable {cl:List AS} {k:Nat}
def a7z {s:AS} (hk:k < cl.length):vq n cl s (k + 1) = am7 s (vq n cl s k) (cl.getD k default):=by
 unfold vq;rw [al hk,bs8];rfl
def a1z (n:Int) (cl:List AS) (s:AS):Bool:=decide (s ≠ aa n) && decide (vq n cl s cl.length ≠ s)
def a1q (n:Int) (cl:List AS) (i:Nat):List AS:=(cl.take i).filter (a1z n cl)
def kc (n:Int) (cl:List AS):List AS:=cl.filter (a1z n cl)
def a33 (hi:i < cl.length) (h:a1z n cl (cl.getD i default) = true):a1q n cl (i + 1) = a1q n cl i ++ [cl.getD i default]:=awg hi h
def a3v (hi:i < cl.length) (h:a1z n cl (cl.getD i default) = false):a1q n cl (i + 1) = a1q n cl i:=awq hi h
def b3q:a1q n cl cl.length = kc n cl:=by unfold a1q kc;rw [bro]
def b45:(a1q n cl i).length <= i:=bs4 (btb _ _) (List.length_take_le _ _)
def ai5 (s:AS) (k i:Nat):Val:=⟨1,if s.getLsbD i = true then 0 else (k:Int),emp⟩
def x9 (s:AS) (k n:Nat):List Val:=(List.range n).map (ai5 s k)
def bfj (l:List AS) (n k:Nat):Row:=⟨(k:Int) + 1,x9 (l.getD k default) k n⟩
def xd (l:List AS) (n k:Nat):List Row:=(List.range k).map (bfj l n)
def awl (i:Nat):ByteArray:=⟨#[UInt8.ofNat (97 + i)]⟩
def zt (n:Nat):List ByteArray:=(List.range n).map awl
def bjd (l:List AS) (n:Nat):Tbl:=⟨⟨#[116]⟩,zt n,xd l n l.length⟩
def mi {s:AS}:x9 s k (i + 1) = x9 s k i ++ [ai5 s k i]:=by unfold x9;rw [bsp,bth];rfl
def ae3 {l:List AS} {n:Nat}:xd l n (k + 1) = xd l n k ++ [bfj l n k]:=by unfold xd;rw [bsp,bth];rfl
def ajm:zt (i + 1) = zt i ++ [awl i]:=by unfold zt;rw [bsp,bth];rfl
def b1p {s:AS} {n:Nat}:(x9 s k n).length = n:=by simp [x9]
def b10 {l:List AS} {n:Nat}:(xd l n k).length = k:=by simp [xd]
def b4e {n:Nat}:(zt n).length = n:=by simp [zt]
end
end
section
open Go.Proofs
def aun {n:Int} {l:List Fd} (hv:bj n l = 0):a6 bw0 69 [pI n,pP (fdl l)] (af [pI 0]):=by
 have h:=a3c n l;rw [hv] at h;exact h
def bn1 (l:List Fd) (s:AS):a6 bw0 182 [pP (fdl l),pA s] (af [pI (avz l s)]):=by
 refine hpx (nt:=28) Tryz.func182 ?_;refine w_6 ?_;refine cu 0 rfl fun hn=>?_;refine w_6 ?_;refine ah (ι:=Nat) (ka 1 (ka 7 (ka 8 kn))) km (fun i=>⟨[(9,some (vI i))],[]⟩) (fun i=>i <= l.length /\ (∀ j,j < i -> acf s (l.getD j default) = false)) (fun i=>l.length - i) (0) (⟨bre _,c7⟩) kk ?_;rintro i ⟨hi,hIi⟩;refine w_5 ?_;refine hcd (fun h0=>?_) (fun h0=>?_)
 ·
  refine w_8 ?_;refine m9 0 ?_;refine j3 ?_;refine aw rfl rfl (fun r1=>?_) (fun r1=>?_)
  ·
   have h1:=tz1 r1;(iterate 5 refine qy ?_ (hg:=(gtt r1)));refine w_2 ?_;refine au _ rfl (fun r2=>?_) (fun r2=>?_)
   · have h2:=tz2 (eg (ck r1 r2));refine v_5 ?_;exact ⟨cci (xf (p:=acf s) (i:=i) bv9 hIi (by unfold acf;simp_all [j5])).symm,trivial⟩
   have h2:=tz1 (ek (ck r1 r2));refine w_5 ?_;refine lpz (i + 1) kk ?_;exact ⟨by show i + 1 <= _;omega,bo hIi (by unfold acf;simp_all [j5])⟩
  have h1:=tz2 r1;(iterate 5 refine k9 (gft r1) ?_);refine w_8 ?_;refine lpz (i + 1) kk ?_
  exact ⟨by show i + 1 <= _;omega,bo hIi (by unfold acf;simp_all [j5])⟩
 refine v_5 ?_;exact ⟨cci (wq (p:=acf s) fun j hj=>hIi j bv9).symm,trivial⟩
def bam (n:Nat) (l:List Fd) (hn:n <= 12) (hv:bj n l = 0):a6 bw0 133 [pI (n:Int),pP (fdl l)] (af [pP (asl (f7 l n)),pI 0]):=by
 refine hpx (nt:=45) Tryz.func133 ?_;have hsl:=xr (aa (n:Int));have h0z:(0:Int) <= (n:Int):=by omega
 have h1z:(n:Int) <= 16:=by omega
 refine j4 ?_;refine aw rfl rfl (fun r0=>?_) (fun r0=>?_)
 ·
  have h0:=tz1 r0;(iterate 2 refine k9 (gtf r0) ?_);refine w_9 ?_;refine hrr ?_
  omega
 have h0:=tz2 r0;(iterate 2 refine qy ?_ (hg:=(gff r0)));refine w_3 ?_;refine au _ rfl (fun r1=>?_) (fun r1=>?_)
 · have h1:=tz1 (be r0 r1);exfalso;simp_all;omega
 have h1:=tz2 (be r0 r1);refine w_6 ?_;refine hcd (fun h2=>?_) (fun h2=>?_)
 · exfalso;omega
 refine w_6 ?_;refine qcx zn (aun hv) ?_;refine aau ?_;refine rq rfl rfl rfl rfl rfl ?_ (hp:=⟨ua h0z h1z,qq h0z h1z⟩);refine rc rfl rfl rfl rfl rfl rfl ala (av5 (aa (n:Int))) (⟨cci (qw h0z h1z),trivial⟩) rfl rfl ?_;refine w_4 ?_;refine df 7 900 true 1 50 (lf sC []) bvg rfl (CoP.sl rfl (.inr rfl) (fun h=>h) (fun i j hi _=>absurd hi (brg i))) (.inr rfl) rfl ?_;refine br (ka 1 (ka 29 (ka 30 kn))) km (fun i=>⟨[(7,some (.v (.one (.ref 900 (x7 l (n:Int) i).length)))),(31,some (vI i))],[(900,some (.arr true 1 50 (x7 l (n:Int) i).length (lf sC (x7 l (n:Int) i))))]⟩) ((c4 (aa (n:Int))).length) kk ?_;rintro i hi;have hcl:=b1d (l:=l) (n:=(n:Int)) (i:=i);refine w_5 ?_;refine hcd (fun h3=>?_) (fun h3=>?_)
 ·
  refine kf ?_;refine qcx (wgx Tryz.func182) (bn1 l ((c4 (aa (n:Int))).getD i default)) ?_;refine w_2 ?_;refine hcd (fun h4=>?_) (fun h4=>?_)
  ·
   refine w_3 ?_;refine m9 0 ?_;refine r9 1 true ?_;refine w_6 ?_
   first | (refine lpz (i + 1) ⟨⟨⟨_, rfl, (bz (a8k bv9 bva))⟩, tt⟩, ⟨⟨_, rfl, (c5 (a8k bv9 bva) (CoP.refl _))⟩, trivial⟩⟩ ?_; show i + 1 <= _; omega)
         | (refine lpz (i + 1) ⟨⟨⟨_,rfl,(ce (a9n bv9 bva))⟩,tt⟩,⟨⟨_,rfl,(bv (a9n bv9 bva))⟩,trivial⟩⟩ ?_;show i + 1 <= _;omega)
  refine w_5 ?_
  first | (refine lpz (i + 1) ⟨⟨⟨_, rfl, (bz (a8k bv9 bva))⟩, tt⟩, ⟨⟨_, rfl, (c5 (a8k bv9 bva) (CoP.refl _))⟩, trivial⟩⟩ ?_; show i + 1 <= _; omega)
        | (refine lpz (i + 1) ⟨⟨⟨_,rfl,(ce (a9n bv9 bva))⟩,tt⟩,⟨⟨_,rfl,(bv (a9n bv9 bva))⟩,trivial⟩⟩ ?_;show i + 1 <= _;omega)
 obtain rfl:i = (c4 (aa (n:Int))).length:=by omega
 refine w_2 ?_;refine bn 7 rfl rfl rfl ?_;refine v_5 ?_;exact ⟨CoC.one (CoP.of_eq (by rw [azv];rfl)),CoC.refl _,trivial⟩
end
section
section
variable {κ:Type} [DecidableEq κ] [Inhabited κ]
def fm (g:List (κ × List Nat)) (k:κ):Nat:=g.findIdx fun x=>decide (x.1 = k)
def a1r (g:List (κ × List Nat)) (k:κ) (i:Nat):List (κ × List Nat):=if fm g k < g.length then g.modify (fm g k) (fun x=>(x.1,x.2 ++ [i])) else g ++ [(k,[i])]
def c6 (ks:List κ) (i:Nat):List (κ × List Nat):=(List.range i).foldl (fun g j=>a1r g (ks.getD j default) j) []
def b63 (c:List Nat):Bool:=!decide (c.length < 2)
def afr (ks:List κ):List (List Nat):=((c6 ks ks.length).map (·.2)).filter b63
section
variable {ks:List κ}
def mo {i:Nat}:c6 ks (i + 1) = a1r (c6 ks i) (ks.getD i default) i:=by unfold c6;rw [bsp,bs8];rfl
variable {g:List (κ × List Nat)}
def b42 {k:κ} {i:Nat}:g.length <= (a1r g k i).length /\ (a1r g k i).length <= g.length + 1:=by
 unfold a1r;split
 · simp
 simp
def abg:∀ {i:Nat},(c6 ks i).length <= i
 | 0=>brd _
 | i + 1=>by
  have:(c6 ks i).length <= i:=abg;have:=(b42 (g:=c6 ks i) (k:=ks.getD i default) (i:=i)).2;rw [mo];omega
def b5i {k:κ} {i m:Nat} (h:∀ x ∈ g,x.2.length <= m):∀ x ∈ a1r g k i,x.2.length <= m + 1:=by
 unfold a1r;split
 · intro x hx
   obtain ⟨j,hj,e⟩:=bry hx;have hj2:j < g.length:=by simpa using hj
   rw [List.getElem_modify] at e;have hm:=h (g[j]'hj2) (brs hj2);split at e
   · subst e;simp;exact hm
   subst e;omega
 intro x hx
 rcases brr.1 hx with hx | hx
 · have:=h x hx;omega
 simp at hx;subst hx;simp
def an5:∀ {i:Nat},∀ x ∈ c6 ks i,x.2.length <= i
 | 0=>fun x hx=>by simp [c6] at hx
 | i + 1=>by rw [mo];exact b5i an5
end
end
structure Prt where
 rows:Int
 cls:List (List Nat)
instance:Inhabited Prt:=⟨⟨0,[]⟩⟩
theorem Prt.eq_iff {a b:Prt}:a = b <-> a.rows = b.rows /\ a.cls = b.cls:=by cases a;cases b;simp
instance:DecidableEq Prt:=fun a b=>decidable_of_iff _ (Prt.eq_iff (a:=a) (b:=b)).symm
def ilC (l:List Nat):Nat -> PV
 | 0=>il l
 | _=>.any
abbrev ill (l:List (List Nat)):PV:=psl 1 ilC l
def Prt.c (p:Prt):Nat -> PV
 | 0=>.raw (.int .i64 p.rows)
 | 1=>ill p.cls
 | _=>.any
abbrev Prt.pc (p:Prt):PC:=.agg [p.c 0,p.c 1]
def snT (p:Prt) (k j:Nat):List Bool:=(List.range p.rows.toNat).map fun i=>decide (i ∈ (p.cls.take k).flatten ++ (p.cls.getD k default).take j)
def ao6 (c:List Nat) (j:Nat):Int:=if j = 0 then -1 else ((c.getD (j - 1) default:Nat):Int)
def ag0 (p:Prt) (k:Nat):Int:=if k = 0 then -1 else (((p.cls.getD (k - 1) default).getD 0 default:Nat):Int)
def bhv (p:Prt) (k j:Nat):Bool:=decide (ao6 (p.cls.getD k default) j < (((p.cls.getD k default).getD j default:Nat):Int)) && decide ((((p.cls.getD k default).getD j default:Nat):Int) < p.rows) && !decide ((p.cls.getD k default).getD j default ∈ (p.cls.take k).flatten ++ (p.cls.getD k default).take j)
def afh (p:Prt) (k:Nat):Bool:=!decide ((p.cls.getD k default).length < 2) && decide (ag0 p k < (((p.cls.getD k default).getD 0 default:Nat):Int)) && (List.range (p.cls.getD k default).length).all (bhv p k)
def kz (p:Prt):Bool:=decide (0 <= p.rows) && decide (p.rows <= 1000) && (List.range p.cls.length).all (afh p)
def a6d (n:Nat) (l:List Int) (c:List Nat):List Int:=c.foldl (fun l i=>l.set i (n:Int)) l
def a64 (m:Nat):List Int:=(List.range m).map fun (i:Nat)=>-1 - (i:Int)
def u7 (p:Prt) (k:Nat):List Int:=(List.range k).foldl (fun l n=>a6d n l (p.cls.getD n default)) (a64 p.rows.toNat)
def y6 (p:Prt):List Int:=u7 p p.cls.length
section
variable {k:Nat} {p:Prt}
def a6o:u7 p (k + 1) = a6d k (u7 p k) (p.cls.getD k default):=by unfold u7;rw [bsp,bs8];rfl
def abt {n:Nat}:∀ {c:List Nat} {l:List Int},(a6d n l c).length = l.length
 | [],_=>rfl
 | i :: c,l=>by
  show (a6d n (l.set i (n:Int)) c).length = _;rw [abt,btl]
def qp:∀ {k:Nat},(u7 p k).length = p.rows.toNat
 | 0=>by simp [u7,a64]
 | k + 1=>by rw [a6o,abt,qp]
def a41 (p:Prt) (k j:Nat):List Int:=a6d k (u7 p k) ((p.cls.getD k default).take j)
def ayw:a41 p k 0 = u7 p k:=rfl
def azr {j:Nat} (h:j < (p.cls.getD k default).length):a41 p k (j + 1) = (a41 p k j).set ((p.cls.getD k default).getD j default) (k:Int):=by
 unfold a41 a6d;rw [al h,bs8];rfl
def b2h:a41 p k (p.cls.getD k default).length = u7 p (k + 1):=by unfold a41;rw [bro,a6o]
def al1 {j:Nat}:(a41 p k j).length = p.rows.toNat:=by unfold a41;rw [abt,qp]
def b31 (a b:Prt):List (Int × Int):=(List.range a.rows.toNat).map fun i=>((y6 a).getD i default,(y6 b).getD i default)
def b3g (a b:Prt):Prt:=⟨a.rows,afr (b31 a b)⟩
def zw (p:Prt) (k:Nat):Int:=(p.cls.take k).foldl (fun n c=>n - ((c.length:Int) - 1)) p.rows
def av9 (p:Prt):Int:=zw p p.cls.length
def aic (h:k < p.cls.length):zw p (k + 1) = zw p k - (((p.cls.getD k default).length:Int) - 1):=by
 unfold zw;rw [al h,bs8];rfl
end
end
section
open Go.RowKit
structure ExF (kk:KK) (n:Nat) (f:MK -> Option PV) (es:Array MapEntry) (clock:Nat):Prop where
 st:Go.MapKept.Stamped es clock
 le:es.size <= n
 mx:es.size <= maxLen
 to:∀ x ∈ es.toList,∃ key v,x.key = key.val /\ f key = some (.raw v) /\ x.val = v /\ v.oneCell' = true
 of:∀ key y,f key = some y -> MK.ok kk key /\ ∃ x ∈ es.toList,x.key = key.val
structure Vis (es:Array MapEntry) (seen:Array Nat) (vs:List MK):Prop where
 nod:vs.Nodup
 inn:∀ k ∈ vs,∃ x ∈ es.toList,x.key = k.val /\ seen.contains x.born = true
 all:∀ x ∈ es.toList,seen.contains x.born = true -> ∃ k ∈ vs,x.key = k.val
section
variable {kk:KK} {n:Nat} {f:MK -> Option PV} {es:Array MapEntry} {clock:Nat} {seen:Array Nat} {vs:List MK} {e:MapEntry} {key:MK}
end
section
variable {nt:Nat} {st:HSt}
end
abbrev itO (bi b clock:Nat) (seen:Array Nat):a7:=.ex 2 (.pointer (some ⟨bi,0,none⟩)) bi (.mapIter (some b) clock seen clock)
abbrev mpO (b:Nat) (es:Array MapEntry) (clock:Nat):a7:=.ex 0 (.map (some b)) b (.map es clock)
section
variable {P:Program} {nt:Nat} {ops:Array Oper} {st:HSt}
def b9r (st:HSt) (d:Nat) (x:HR):HSt.den ⟨(d,some x) :: st.t,st.o⟩ = st.den.putD (some d) (some x):=by
 unfold HSt.den S.putD S.put;simp [ar]
def aev {k d:Nat} {o:Oper} {L:List Nat} {Q:HSt -> Prop} (hi:ops[k]? = some o) (hg:o.guard = none) (hd:o.dst = some d) (hdn:cj nt (some d) = true) (hnd:∀ c,o.op ≠ .defer c)
 (h:∀ w0 a w c,ag w0 nt c st.den a w -> ∃ v w' o' x c',c'.old = c.old /\ (execOp a.eval o).run P w = .ok (.value v) w' /\ ag w0 nt c' (HSt.den ⟨st.t,o'⟩) a w' /\ am c' (HSt.den ⟨st.t,o'⟩).o x v /\ RN P nt ops L ⟨(d,some x) :: st.t,o'⟩ Q):RN P nt ops (k :: L) st Q:=fun ro n w0 m0 a w QQ ⟨c,hold,hr⟩ hQ=>by
 obtain ⟨v,w',o',x,c',h1,h2,h3,h4,h5⟩:=h w0 a w c hr;rw [wpOpsIn_cons];unfold wpOpIn;simp only [hi];have hw:Region.wanted o (yielded ops a.tmps) = true:=by unfold Region.wanted;rw [hg]
 rw [if_pos hw];refine a2b hnd ?_;unfold Oper.wp;rw [h2];refine h5 ro n w0 m0 _ w' QQ ⟨c',h1.trans hold, ?_⟩ hQ;rw [hd,b9r ⟨st.t,o'⟩ d x];exact h3.putD (some d) (fun k hk=>by cases hk;exact of_decide_eq_true hdn) (some x) v fun y hy=>by cases hy;exact h4
variable {k:Nat} {o:Oper} {L:List Nat} {Q:HSt -> Prop} {x:Operand} {mid j b clock d bi id n:Nat} {es:Array MapEntry} {seen:Array Nat} {kk:KK} {f:MK -> Option PV}
def an9 {w0:World} {c:Ctx} {s:S} {a:Act} {w:World} (h:ag w0 nt c s a w) {v:Value} {y:Obj} {dd:Nat} (hx:ev s x = some (.v (.one (.ref mid j)))) (hm:s.o mid = some (.ex dd v b y)):a.eval x = v /\ w.heap[b]? = some y:=by
 obtain ⟨h1,h2,h3,h4,h5⟩:=h.objs mid _ hm;have hu:bm c s.o (.ref mid j) (a.eval x):=ae h hx;obtain ⟨_,_,hu⟩:=hu;have h6:=hu _ _ _ _ hm rfl;exact ⟨(h6.2 bv9).trans h1,h4⟩
end
end
section
open Go.RowKit
def bp6 (f:MK -> Option PV) (m:MK):MK -> Option PV:=fun k=>bif k.same m then none else f k
section
variable {P:Program} {E:Env} {nt:Nat} {ops:Array Oper} {st:HSt}
def bj1 {k:Nat} {o:Oper} {L:List Nat} {Q:HSt -> Prop} (hi:ops[k]? = some o) (hg:o.guard = none) (hdn:cj nt o.dst = true) (hnd:∀ c,o.op ≠ .defer c)
 (h:∀ w0 a w c,ag w0 nt c st.den a w -> ∃ y w' o' c',c'.old = c.old /\ (execOp a.eval o).run P w = .ok y w' /\ (y = .skip \/ ∃ v,y = .value v) /\ ag w0 nt c' (HSt.den ⟨st.t,o'⟩) a w' /\ RN P nt ops L ⟨(match o.dst with | some d=>[(d,none)] | none=>[]) ++ st.t,o'⟩ Q):RN P nt ops (k :: L) st Q:=fun ro n w0 m0 a w QQ ⟨c,hold,hr⟩ hQ=>by
 obtain ⟨y,w',o',c',h1,h2,hy,h3,h5⟩:=h w0 a w c hr;rw [wpOpsIn_cons];unfold wpOpIn;simp only [hi];have hw:Region.wanted o (yielded ops a.tmps) = true:=by unfold Region.wanted;rw [hg]
 rw [if_pos hw];refine a2b hnd ?_;unfold Oper.wp;rw [h2]
 rcases hy with rfl | ⟨v,rfl⟩
 · refine h5 ro n w0 m0 _ w' QQ ⟨c',h1.trans hold, ?_⟩ hQ
   cases hdd:o.dst with
   | none=>exact h3
   | some d =>
    have e:HSt.den ⟨[(d,none)] ++ st.t,o'⟩ = (HSt.den ⟨st.t,o'⟩).putD (some d) none:=by
     unfold HSt.den S.putD S.put;simp [ar]
    rw [e];exact h3.putD (some d) (fun k hk=>by cases hk;rw [hdd] at hdn;exact of_decide_eq_true hdn) none undef (fun y hy=>by cases hy)
 refine h5 ro n w0 m0 _ w' QQ ⟨c',h1.trans hold, ?_⟩ hQ
 cases hdd:o.dst with
 | none=>exact h3
 | some d =>
  have e:HSt.den ⟨[(d,none)] ++ st.t,o'⟩ = (HSt.den ⟨st.t,o'⟩).putD (some d) none:=by
   unfold HSt.den S.putD S.put;simp [ar]
  rw [e];exact h3.putD (some d) (fun k hk=>by cases hk;rw [hdd] at hdn;exact of_decide_eq_true hdn) none v (fun y hy=>by cases hy)
end
section
variable {P:Program} {E:Env} {nt:Nat} {ops:Array Oper} {st:HSt} {k:Nat} {o:Oper} {L:List Nat} {Q:HSt -> Prop}
end
end
end Go.Hx

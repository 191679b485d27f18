/- A part of the proof: Sp2 Sp3 Sp4. -/
import Derived.Test.YteklilhbjjofbaaGreatDoorLb27
set_option linter.all false
namespace Go.Hx
section
abbrev emp:ByteArray:=⟨#[]⟩
def dl (v:Val):Bool :=
 if v.kind = 0 then decide (v.num = 0) && decide (v.str = emp)
 else if v.kind = 1 then decide (v.str = emp)
 else if v.kind = 2 then decide (v.num = 0) && decide (v.str.size <= 200)
 else decide (v.kind = 3) && decide (1 <= v.num) && decide (v.str = emp)
def Val.ok (v:Val):Prop:=v.str.size <= 68719476736
def ain (l:List Val):Prop:=∀ j,j < l.length -> (l.getD j default).ok
def Row.ok (r:Row):Prop:=r.vals.length <= 68719476736 /\ ain r.vals
def a5f (l:List Row):Prop:=∀ j,j < l.length -> (l.getD j default).ok
def Tbl.ok (t:Tbl):Prop:=t.attrs.length <= 68719476736 /\ t.rows.length <= 68719476736 /\ a5f t.rows
def b1z (d:DB):Prop:=d.length <= 68719476736 /\ ∀ j,j < d.length -> Tbl.ok (d.getD j default)
def Chg.ok (x:Chg):Prop:=x.table.ok /\ x.row.ok /\ x.value.ok
def azv (l:List Chg):Prop:=∀ j,j < l.length -> (l.getD j default).ok
def ltr (c:Int):Bool:=(decide (97 <= c) && decide (c <= 122)) || (decide (65 <= c) && decide (c <= 90)) || decide (c = 95)
def dig (c:Int):Bool:=decide (48 <= c) && decide (c <= 57)
abbrev agw:ByteArray:=⟨#[110,117,108,108]⟩
def ad3 (s:ByteArray):Bool:=(List.range s.size).all fun i=>ltr (bv s i) || dig (bv s i)
def gz (s:ByteArray):Bool:=decide (s.size ≠ 0) && decide (s.size <= 24) && ltr (bv s 0) && decide (s ≠ agw) && ad3 s
def ah8 (l:List ByteArray) (s:ByteArray):Int:=idx (fun x=>decide (x = s)) l
def xz (l:List ByteArray) (i:Nat):Bool:=gz (l.getD i default) && decide (ah8 (l.take i) (l.getD i default) < 0)
def a5j (l:List ByteArray):Bool:=(List.range l.length).all (xz l)
def ff (n:Nat) (before:Int):List Row -> Int
 | []=>0
 | r :: rs=>if r.id <= before then 1 else if r.vals.length ≠ n then 6 else if (r.vals.all dl) = false then 1 else ff n r.id rs
def cg (t:Tbl):Int :=
 if gz t.name = false then 1 else if 16 < t.attrs.length \/ 1000 < t.rows.length then 3 else if a5j t.attrs = false then 1 else ff t.attrs.length 0 t.rows
section
variable {i:Nat}
def ab6 {n:Nat} {l:List Row} {b:Int} (hi:i < l.length):ff n b (l.drop i) = if (l.getD i default).id <= b then 1 else if (l.getD i default).vals.length ≠ n then 6 else if ((l.getD i default).vals.all dl) = false then 1 else ff n (l.getD i default).id (l.drop (i + 1)):=by
 rw [b45 hi,ff];simp only [List.getD,b25 hi,b36]
def b04 (l:List Row) (id:Int):Option Nat:=l.findIdx? fun r=>decide (r.id = id)
def x8 (l:List Row) (id:Int):Int:=idx (fun r=>decide (r.id = id)) l
def uw (d:DB) (s:ByteArray):Int:=idx (fun t=>decide (t.name = s)) d
def ax6 (d:DB) (t:Tbl):Int:=if cg t ≠ 0 then cg t else if 0 <= uw d t.name then 5 else if 50 <= d.length then 3 else 0
def ve {p:Nat -> Bool} {n:Nat} (hi:i < n) (h:p i = false):(List.range n).all p = false:=by
 rw [List.all_eq_false];exact ⟨i,b2v.2 hi,by simp [h]⟩
def a1q {p:Nat -> Bool} {n:Nat} (h:∀ j,j < n -> p j = true):(List.range n).all p = true:=by
 rw [b3d];exact fun j hj=>h j (b2v.1 hj)
variable {s:ByteArray}
def a5r (h:s.size = 0):gz s = false:=by simp [gz,h]
def a32 (h:24 < s.size):gz s = false:=by
 have:¬ s.size <= 24:=by omega
 simp [gz,this]
def alp (h:ltr (bv s 0) = false):gz s = false:=by simp [gz,h]
def a0e (hi:(i:Int) = 0) (h:ltr (bv s i) = false):gz s = false:=by
 obtain rfl:i = 0:=by omega
 exact alp h
def auj (hz:0 < i -> ltr (bv s 0) = true) (h:i = 0 -> ltr (bv s i) = true):ltr (bv s 0) = true:=by
 by_cases e:i = 0
 · subst e;exact h rfl
 exact hz b5c
def zj (h:s = agw):gz s = false:=by simp [gz,h]
def zg (hi:i < s.size) (h1:ltr (bv s i) = false) (h2:dig (bv s i) = false):gz s = false:=by
 have:ad3 s = false:=ve hi (by simp [h1,h2]);simp [gz,this]
def att (h0:s.size ≠ 0) (h1:s.size <= 24) (h2:ltr (bv s 0) = true) (h3:s ≠ agw) (h4:∀ j,j < s.size -> (ltr (bv s j) || dig (bv s j)) = true):gz s = true:=by
 have:ad3 s = true:=a1q h4;simp [gz,this,h0,h1,h2,h3]
def sx:s.size = 0 <-> s = emp:=by
 constructor
 · intro h
   refine ByteArray.ext (Array.ext' ?_);have:s.data.toList.length = 0:=by rw [b2w];exact h
   exact b3s this
 rintro rfl;rfl
def aqk {α:Type} {p:α -> Bool} {l:List α}:decide (0 <= idx p l) = l.any p:=by
 unfold idx
 cases h:l.findIdx? p with
 | none =>
  rw [List.findIdx?_eq_none_iff] at h;have:l.any p = false:=by rw [b3n];intro x hx;simp [h x hx]
  simp [this]
 | some i =>
  rw [b4b] at h;obtain ⟨hi,hp,_⟩:=h;have:l.any p = true:=by rw [b3a];exact ⟨_,b2l hi,hp⟩
  simp [this]
def aue {α:Type} {p:α -> Bool} {l:List α}:idx p l < l.length:=by
 unfold idx
 cases h:l.findIdx? p with
 | none=>simp;omega
 | some i =>
  rw [b4b] at h;simp [h.1]
def adf {l:List Val}:(!l.any fun v=>!dl v) = l.all dl:=by
 induction l with
 | nil=>rfl
 | cons x l ih=>simp only [List.any_cons,List.all_cons,Bool.not_or,Bool.not_not,ih]
def ofI (k:Int):Val :=
 if k = 0 then ⟨1,0,emp⟩ else if k = 1 then ⟨1,1,emp⟩ else if k = 2 then ⟨1,2,emp⟩ else if k = 3 then ⟨0,0,emp⟩ else if k = 4 then ⟨2,0,⟨#[97]⟩⟩ else if k = 5 then ⟨2,0,⟨#[98]⟩⟩
 else if k = 6 then ⟨2,0,emp⟩ else if k = 7 then ⟨3,1,emp⟩ else if k = 8 then ⟨1, -1,emp⟩ else if k = 9 then ⟨2,0,⟨#[97,98]⟩⟩ else if k = 10 then ⟨3,2,emp⟩ else ⟨1,7,emp⟩
def ofV (c:UInt8):Val:=ofI ((c.toNat:Int) % 12)
def ayg (x:Opn):ByteArray:=[⟨#[114]⟩,⟨#[115]⟩,⟨#[116]⟩,emp].getD (x.name.toNat % 4) default
def b0c (x:Opn):Row:=⟨x.id,x.vals.map ofV⟩
def jg:List ByteArray:=[⟨#[97]⟩,⟨#[98]⟩,⟨#[99]⟩,⟨#[100]⟩,⟨#[101]⟩,⟨#[102]⟩,⟨#[103]⟩,⟨#[104]⟩]
def amr (l:List UInt8) (n:Nat):List Val:=(List.range n).map fun k=>ofV (l.getD k default)
def al3 (x:yz) (n:Nat):List Row:=(List.range x.rows.length).map fun (i:Nat)=>⟨1 + (i:Int) * (1 + (x.gap.toNat:Int) % 3),amr (x.rows.getD i default) n⟩
def az4 (x:yz) (n:Nat):Tbl:=⟨⟨#[114]⟩,jg.take n,al3 x n⟩
def b0n (x:Opn):Tbl:={ az4 x.t (x.t.attrs.toNat % 4) with name:=ayg x }
end
end
section
abbrev T0:Tbl:=⟨emp,[],[]⟩
def atc (r:Row):List Row -> List Row
 | []=>[r]
 | x :: xs=>if r.id < x.id then r :: x :: xs else x :: atc r xs
def aj4 (t:Tbl) (r:Row):Int :=
 if cg t ≠ 0 then cg t else if r.vals.length ≠ t.attrs.length then 6 else if r.id <= 0 \/ r.vals.all dl = false then 1
 else if 0 <= x8 t.rows r.id then 5 else if 1000 <= t.rows.length then 3 else 0
def axn (t:Tbl) (r:Row):Tbl:=if aj4 t r = 0 then { t with rows:=atc r t.rows } else T0
def ai3 (t:Tbl) (id:Int):Int:=if cg t ≠ 0 then cg t else if 0 <= x8 t.rows id then 0 else 4
def azp (t:Tbl) (id:Int):Tbl:=if ai3 t id = 0 then { t with rows:=t.rows.eraseIdx (x8 t.rows id).toNat } else T0
def aor (t:Tbl) (id attr:Int) (v:Val):Int :=
 if cg t ≠ 0 then cg t else if ¬ 0 <= x8 t.rows id then 4 else if attr < 0 \/ (t.attrs.length:Int) <= attr then 6 else if dl v = false then 1 else 0
def az9 (l:List Row) (i k:Nat) (v:Val):List Row:=l.set i { l.getD i default with vals:=(l.getD i default).vals.set k v }
def aya (t:Tbl) (id attr:Int) (v:Val):Tbl:=if aor t id attr v = 0 then { t with rows:=az9 t.rows (x8 t.rows id).toNat attr.toNat v } else T0
def atw (t:Tbl) (c:Chg):Int :=
 if c.kind = 2 then aj4 t c.row
 else if ¬ 0 <= x8 t.rows c.row.id then 4
 else if ¬ (t.rows.getD (max (x8 t.rows c.row.id) 0).toNat default).vals = c.row.vals then 16
 else if c.kind = 3 then ai3 t c.row.id
 else aor t c.row.id c.attr c.value
def ay6 (t:Tbl) (c:Chg):Tbl:=if c.kind = 2 then axn t c.row else if c.kind = 3 then azp t c.row.id else aya t c.row.id c.attr c.value
def afw (d:DB) (s:ByteArray):Tbl:=d.getD (uw d s).toNat default
def a54 (d:DB) (c:Chg):Int :=
 if c.kind = 1 then (if c.name ≠ c.table.name then 1 else ax6 d c.table)
 else if c.kind < 1 \/ 4 < c.kind then 1
 else if uw d c.name < 0 then 4
 else atw (afw d c.name) c
def asv (d:DB) (c:Chg):DB :=
 if a54 d c ≠ 0 then d
 else if c.kind = 1 then d ++ [c.table]
 else d.set (uw d c.name).toNat (ay6 (afw d c.name) c)
def dbV (d:DB):Prop:=d.length <= 50 /\ ∀ j,j < d.length -> cg (d.getD j default) = 0
def awc (d:DB):List Chg -> Int
 | []=>0
 | c :: cs=>if a54 d c ≠ 0 then a54 d c else awc (asv d c) cs
def aw8 (d:DB):List Chg -> DB
 | []=>d
 | c :: cs=>if a54 d c ≠ 0 then [] else aw8 (asv d c) cs
def az0 (s:Stt) (l:List Chg):Stt:=if l.length = 0 then s else ⟨s.done ++ [l],[],false,[]⟩
def b1h (s:Stt) (c:Chg):Stt:=if s.opn = true then { s with now:=s.now ++ [c] } else az0 s [c]
def awz (x:Opn):Bool:=decide (x.vals.length <= 20) && decide (x.t.rows.length <= 6) && x.t.rows.all fun r=>decide (r.length <= 20)
def few (l:List Opn) (most:Int):Bool:=l.all awz && decide ((l.length:Int) <= most)
end
section
def acj {n:Nat} {b:Int} {x:Row} {l:List Row} (h:ff n b (x :: l) = 0):b < x.id /\ x.vals.length = n /\ x.vals.all dl = true /\ ff n x.id l = 0:=by
 simp only [ff] at h;split at h
 · omega
 split at h
 · omega
 split at h
 · omega
 rename_i h1 h2 h3;exact ⟨by omega,by omega,by simpa using h3,h⟩
def vn {n:Nat}:∀ {l:List Row} {b:Int},ff n b l = 0 -> ∀ x ∈ l,b < x.id /\ x.vals.length = n /\ x.vals.all dl = true
 | [],_,_,x,hx=>by cases hx
 | y :: l,b,h,x,hx=>by
  obtain ⟨h1,h2,h3,h4⟩:=acj h
  rcases b2f.1 hx with rfl | hx
  · exact ⟨h1,h2,h3⟩
  obtain ⟨g1,g2⟩:=vn h4 x hx;exact ⟨by omega,g2⟩
abbrev azu (l:List Row):Prop:=l.Pairwise fun a b=>a.id < b.id
structure TOk (t:Tbl):Prop where
 nm:gz t.name = true
 na:t.attrs.length <= 16
 nr:t.rows.length <= 1000
 nms:a5j t.attrs = true
 rs:ff t.attrs.length 0 t.rows = 0
def afi {t:Tbl}:cg t = 0 <-> TOk t:=by
 constructor
 · intro h
   unfold cg at h;split at h
   · omega
   split at h
   · omega
   split at h
   · omega
   rename_i h1 h2 h3;exact ⟨by simpa using h1,by omega,by omega,by simpa using h3,h⟩
 rintro ⟨h1,h2,h3,h4,h5⟩;unfold cg;rw [if_neg (by simp [h1]),if_neg b5c,if_neg (by simp [h4]),h5]
def xp {v:Val} (h:dl v = true):v.str.size <= 200:=by
 unfold dl at h;have e0:emp.size = 0:=rfl;split at h
 · simp only [b2h,decide_eq_true_eq] at h;rw [h.2];omega
 split at h
 · simp only [decide_eq_true_eq] at h;rw [h];omega
 split at h
 · simp only [b2h,decide_eq_true_eq] at h;omega
 simp only [b2h,decide_eq_true_eq] at h;rw [h.2];omega
def apz {l:List Val} (h:l.all dl = true):ain l:=by
 intro j hj;rw [kp l j hj];have:=xp (b3d.1 h _ (b2l hj));unfold Val.ok;omega
theorem TOk.ok {t:Tbl} (h:TOk t):t.ok:=by
 refine ⟨by have:=h.na;omega,by have:=h.nr;omega,fun j hj=>?_⟩;rw [kp _ j hj];obtain ⟨_,h2,h3⟩:=vn h.rs _ (b2l hj);exact ⟨by have:=h.na;omega,apz h3⟩
def a5f.sub {l l':List Row} (h:a5f l) (hs:∀ x ∈ l',x ∈ l):a5f l':=by
 intro j hj;rw [kp _ j hj];obtain ⟨k,hk,e⟩:=b34 (hs _ (b2l hj));rw [<- e,<- kp _ k hk];exact h k hk
def b0r (l:List Row) (k:Nat) (r:Row):List Row:=l.take k ++ r :: l.drop k
theorem TOk.width {t:Tbl} (h:TOk t) {i:Nat} (hi:i < t.rows.length):(t.rows.getD i default).vals.length = t.attrs.length:=by
 rw [kp _ _ hi];exact (vn h.rs _ (b2l hi)).2.1
def au6 {d:DB} {s:ByteArray} (h:¬ uw d s < 0):(uw d s).toNat < d.length:=by
 have:=aue (p:=fun t:Tbl=>decide (t.name = s)) (l:=d);unfold uw at *;omega
def dbV.at {d:DB} (h:dbV d) {s:ByteArray} (hs:¬ uw d s < 0):TOk (afw d s):=afi.1 (h.2 _ (au6 hs))
end
end Go.Hx

/- A part of the proof: Sp2 Sp3 Sp4 Ka1 Kw1 Kb1 Hx28 Hx29. -/
import Derived.Laws.IdiomRangeMap
import Derived.Test.YtnlcekpflogjkaaGreatDoorTz29
set_option linter.all false
set_option maxRecDepth 100000
namespace Go.Hx
section
abbrev emp:ByteArray:=⟨#[]⟩
def dy (v:Val):Bool :=
 if v.kind=0 then decide (v.num=0)&&decide (v.str=emp)
 else if v.kind=1 then decide (v.str=emp)
 else if v.kind=2 then decide (v.num=0)&&decide (v.str.size<=200)
 else decide (v.kind=3)&&decide (1<=v.num)&&decide (v.str=emp)
def Val.ok(v:Val):Prop:=v.str.size<=68719476736
def aza(l:List Val):Prop:=∀j,j<l.length->(l.getD j default).ok
def Row.ok(r:Row):Prop:=r.vals.length<=68719476736/\aza r.vals
def af7(l:List Row):Prop:=∀j,j<l.length->(l.getD j default).ok
def Tbl.ok(t:Tbl):Prop:=t.attrs.length<=68719476736/\t.rows.length<=68719476736/\af7 t.rows
def bp1(d:DB):Prop:=d.length<=68719476736/\∀j,j<d.length->Tbl.ok (d.getD j default)
def Chg.ok(x:Chg):Prop:=x.table.ok/\x.row.ok/\x.value.ok
def bik(l:List Chg):Prop:=∀j,j<l.length->(l.getD j default).ok
def ltr(c:Int):Bool:=(decide (97<=c)&&decide (c<=122))||(decide (65<=c)&&decide (c<=90))||decide (c=95)
def dig(c:Int):Bool:=decide (48<=c)&&decide (c<=57)
abbrev aw2:ByteArray:=⟨#[110,117,108,108]⟩
def aq6(s:ByteArray):Bool:=(List.range s.size).all fun i=>ltr (cw s i)||dig (cw s i)
def mt(s:ByteArray):Bool:=decide (s.size≠0)&&decide (s.size<=24)&&ltr (cw s 0)&&decide (s≠aw2)&&aq6 s
def agd(l:List ByteArray)(s:ByteArray):Int:=idx (fun x=>decide (x=s)) l
def a4k(l:List ByteArray)(i:Nat):Bool:=mt (l.getD i default)&&decide (agd (l.take i) (l.getD i default)<0)
def aed(l:List ByteArray):Bool:=(List.range l.length).all (a4k l)
def i6 (n:Nat) (before:Int):List Row->Int
 | []=>0
 |r::rs=>if r.id<=before then 1 else if r.vals.length≠n then 6 else if(r.vals.all dy)=false then 1 else i6 n r.id rs
def ey (t:Tbl):Int :=
 if mt t.name=false then 1 else if 16<t.attrs.length\/1000<t.rows.length then 3 else if aed t.attrs=false then 1 else i6 t.attrs.length 0 t.rows
section
variable {i:Nat}
def apt {n:Nat} {l:List Row} {b:Int} (hi:i<l.length):i6 n b (l.drop i)=if(l.getD i default).id<=b then 1 else if(l.getD i default).vals.length≠n then 6 else if((l.getD i default).vals.all dy)=false then 1 else i6 n (l.getD i default).id (l.drop (i+1)):=by
 rw[bwa hi,i6];simp only[List.getD,bt0 hi,buq]
def br8(l:List Row)(id:Int):Option Nat:=l.findIdx? fun r=>decide (r.id=id)
def j2(l:List Row)(id:Int):Int:=idx (fun r=>decide (r.id=id)) l
def nc(d:DB)(s:ByteArray):Int:=idx (fun t=>decide (t.name=s)) d
def afn(d:DB)(t:Tbl):Int:=if ey t≠0 then ey t else if 0<=nc d t.name then 5 else if 50<=d.length then 3 else 0
def a2v {p:Nat->Bool} {n:Nat} (hi:i<n) (h:p i=false):(List.range n).all p=false:=by
 rw[bwl];exact⟨i,btg.2 hi,by simp[h]⟩
def abg {p:Nat->Bool} {n:Nat} (h:∀j,j<n->p j=true):(List.range n).all p=true:=by
 rw[btl];exact fun j hj=>h j (btg.1 hj)
variable {s:ByteArray}
def aiu(h:s.size=0):mt s=false:=by simp[mt,h]
def ac6 (h:24<s.size):mt s=false:=by
 have:¬s.size<=24:=by omega
 simp[mt,this]
def b6q(h:ltr (cw s 0)=false):mt s=false:=by simp[mt,h]
def a7h (hi:(i:Int)=0) (h:ltr (cw s i)=false):mt s=false:=by
 obtain rfl:i=0:=by omega
 exact b6q h
def bk8 (hz:0<i->ltr (cw s 0)=true) (h:i=0->ltr (cw s i)=true):ltr (cw s 0)=true:=by
 by_cases e:i=0
 · subst e;exact h rfl
 exact hz bx5
def a6p(h:s=aw2):mt s=false:=by simp[mt,h]
def a83 (hi:i<s.size) (h1:ltr (cw s i)=false) (h2:dig (cw s i)=false):mt s=false:=by
 have:aq6 s=false:=a2v hi (by simp[h1,h2]);simp[mt,this]
def bh2 (h0:s.size≠0) (h1:s.size<=24) (h2:ltr (cw s 0)=true) (h3:s≠aw2) (h4:∀j,j<s.size->(ltr (cw s j)||dig (cw s j))=true):mt s=true:=by
 have:aq6 s=true:=abg h4;simp[mt,this,h0,h1,h2,h3]
def a17:s.size=0<->s=emp:=by
 constructor
 · intro h
   refine ByteArray.ext (Array.ext' ?_);have:s.data.toList.length=0:=by rw[bu8];exact h
   exact bui this
 rintro rfl;rfl
def ass {α:Type} {p:α->Bool} {l:List α}:decide (0<=idx p l)=l.any p:=by
 unfold idx
 cases h:l.findIdx? p with
 | none =>
  rw[bwn]at h;have:l.any p=false:=by rw[buu];intro x hx;simp[h x hx]
  simp[this]
 | some i =>
  rw[bvf]at h;obtain⟨hi,hp,_⟩:=h;have:l.any p=true:=by rw[bue];exact⟨_,bti hi,hp⟩
  simp[this]
def ay5 {α:Type} {p:α->Bool} {l:List α}:idx p l<l.length:=by
 unfold idx
 cases h:l.findIdx? p with
 |none=>simp;omega
 | some i =>
  rw[bvf]at h;simp[h.1]
def ard {l:List Val}:(!l.any fun v=>!dy v)=l.all dy:=by
 induction l with
 |nil=>rfl
 |cons x l ih=>simp only[List.any_cons,List.all_cons,Bool.not_or,Bool.not_not,ih]
def ofI (k:Int):Val :=
 if k=0 then⟨1,0,emp⟩else if k=1 then⟨1,1,emp⟩else if k=2 then⟨1,2,emp⟩else if k=3 then⟨0,0,emp⟩else if k=4 then⟨2,0,⟨#[97]⟩⟩else if k=5 then⟨2,0,⟨#[98]⟩⟩
 else if k=6 then⟨2,0,emp⟩else if k=7 then⟨3,1,emp⟩else if k=8 then⟨1, -1,emp⟩else if k=9 then⟨2,0,⟨#[97,98]⟩⟩else if k=10 then⟨3,2,emp⟩ else⟨1,7,emp⟩
def ofV(c:UInt8):Val:=ofI ((c.toNat:Int)%12)
def ail(x:Opn):ByteArray:=[⟨#[114]⟩,⟨#[115]⟩,⟨#[116]⟩,emp].getD (x.name.toNat%4) default
def b92(x:Opn):Row:=⟨x.id,x.vals.map ofV⟩
def ad4:List ByteArray:=[⟨#[97]⟩,⟨#[98]⟩,⟨#[99]⟩,⟨#[100]⟩,⟨#[101]⟩,⟨#[102]⟩,⟨#[103]⟩,⟨#[104]⟩]
def b2p(l:List UInt8)(n:Nat):List Val:=(List.range n).map fun k=>ofV (l.getD k default)
def b5d(x:a7z)(n:Nat):List Row:=(List.range x.rows.length).map fun(i:Nat)=>⟨1+(i:Int)*(1+(x.gap.toNat:Int)%3),b2p (x.rows.getD i default) n⟩
def bpz(x:a7z)(n:Nat):Tbl:=⟨⟨#[114]⟩,ad4.take n,b5d x n⟩
def b88(x:Opn):Tbl:={ bpz x.t (x.t.attrs.toNat%4)with name:=ail x }
end
end
section
abbrev T0:Tbl:=⟨emp,[],[]⟩
def yo (r:Row):List Row->List Row
 | []=>[r]
 |x::xs=>if r.id<x.id then r::x::xs else x::yo r xs
def a0m (t:Tbl) (r:Row):Int :=
 if ey t≠0 then ey t else if r.vals.length≠t.attrs.length then 6 else if r.id<=0\/r.vals.all dy=false then 1
 else if 0<=j2 t.rows r.id then 5 else if 1000<=t.rows.length then 3 else 0
def avl(t:Tbl)(r:Row):Tbl:=if a0m t r=0 then { t with rows:=yo r t.rows }else T0
def a3k(t:Tbl)(id:Int):Int:=if ey t≠0 then ey t else if 0<=j2 t.rows id then 0 else 4
def av1(t:Tbl)(id:Int):Tbl:=if a3k t id=0 then { t with rows:=t.rows.eraseIdx (j2 t.rows id).toNat }else T0
def a5d (t:Tbl) (id attr:Int) (v:Val):Int :=
 if ey t≠0 then ey t else if ¬0<=j2 t.rows id then 4 else if attr<0\/(t.attrs.length:Int)<=attr then 6 else if dy v=false then 1 else 0
def a8w(l:List Row)(i k:Nat)(v:Val):List Row:=l.set i { l.getD i default with vals:=(l.getD i default).vals.set k v }
def av5(t:Tbl)(id attr:Int)(v:Val):Tbl:=if a5d t id attr v=0 then { t with rows:=a8w t.rows (j2 t.rows id).toNat attr.toNat v }else T0
def afq (t:Tbl) (c:Chg):Int :=
 if c.kind=2 then a0m t c.row
 else if ¬0<=j2 t.rows c.row.id then 4
 else if ¬(t.rows.getD (max (j2 t.rows c.row.id) 0).toNat default).vals=c.row.vals then 16
 else if c.kind=3 then a3k t c.row.id
 else a5d t c.row.id c.attr c.value
def ad3(t:Tbl)(c:Chg):Tbl:=if c.kind=2 then avl t c.row else if c.kind=3 then av1 t c.row.id else av5 t c.row.id c.attr c.value
def xv(d:DB)(s:ByteArray):Tbl:=d.getD (nc d s).toNat default
def md (d:DB) (c:Chg):Int :=
 if c.kind=1 then(if c.name≠c.table.name then 1 else afn d c.table)
 else if c.kind<1\/4<c.kind then 1
 else if nc d c.name<0 then 4
 else afq (xv d c.name) c
def a4l (d:DB) (c:Chg):DB :=
 if md d c≠0 then d
 else if c.kind=1 then d++[c.table]
 else d.set (nc d c.name).toNat (ad3 (xv d c.name) c)
section
variable {c:Chg}{d:DB}
def aE2(h:c.kind=1)(h2:c.name=c.table.name):md d c=afn d c.table:=by rw[md,if_pos h,if_neg (by simp[h2])]
def aE5(h:2<=c.kind/\c.kind<=4)(h2:¬nc d c.name<0):md d c=afq (xv d c.name) c:=by rw[md,if_neg bx5,if_neg bx5,if_neg h2]
def bj1{e:Int}(h:md d c=e)(he:e≠0):a4l d c=d:=by rw[a4l,if_pos (by rw[h];exact he)]
def aD1(h:md d c=0)(h1:c.kind=1):a4l d c=d++[c.table]:=by rw[a4l,if_neg (by simp[h]),if_pos h1]
def aD2{u:Tbl}(h:md d c=0)(h1:¬c.kind=1)(hu:ad3 (xv d c.name) c=u):a4l d c=d.set (nc d c.name).toNat u:=by rw[a4l,if_neg (by simp[h]),if_neg h1,hu]
def dbV(d:DB):Prop:=d.length<=50/\∀j,j<d.length->ey (d.getD j default)=0
def bm4 (d:DB):List Chg->Int
 | []=>0
 |c::cs=>if md d c≠0 then md d c else bm4 (a4l d c) cs
def ald (d:DB):List Chg->DB
 | []=>d
 |c::cs=>if md d c≠0 then[]else ald (a4l d c) cs
def bov(s:Stt)(l:List Chg):Stt:=if l.length=0 then s else⟨s.done++[l],[],false,[]⟩
def brm(s:Stt)(c:Chg):Stt:=if s.opn=true then { s with now:=s.now++[c] }else bov s [c]
def bo3(x:Opn):Bool:=decide (x.vals.length<=20)&&decide (x.t.rows.length<=6)&&x.t.rows.all fun r=>decide (r.length<=20)
def few(l:List Opn)(most:Int):Bool:=l.all bo3&&decide ((l.length:Int)<=most)
end
end
section
section
variable {l:List Row}
def a8h {n:Nat} {b:Int} {x:Row} (h:i6 n b (x::l)=0):b<x.id/\x.vals.length=n/\x.vals.all dy=true/\i6 n x.id l=0:=by
 simp only[i6]at h;split at h
 · omega
 split at h
 · omega
 split at h
 · omega
 rename_i h1 h2 h3;exact⟨by omega,by omega,by simpa using h3,h⟩
def k6 {n:Nat}:∀{l:List Row} {b:Int},i6 n b l=0->∀x∈l,b<x.id/\x.vals.length=n/\x.vals.all dy=true
 | [],_,_,x,hx=>by cases hx
 | y::l,b,h,x,hx=>by
  obtain⟨h1,h2,h3,h4⟩:=a8h h
  rcases btd.1 hx with rfl|hx
  · exact⟨h1,h2,h3⟩
  obtain⟨g1,g2⟩:=k6 h4 x hx;exact⟨by omega,g2⟩
abbrev yi(l:List Row):Prop:=l.Pairwise fun a b=>a.id<b.id
def sh {n:Nat}:∀{l:List Row} {b:Int},i6 n b l=0->yi l
 | [],_,_=>List.Pairwise.nil
 | y::l,b,h=>by
  obtain⟨h1,h2,h3,h4⟩:=a8h h;exact List.Pairwise.cons (fun x hx=>(k6 h4 x hx).1) (sh h4)
def zi {n:Nat}:∀{l:List Row} {b:Int},(∀x∈l,b<x.id/\x.vals.length=n/\x.vals.all dy=true)->yi l->i6 n b l=0
 | [],_,_,_=>rfl
 | y::l,b,h,hs=>by
  obtain⟨h1,h2,h3⟩:=h y bx8;unfold yi at hs;rw[btz]at hs;simp only[i6];rw[if_neg bx5,if_neg bx5,if_neg (by simp[h3])];exact zi (fun x hx=>⟨hs.1 x hx,(h x (by simp[hx])).2⟩) hs.2
structure TOk (t:Tbl):Prop where
 nm:mt t.name=true
 na:t.attrs.length<=16
 nr:t.rows.length<=1000
 nms:aed t.attrs=true
 rs:i6 t.attrs.length 0 t.rows=0
variable {t:Tbl}
def s5:ey t=0<->TOk t:=by
 constructor
 · intro h
   unfold ey at h;split at h
   · omega
   split at h
   · omega
   split at h
   · omega
   rename_i h1 h2 h3;exact⟨by simpa using h1,by omega,by omega,by simpa using h3,h⟩
 rintro⟨h1,h2,h3,h4,h5⟩;unfold ey;rw[if_neg (by simp[h1]),if_neg bx5,if_neg (by simp[h4]),h5]
def a5b {v:Val} (h:dy v=true):v.str.size<=200:=by
 unfold dy at h;have e0:emp.size=0:=rfl;split at h
 · simp only[bt3,decide_eq_true_eq]at h;rw[h.2];omega
 split at h
 · simp only[decide_eq_true_eq]at h;rw[h];omega
 split at h
 · simp only[bt3,decide_eq_true_eq]at h;omega
 simp only[bt3,decide_eq_true_eq]at h;rw[h.2];omega
def bbt {l:List Val} (h:l.all dy=true):aza l:=by
 intro j hj;rw[dn l j hj];have:=a5b (btl.1 h _ (bti hj));unfold Val.ok;omega
theorem TOk.ok (h:TOk t):t.ok:=by
 refine⟨by have:=h.na;omega,by have:=h.nr;omega,fun j hj=>?_⟩;rw[dn _ j hj];obtain⟨_,h2,h3⟩:=k6 h.rs _ (bti hj);exact⟨by have:=h.na;omega,bbt h3⟩
def af7.sub {l':List Row} (h:af7 l) (hs:∀x∈l',x∈l):af7 l':=by
 intro j hj;rw[dn _ j hj];obtain⟨k,hk,e⟩:=btt (hs _ (bti hj));rw[<- e,<- dn _ k hk];exact h k hk
def az0(h:ey t=0):t.ok:=(s5.1 h).ok
def brc(l:List Row)(k:Nat)(r:Row):List Row:=l.take k++r::l.drop k
def apz {r:Row}:∀{l:List Row},(yo r l).length=l.length+1
 | []=>rfl
 | x::l=>by
  simp only[yo];split
  · simp
  simp[apz (l:=l)]
def bfc{r:Row}(h:a0m t r=0):avl t r=⟨t.name,t.attrs,yo r t.rows⟩:=by rw[avl,if_pos h]
def b9n{i:Int}(h:a3k t i=0):av1 t i=⟨t.name,t.attrs,t.rows.eraseIdx (j2 t.rows i).toNat⟩:=by rw[av1,if_pos h]
def bb3{i a:Int}{v:Val}(h:a5d t i a v=0):av5 t i a v=⟨t.name,t.attrs,a8w t.rows (j2 t.rows i).toNat a.toNat v⟩:=by rw[av5,if_pos h]
def b4q {r:Row} (h:a0m t r=0):ey t=0/\r.vals.length=t.attrs.length/\0<r.id/\r.vals.all dy=true/\j2 t.rows r.id<0/\t.rows.length<1000:=by
 unfold a0m at h;split at h
 · omega
 split at h
 · omega
 split at h
 · omega
 split at h
 · omega
 split at h
 · omega
 rename_i h1 h2 h3 h4 h5;rw[not_or]at h3;exact⟨by omega,by omega,by omega,by simpa using h3.2,by omega,by omega⟩
def b3p{i k:Nat}{v:Val}:(a8w l i k v).length=l.length:=by simp[a8w]
def bgn {id:Int} (h:0<=j2 l id):(max (j2 l id) 0).toNat<l.length:=by
 have:=ay5 (p:=fun r:Row=>decide (r.id=id)) (l:=l);unfold j2 at *;omega
theorem TOk.width (h:TOk t) {i:Nat} (hi:i<t.rows.length):(t.rows.getD i default).vals.length=t.attrs.length:=by
 rw[dn _ _ hi];exact(k6 h.rs _ (bti hi)).2.1
def bjk {d:DB} {s:ByteArray} (h:¬nc d s<0):(nc d s).toNat<d.length:=by
 have:=ay5 (p:=fun t:Tbl=>decide (t.name=s)) (l:=d);unfold nc at *;omega
def dbV.at{d:DB}(h:dbV d){s:ByteArray}(hs:¬nc d s<0):TOk (xv d s):=s5.1 (h.2 _ (bjk hs))
def bcs {d:DB} (h:afn d t=0):ey t=0/\nc d t.name<0/\d.length<50:=by
 unfold afn at h;split at h
 · omega
 split at h
 · omega
 split at h
 · omega
 exact⟨by omega,by omega,by omega⟩
end
end
section
section
variable {i:Nat}
def b7p {α:Type} [Inhabited α] {p:α->Bool} {l:List α} (hi:i<l.length) (h:p (l.getD i default)=true):(l.take (i+1)).filter p=(l.take i).filter p++[l.getD i default]:=by
 rw[aj hi,bu6,buf,if_pos h];rfl
def b8u {α:Type} [Inhabited α] {p:α->Bool} {l:List α} (hi:i<l.length) (h:p (l.getD i default)=false):(l.take (i+1)).filter p=(l.take i).filter p:=by
 rw[aj hi,bu6,buf,if_neg (by rw[h];simp),bv3,btq]
def acl(s:AS)(f:Fd):Bool:=decide (sub f.lhs s)&&!decide (sub f.rhs s)
def auz(l:List Fd)(s:AS):Int:=idx (acl s) l
def alf(l:List Fd)(s:AS):Bool:=decide (auz l s<0)
def xp(l:List Fd)(n:Int)(i:Nat):List AS:=((b6 (a6 n)).take i).filter (alf l)
def fp(l:List Fd)(n:Int):List AS:=(b6 (a6 n)).filter (alf l)
variable {l:List Fd}{n:Int}
def aah(hi:i<(b6 (a6 n)).length)(h:auz l ((b6 (a6 n)).getD i default)<0):xp l n (i+1)=xp l n i++[(b6 (a6 n)).getD i default]:=b7p hi (by unfold alf;exact decide_eq_true h)
def a9q(hi:i<(b6 (a6 n)).length)(h:¬auz l ((b6 (a6 n)).getD i default)<0):xp l n (i+1)=xp l n i:=b8u hi (by unfold alf;exact decide_eq_false h)
def b1q:xp l n (b6 (a6 n)).length=fp l n:=by unfold xp fp;rw[btb]
def b1h:(xp l n i).length<=i:=bth (buo _ _) (List.length_take_le _ _)
def ang(s:AS)(a c:AS):AS:=if c≠s/\sub s c then a&&&c else a
def xc(n:Int)(cl:List AS)(s:AS)(k:Nat):AS:=(cl.take k).foldl (ang s) (a6 n)
variable {cl:List AS}{k:Nat}
def a8s {s:AS} (hk:k<cl.length):xc n cl s (k+1)=ang s (xc n cl s k) (cl.getD k default):=by
 unfold xc;rw[aj hk,btr];rfl
def a2z(n:Int)(cl:List AS)(s:AS):Bool:=decide (s≠a6 n)&&decide (xc n cl s cl.length≠s)
def a2f(n:Int)(cl:List AS)(i:Nat):List AS:=(cl.take i).filter (a2z n cl)
def kz(n:Int)(cl:List AS):List AS:=cl.filter (a2z n cl)
def a3t(hi:i<cl.length)(h:a2z n cl (cl.getD i default)=true):a2f n cl (i+1)=a2f n cl i++[cl.getD i default]:=b7p hi h
def a3y(hi:i<cl.length)(h:a2z n cl (cl.getD i default)=false):a2f n cl (i+1)=a2f n cl i:=b8u hi h
def b7g:a2f n cl cl.length=kz n cl:=by unfold a2f kz;rw[btb]
def b3w:(a2f n cl i).length<=i:=bth (buo _ _) (List.length_take_le _ _)
def ag9(s:AS)(k i:Nat):Val:=⟨1,if s.getLsbD i=true then 0 else(k:Int),emp⟩
def xl(s:AS)(k n:Nat):List Val:=(List.range n).map (ag9 s k)
def bgz(l:List AS)(n k:Nat):Row:=⟨(k:Int)+1,xl (l.getD k default) k n⟩
def y4(l:List AS)(n k:Nat):List Row:=(List.range k).map (bgz l n)
def aw5(i:Nat):ByteArray:=⟨#[UInt8.ofNat (97+i)]⟩
def a19(n:Nat):List ByteArray:=(List.range n).map aw5
def bke(l:List AS)(n:Nat):Tbl:=⟨⟨#[116]⟩,a19 n,y4 l n l.length⟩
def n4{s:AS}:xl s k (i+1)=xl s k i++[ag9 s k i]:=by unfold xl;rw[bu3,bux];rfl
def aee{l:List AS}{n:Nat}:y4 l n (k+1)=y4 l n k++[bgz l n k]:=by unfold y4;rw[bu3,bux];rfl
def ak5:a19 (i+1)=a19 i++[aw5 i]:=by unfold a19;rw[bu3,bux];rfl
def axe{s:AS}{n:Nat}:(xl s k n).length=n:=by simp[xl]
def azo{l:List AS}{n:Nat}:(y4 l n k).length=k:=by simp[y4]
def b40{n:Nat}:(a19 n).length=n:=by simp[a19]
end
end
section
open Go.Proofs
def at7 {n:Int} {l:List Fd} (hv:aw n l=0):a7 bxr 69 [pI n,pP (fdl l)] (ae [pI 0]):=by
 have h:=tg n l;rw[hv]at h;exact h
def bpk(l:List Fd)(s:AS):a7 bxr 182 [pP (fdl l),pA s] (ae [pI (auz l s)]):=by
 refine hpx (nt:=28) Tryz.func182 ?_;refine w_6 ?_;refine e9 0 rfl fun hn=>?_;refine w_6 ?_;refine am (ι:=Nat) (ka 1 (ka 7 (ka 8 kn))) km (fun i=>⟨[(9,some (vI i))],[]⟩) (fun i=>i<=l.length/\(∀j,j<i->acl s (l.getD j default)=false)) (fun i=>l.length-i) (0) (⟨bt6 _,d5⟩) kk ?_;rintro i ⟨hi,hIi⟩;refine w_5 ?_;refine hcd ?_ ?_<;>intro h0
 ·
  refine w_8 ?_;refine m9 0 ?_;refine gv ?_;refine al rfl rfl ?_ ?_<;>intro r1
  ·
   have h1:=tz1 r1;(iterate 5 refine qy ?_ (hg:=(gtt r1)));refine w_2 ?_;refine ax _ rfl ?_ ?_<;>intro r2
   · have h2:=tz2 (cj (br r1 r2));refine v_5 ?_;exact⟨cci (vd (p:=acl s) (i:=i) bx5 hIi (by unfold acl;simp_all [ep])).symm,trivial⟩
   have h2:=tz1 (cn (br r1 r2));refine w_5 ?_;refine lpz (i+1) kk ?_;exact⟨by show i+1<=_;omega,c6 hIi (by unfold acl;simp_all [ep])⟩
  have h1:=tz2 r1;(iterate 5 refine k9 (gft r1) ?_);refine w_8 ?_;refine lpz (i+1) kk ?_
  exact⟨by show i+1<=_;omega,c6 hIi (by unfold acl;simp_all [ep])⟩
 refine v_5 ?_;exact⟨cci (vq (p:=acl s) fun j hj=>hIi j bx5).symm,trivial⟩
def bd8(n:Nat)(l:List Fd)(hn:n<=12)(hv:aw n l=0):a7 bxr 133 [pI (n:Int),pP (fdl l)] (ae [pP (asl (fp l n)),pI 0]):=by
 refine hpx (nt:=45) Tryz.func133 ?_;have hsl:=rj (a6 (n:Int));have h0z:(0:Int)<=(n:Int):=by omega
 have h1z:(n:Int)<=16:=by omega
 refine gh ?_;refine al rfl rfl ?_ ?_<;>intro r0
 ·
  have h0:=tz1 r0;(iterate 2 refine k9 (gtf r0) ?_);refine w_9 ?_;refine hrr ?_
  omega
 have h0:=tz2 r0;(iterate 2 refine qy ?_ (hg:=(gff r0)));refine w_3 ?_;refine ax _ rfl ?_ ?_<;>intro r1
 · have h1:=tz1 (bn r0 r1);exfalso;simp_all;omega
 have h1:=tz2 (bn r0 r1);refine w_6 ?_;refine hcd ?_ ?_<;>intro h2
 · exfalso;omega
 refine w_6 ?_;refine qcx qj (at7 hv) ?_;refine abw ?_;refine rq rfl rfl rfl rfl rfl ?_ (hp:=⟨om h0z h1z,nf h0z h1z⟩);refine rc rfl rfl rfl rfl rfl rfl a6n (al7 (a6 (n:Int))) (⟨cci (og h0z h1z),trivial⟩) rfl rfl ?_;refine w_4 ?_;refine d8 7 900 true 1 50 (lf sC []) bxc rfl (CoP.sl rfl (.inr rfl) (fun h=>h) (fun i j hi _=>absurd hi (bt9 i))) (.inr rfl) rfl ?_;refine bw (ka 1 (ka 29 (ka 30 kn))) km (fun i=>⟨[(7,some (.v (.one (.ref 900 (xp l (n:Int) i).length)))),(31,some (vI i))],[(900,some (.arr true 1 50 (xp l (n:Int) i).length (lf sC (xp l (n:Int) i))))]⟩) ((b6 (a6 (n:Int))).length) kk ?_;rintro i hi;have hcl:=b1h (l:=l) (n:=(n:Int)) (i:=i);refine w_5 ?_;refine hcd ?_ ?_<;>intro h3
 ·
  refine mq ?_;refine qcx (wgx Tryz.func182) (bpk l ((b6 (a6 (n:Int))).getD i default)) ?_;refine w_2 ?_;refine hcd ?_ ?_<;>intro h4
  ·
   refine w_3 ?_;refine m9 0 ?_;refine r9 1 true ?_;refine w_6 ?_
   first | (refine lpz (i+1) ⟨⟨⟨_, rfl, (bo (aah bx5 bx6))⟩, tt⟩, ⟨⟨_, rfl, (bq (aah bx5 bx6) (CoP.refl _))⟩, trivial⟩⟩ ?_; show i+1<=_; omega)
         |(refine lpz (i+1) ⟨⟨⟨_,rfl,(be (a9q bx5 bx6))⟩,tt⟩,⟨⟨_,rfl,(az (a9q bx5 bx6))⟩,trivial⟩⟩ ?_;show i+1<=_;omega)
  refine w_5 ?_
  first | (refine lpz (i+1) ⟨⟨⟨_, rfl, (bo (aah bx5 bx6))⟩, tt⟩, ⟨⟨_, rfl, (bq (aah bx5 bx6) (CoP.refl _))⟩, trivial⟩⟩ ?_; show i+1<=_; omega)
        |(refine lpz (i+1) ⟨⟨⟨_,rfl,(be (a9q bx5 bx6))⟩,tt⟩,⟨⟨_,rfl,(az (a9q bx5 bx6))⟩,trivial⟩⟩ ?_;show i+1<=_;omega)
 obtain rfl:i=(b6 (a6 (n:Int))).length:=by omega
 refine w_2 ?_;refine bj 7 rfl rfl rfl ?_;refine v_5 ?_;exact⟨CoC.one (CoP.of_eq (by rw[b1q];rfl)),CoC.refl _,trivial⟩
end
section
section
variable {κ:Type}[DecidableEq κ][Inhabited κ]
def gi(g:List (κ×List Nat))(k:κ):Nat:=g.findIdx fun x=>decide (x.1=k)
def a2q(g:List (κ×List Nat))(k:κ)(i:Nat):List (κ×List Nat):=if gi g k<g.length then g.modify (gi g k) (fun x=>(x.1,x.2++[i]))else g++[(k,[i])]
def c8(ks:List κ)(i:Nat):List (κ×List Nat):=(List.range i).foldl (fun g j=>a2q g (ks.getD j default) j) []
def b43(c:List Nat):Bool:=!decide (c.length<2)
def ag4(ks:List κ):List (List Nat):=((c8 ks ks.length).map (·.2)).filter b43
section
variable {ks:List κ}
def n5{i:Nat}:c8 ks (i+1)=a2q (c8 ks i) (ks.getD i default) i:=by unfold c8;rw[bu3,btr];rfl
variable {g:List (κ×List Nat)}
def b3m {k:κ} {i:Nat}:g.length<=(a2q g k i).length/\(a2q g k i).length<=g.length+1:=by
 unfold a2q;split
 · simp
 simp
def acy:∀{i:Nat},(c8 ks i).length<=i
 |0=>bt2 _
 | i+1=>by
  have:(c8 ks i).length<=i:=acy;have:=(b3m (g:=c8 ks i) (k:=ks.getD i default) (i:=i)).2;rw[n5];omega
def b63{k:κ}{i m:Nat}(h:∀x∈g,x.2.length<=m):∀x∈a2q g k i,x.2.length<=m+1:=by
 unfold a2q;split
 · intro x hx
   obtain⟨j,hj,e⟩:=btt hx;have hj2:j<g.length:=by simpa using hj
   rw[List.getElem_modify]at e;have hm:=h (g[j]'hj2) (bti hj2);split at e
   · subst e;simp;exact hm
   subst e;omega
 intro x hx
 rcases btn.1 hx with hx|hx
 · have:=h x hx;omega
 simp at hx;subst hx;simp
def aqv:∀{i:Nat},∀x∈c8 ks i,x.2.length<=i
 |0=>fun x hx=>by simp[c8]at hx
 |i+1=>by rw[n5];exact b63 aqv
end
end
structure Prt where
 rows:Int
 cls:List (List Nat)
instance:Inhabited Prt:=⟨⟨0,[]⟩⟩
theorem Prt.eq_iff{a b:Prt}:a=b<->a.rows=b.rows/\a.cls=b.cls:=by cases a;cases b;simp
instance:DecidableEq Prt:=fun a b=>decidable_of_iff _ (Prt.eq_iff (a:=a) (b:=b)).symm
def ilC (l:List Nat):Nat->PV
 |0=>il l
 |_=>.any
abbrev ill(l:List (List Nat)):PV:=psl 1 ilC l
def Prt.c (p:Prt):Nat->PV
 |0=>.raw (.int .i64 p.rows)
 |1=>ill p.cls
 |_=>.any
abbrev Prt.pc(p:Prt):PC:=.agg [p.c 0,p.c 1]
def snT(p:Prt)(k j:Nat):List Bool:=(List.range p.rows.toNat).map fun i=>decide (i∈(p.cls.take k).flatten++(p.cls.getD k default).take j)
def anb(c:List Nat)(j:Nat):Int:=if j=0 then -1 else((c.getD (j-1) default:Nat):Int)
def ai6(p:Prt)(k:Nat):Int:=if k=0 then -1 else(((p.cls.getD (k-1) default).getD 0 default:Nat):Int)
def bkd(p:Prt)(k j:Nat):Bool:=decide (anb (p.cls.getD k default) j<(((p.cls.getD k default).getD j default:Nat):Int))&&decide ((((p.cls.getD k default).getD j default:Nat):Int)<p.rows)&&!decide ((p.cls.getD k default).getD j default∈(p.cls.take k).flatten++(p.cls.getD k default).take j)
def agj(p:Prt)(k:Nat):Bool:=!decide ((p.cls.getD k default).length<2)&&decide (ai6 p k<(((p.cls.getD k default).getD 0 default:Nat):Int))&&(List.range (p.cls.getD k default).length).all (bkd p k)
def lm(p:Prt):Bool:=decide (0<=p.rows)&&decide (p.rows<=1000)&&(List.range p.cls.length).all (agj p)
def a7p(n:Nat)(l:List Int)(c:List Nat):List Int:=c.foldl (fun l i=>l.set i (n:Int)) l
def a87(m:Nat):List Int:=(List.range m).map fun(i:Nat)=>-1-(i:Int)
def ug(p:Prt)(k:Nat):List Int:=(List.range k).foldl (fun l n=>a7p n l (p.cls.getD n default)) (a87 p.rows.toNat)
def yt(p:Prt):List Int:=ug p p.cls.length
section
variable {k:Nat}{p:Prt}
def a8g:ug p (k+1)=a7p k (ug p k) (p.cls.getD k default):=by unfold ug;rw[bu3,btr];rfl
def abo {n:Nat}:∀{c:List Nat} {l:List Int},(a7p n l c).length=l.length
 | [],_=>rfl
 | i::c,l=>by
  show(a7p n (l.set i (n:Int)) c).length=_;rw[abo,buv]
def qs:∀{k:Nat},(ug p k).length=p.rows.toNat
 |0=>by simp[ug,a87]
 |k+1=>by rw[a8g,abo,qs]
def a5j(p:Prt)(k j:Nat):List Int:=a7p k (ug p k) ((p.cls.getD k default).take j)
def ax5:a5j p k 0=ug p k:=rfl
def ax4 {j:Nat} (h:j<(p.cls.getD k default).length):a5j p k (j+1)=(a5j p k j).set ((p.cls.getD k default).getD j default) (k:Int):=by
 unfold a5j a7p;rw[aj h,btr];rfl
def b3f:a5j p k (p.cls.getD k default).length=ug p (k+1):=by unfold a5j;rw[btb,a8g]
def aqt{j:Nat}:(a5j p k j).length=p.rows.toNat:=by unfold a5j;rw[abo,qs]
def b2s(a b:Prt):List (Int×Int):=(List.range a.rows.toNat).map fun i=>((yt a).getD i default,(yt b).getD i default)
def b33(a b:Prt):Prt:=⟨a.rows,ag4 (b2s a b)⟩
def a0i(p:Prt)(k:Nat):Int:=(p.cls.take k).foldl (fun n c=>n-((c.length:Int)-1)) p.rows
def awa(p:Prt):Int:=a0i p p.cls.length
def aji (h:k<p.cls.length):a0i p (k+1)=a0i p k-(((p.cls.getD k default).length:Int)-1):=by
 unfold a0i;rw[aj h,btr];rfl
end
end
section
open Go.RowKit
structure ExF (kk:KK) (n:Nat) (f:MK->Option PV) (es:Array MapEntry) (clock:Nat):Prop where
 st:Go.MapKept.Stamped es clock
 le:es.size<=n
 mx:es.size<=maxLen
 to:∀x∈es.toList,∃key v,x.key=key.val/\f key=some (.raw v)/\x.val=v/\v.oneCell'=true
 of:∀key y,f key=some y->MK.ok kk key/\∃x∈es.toList,x.key=key.val
structure Vis (es:Array MapEntry) (seen:Array Nat) (vs:List MK):Prop where
 nod:vs.Nodup
 inn:∀k∈vs,∃x∈es.toList,x.key=k.val/\seen.contains x.born=true
 all:∀x∈es.toList,seen.contains x.born=true->∃k∈vs,x.key=k.val
section
variable {kk:KK}{n:Nat}{f:MK->Option PV}{es:Array MapEntry}{clock:Nat}{seen:Array Nat}{vs:List MK}{e:MapEntry}{key:MK}
end
section
variable {nt:Nat}{st:HSt}
end
abbrev itO(bi b clock:Nat)(seen:Array Nat):aa:=.ex 2 (.pointer (some ⟨bi,0,none⟩)) bi (.mapIter (some b) clock seen clock)
abbrev mpO(b:Nat)(es:Array MapEntry)(clock:Nat):aa:=.ex 0 (.map (some b)) b (.map es clock)
section
variable {P:Program}{nt:Nat}{ops:Array Oper}{st:HSt}
def bdj (st:HSt) (d:Nat) (x:HR):HSt.den ⟨(d,some x)::st.t,st.o⟩=st.den.putD (some d) (some x):=by
 unfold HSt.den S.putD S.put;simp[ay]
def adm {k d:Nat} {o:Oper} {L:List Nat} {Q:HSt->Prop} (hi:ops[k]? = some o) (hg:o.guard=none) (hd:o.dst=some d) (hdn:cz nt (some d)=true) (hnd:∀c,o.op≠.defer c)
 (h:∀w0 a w c,ah w0 nt c st.den a w->∃v w' o' x c',c'.old=c.old/\(execOp a.eval o).run P w=.ok (.value v) w'/\ah w0 nt c' (HSt.den ⟨st.t,o'⟩) a w'/\aq c' (HSt.den ⟨st.t,o'⟩).o x v/\RN P nt ops L ⟨(d,some x)::st.t,o'⟩ Q):RN P nt ops (k::L) st Q:=fun ro n w0 m0 a w QQ ⟨c,hold,hr⟩ hQ=>by
 obtain⟨v,w',o',x,c',h1,h2,h3,h4,h5⟩:=h w0 a w c hr;rw[wpOpsIn_cons];unfold wpOpIn;simp only[hi];have hw:Region.wanted o (yielded ops a.tmps)=true:=by unfold Region.wanted;rw[hg]
 rw[if_pos hw];refine xr hnd ?_;unfold Oper.wp;rw[h2];refine h5 ro n w0 m0 _ w' QQ ⟨c',h1.trans hold, ?_⟩ hQ;rw[hd,bdj ⟨st.t,o'⟩ d x];exact h3.putD (some d) (fun k hk=>by cases hk;exact of_decide_eq_true hdn) (some x) v fun y hy=>by cases hy;exact h4
variable {k:Nat}{o:Oper}{L:List Nat}{Q:HSt->Prop}{x:Operand}{mid j b clock d bi id n:Nat}{es:Array MapEntry}{seen:Array Nat}{kk:KK}{f:MK->Option PV}
def amb {w0:World} {c:Ctx} {s:S} {a:Act} {w:World} (h:ah w0 nt c s a w) {v:Value} {y:Obj} {dd:Nat} (hx:ev s x=some (.v (.one (.ref mid j)))) (hm:s.o mid=some (.ex dd v b y)):a.eval x=v/\w.heap[b]? = some y:=by
 obtain⟨h1,h2,h3,h4,h5⟩:=h.objs mid _ hm;have hu:bh c s.o (.ref mid j) (a.eval x):=af h hx;obtain⟨_,_,hu⟩:=hu;have h6:=hu _ _ _ _ hm rfl;exact⟨(h6.2 bx5).trans h1,h4⟩
end
end
section
open Go.RowKit
def brf(f:MK->Option PV)(m:MK):MK->Option PV:=fun k=>bif k.same m then none else f k
section
variable {P:Program}{E:Env}{nt:Nat}{ops:Array Oper}{st:HSt}
def bg6{k:Nat}{o:Oper}{L:List Nat}{Q:HSt->Prop}(hi:ops[k]? = some o)(hg:o.guard=none)(hdn:cz nt o.dst=true)(hnd:∀c,o.op≠.defer c)
 (h:∀w0 a w c,ah w0 nt c st.den a w->∃y w' o' c',c'.old=c.old/\(execOp a.eval o).run P w=.ok y w'/\(y=.skip\/∃v,y=.value v)/\ah w0 nt c' (HSt.den ⟨st.t,o'⟩) a w'/\RN P nt ops L ⟨(match o.dst with|some d=>[(d,none)]|none=>[])++st.t,o'⟩ Q):RN P nt ops (k::L) st Q:=fun ro n w0 m0 a w QQ ⟨c,hold,hr⟩ hQ=>by
 obtain⟨y,w',o',c',h1,h2,hy,h3,h5⟩:=h w0 a w c hr;rw[wpOpsIn_cons];unfold wpOpIn;simp only[hi];have hw:Region.wanted o (yielded ops a.tmps)=true:=by unfold Region.wanted;rw[hg]
 rw[if_pos hw];refine xr hnd ?_;unfold Oper.wp;rw[h2]
 rcases hy with rfl|⟨v,rfl⟩
 · refine h5 ro n w0 m0 _ w' QQ ⟨c',h1.trans hold, ?_⟩ hQ
   cases hdd:o.dst with
   |none=>exact h3
   | some d =>
    have e:HSt.den ⟨[(d,none)]++st.t,o'⟩=(HSt.den ⟨st.t,o'⟩).putD (some d) none:=by
     unfold HSt.den S.putD S.put;simp[ay]
    rw[e];exact h3.putD (some d) (fun k hk=>by cases hk;rw[hdd]at hdn;exact of_decide_eq_true hdn) none undef (fun y hy=>by cases hy)
 refine h5 ro n w0 m0 _ w' QQ ⟨c',h1.trans hold, ?_⟩ hQ
 cases hdd:o.dst with
 |none=>exact h3
 | some d =>
  have e:HSt.den ⟨[(d,none)]++st.t,o'⟩=(HSt.den ⟨st.t,o'⟩).putD (some d) none:=by
   unfold HSt.den S.putD S.put;simp[ay]
  rw[e];exact h3.putD (some d) (fun k hk=>by cases hk;rw[hdd]at hdn;exact of_decide_eq_true hdn) none v (fun y hy=>by cases hy)
end
section
variable {P:Program}{E:Env}{nt:Nat}{ops:Array Oper}{st:HSt}{k:Nat}{o:Oper}{L:List Nat}{Q:HSt->Prop}
end
end
end Go.Hx

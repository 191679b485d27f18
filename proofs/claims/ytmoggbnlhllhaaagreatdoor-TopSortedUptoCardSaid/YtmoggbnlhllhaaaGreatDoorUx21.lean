/- A part of the proof: Sp2 Sp3 Sp4 Ka1 Ls8 Cs43 Ls9. -/
import Derived.Test.YtmoggbnlhllhaaaGreatDoorUx20
set_option linter.all false
namespace Go.Hx
section
abbrev emp:ByteArray:=⟨#[]⟩
def d8 (v:Val):Bool :=
 if v.kind=0 then decide (v.num=0)&&decide (v.str=emp)
 else if v.kind=1 then decide (v.str=emp)
 else if v.kind=2 then decide (v.num=0)&&decide (v.str.size<=200)
 else decide (v.kind=3)&&decide (1<=v.num)&&decide (v.str=emp)
def Val.ok(v:Val):Prop:=v.str.size<=68719476736
def atd(l:List Val):Prop:=∀j,j<l.length->(l.getD j default).ok
def Row.ok(r:Row):Prop:=r.vals.length<=68719476736/\atd r.vals
def acs(l:List Row):Prop:=∀j,j<l.length->(l.getD j default).ok
def Tbl.ok(t:Tbl):Prop:=t.attrs.length<=68719476736/\t.rows.length<=68719476736/\acs t.rows
def bh2(d:DB):Prop:=d.length<=68719476736/\∀j,j<d.length->Tbl.ok (d.getD j default)
def Chg.ok(x:Chg):Prop:=x.table.ok/\x.row.ok/\x.value.ok
def b71(l:List Chg):Prop:=∀j,j<l.length->(l.getD j default).ok
def ltr(c:Int):Bool:=(decide (97<=c)&&decide (c<=122))||(decide (65<=c)&&decide (c<=90))||decide (c=95)
def dig(c:Int):Bool:=decide (48<=c)&&decide (c<=57)
abbrev ar9:ByteArray:=⟨#[110,117,108,108]⟩
def ais(s:ByteArray):Bool:=(List.range s.size).all fun i=>ltr (ce s i)||dig (ce s i)
def ke(s:ByteArray):Bool:=decide (s.size≠0)&&decide (s.size<=24)&&ltr (ce s 0)&&decide (s≠ar9)&&ais s
def aea(l:List ByteArray)(s:ByteArray):Int:=idx (fun x=>decide (x=s)) l
def a3m(l:List ByteArray)(i:Nat):Bool:=ke (l.getD i default)&&decide (aea (l.take i) (l.getD i default)<0)
def a7z(l:List ByteArray):Bool:=(List.range l.length).all (a3m l)
def fm (n:Nat) (before:Int):List Row->Int
 | []=>0
 |r::rs=>if r.id<=before then 1 else if r.vals.length≠n then 6 else if(r.vals.all d8)=false then 1 else fm n r.id rs
def du (t:Tbl):Int :=
 if ke t.name=false then 1 else if 16<t.attrs.length\/1000<t.rows.length then 3 else if a7z t.attrs=false then 1 else fm t.attrs.length 0 t.rows
section
variable {i:Nat}
def alx {n:Nat} {l:List Row} {b:Int} (hi:i<l.length):fm n b (l.drop i)=if(l.getD i default).id<=b then 1 else if(l.getD i default).vals.length≠n then 6 else if((l.getD i default).vals.all d8)=false then 1 else fm n (l.getD i default).id (l.drop (i+1)):=by
 rw[boq hi,fm];simp only[List.getD,blz hi,bnu]
def bip(l:List Row)(id:Int):Option Nat:=l.findIdx? fun r=>decide (r.id=id)
def gh(l:List Row)(id:Int):Int:=idx (fun r=>decide (r.id=id)) l
def lj(d:DB)(s:ByteArray):Int:=idx (fun t=>decide (t.name=s)) d
def abk(d:DB)(t:Tbl):Int:=if du t≠0 then du t else if 0<=lj d t.name then 5 else if 50<=d.length then 3 else 0
def a0c {p:Nat->Bool} {n:Nat} (hi:i<n) (h:p i=false):(List.range n).all p=false:=by
 rw[bo1];exact⟨i,bmm.2 hi,by simp[h]⟩
def a8v {p:Nat->Bool} {n:Nat} (h:∀j,j<n->p j=true):(List.range n).all p=true:=by
 rw[bms];exact fun j hj=>h j (bmm.1 hj)
variable {s:ByteArray}
def adi(h:s.size=0):ke s=false:=by simp[ke,h]
def aa3 (h:24<s.size):ke s=false:=by
 have:¬s.size<=24:=by omega
 simp[ke,this]
def b08(h:ltr (ce s 0)=false):ke s=false:=by simp[ke,h]
def a4c (hi:(i:Int)=0) (h:ltr (ce s i)=false):ke s=false:=by
 obtain rfl:i=0:=by omega
 exact b08 h
def b80 (hz:0<i->ltr (ce s 0)=true) (h:i=0->ltr (ce s i)=true):ltr (ce s 0)=true:=by
 by_cases e:i=0
 · subst e;exact h rfl
 exact hz bpw
def a6f(h:s=ar9):ke s=false:=by simp[ke,h]
def a63 (hi:i<s.size) (h1:ltr (ce s i)=false) (h2:dig (ce s i)=false):ke s=false:=by
 have:ais s=false:=a0c hi (by simp[h1,h2]);simp[ke,this]
def b8o (h0:s.size≠0) (h1:s.size<=24) (h2:ltr (ce s 0)=true) (h3:s≠ar9) (h4:∀j,j<s.size->(ltr (ce s j)||dig (ce s j))=true):ke s=true:=by
 have:ais s=true:=a8v h4;simp[ke,this,h0,h1,h2,h3]
def yw:s.size=0<->s=emp:=by
 constructor
 · intro h
   refine ByteArray.ext (Array.ext' ?_);have:s.data.toList.length=0:=by rw[bn2];exact h
   exact bns this
 rintro rfl;rfl
def aov {α:Type} {p:α->Bool} {l:List α}:decide (0<=idx p l)=l.any p:=by
 unfold idx
 cases h:l.findIdx? p with
 | none =>
  rw[bpe]at h;have:l.any p=false:=by rw[boa];intro x hx;simp[h x hx]
  simp[this]
 | some i =>
  rw[bo4]at h;obtain⟨hi,hp,_⟩:=h;have:l.any p=true:=by rw[boh];exact⟨_,bma hi,hp⟩
  simp[this]
def atv {α:Type} {p:α->Bool} {l:List α}:idx p l<l.length:=by
 unfold idx
 cases h:l.findIdx? p with
 |none=>simp;omega
 | some i =>
  rw[bo4]at h;simp[h.1]
def amm {l:List Val}:(!l.any fun v=>!d8 v)=l.all d8:=by
 induction l with
 |nil=>rfl
 |cons x l ih=>simp only[List.any_cons,List.all_cons,Bool.not_or,Bool.not_not,ih]
def ofI (k:Int):Val :=
 if k=0 then⟨1,0,emp⟩else if k=1 then⟨1,1,emp⟩else if k=2 then⟨1,2,emp⟩else if k=3 then⟨0,0,emp⟩else if k=4 then⟨2,0,⟨#[97]⟩⟩else if k=5 then⟨2,0,⟨#[98]⟩⟩
 else if k=6 then⟨2,0,emp⟩else if k=7 then⟨3,1,emp⟩else if k=8 then⟨1, -1,emp⟩else if k=9 then⟨2,0,⟨#[97,98]⟩⟩else if k=10 then⟨3,2,emp⟩ else⟨1,7,emp⟩
def ofV(c:UInt8):Val:=ofI ((c.toNat:Int)%12)
def aex(x:Opn):ByteArray:=[⟨#[114]⟩,⟨#[115]⟩,⟨#[116]⟩,emp].getD (x.name.toNat%4) default
def b1a(x:Opn):Row:=⟨x.id,x.vals.map ofV⟩
def me:List ByteArray:=[⟨#[97]⟩,⟨#[98]⟩,⟨#[99]⟩,⟨#[100]⟩,⟨#[101]⟩,⟨#[102]⟩,⟨#[103]⟩,⟨#[104]⟩]
def ol(l:List UInt8)(n:Nat):List Val:=(List.range n).map fun k=>ofV (l.getD k default)
def mc(x:jw)(n:Nat):List Row:=(List.range x.rows.length).map fun(i:Nat)=>⟨1+(i:Int)*(1+(x.gap.toNat:Int)%3),ol (x.rows.getD i default) n⟩
def a3l(x:jw)(n:Nat):Tbl:=⟨⟨#[114]⟩,me.take n,mc x n⟩
def b1x(x:Opn):Tbl:={ a3l x.t (x.t.attrs.toNat%4)with name:=aex x }
def afn {β:Type} [Inhabited β] (f:Nat->β) (n i:Nat) (h:i<n):((List.range n).map f).getD i default=f i:=by
 simp[List.getD,h]
end
end
section
abbrev T0:Tbl:=⟨emp,[],[]⟩
def wt (r:Row):List Row->List Row
 | []=>[r]
 |x::xs=>if r.id<x.id then r::x::xs else x::wt r xs
def yg (t:Tbl) (r:Row):Int :=
 if du t≠0 then du t else if r.vals.length≠t.attrs.length then 6 else if r.id<=0\/r.vals.all d8=false then 1
 else if 0<=gh t.rows r.id then 5 else if 1000<=t.rows.length then 3 else 0
def ars(t:Tbl)(r:Row):Tbl:=if yg t r=0 then { t with rows:=wt r t.rows }else T0
def a1y(t:Tbl)(id:Int):Int:=if du t≠0 then du t else if 0<=gh t.rows id then 0 else 4
def arm(t:Tbl)(id:Int):Tbl:=if a1y t id=0 then { t with rows:=t.rows.eraseIdx (gh t.rows id).toNat }else T0
def a3b (t:Tbl) (id attr:Int) (v:Val):Int :=
 if du t≠0 then du t else if ¬0<=gh t.rows id then 4 else if attr<0\/(t.attrs.length:Int)<=attr then 6 else if d8 v=false then 1 else 0
def a4e(l:List Row)(i k:Nat)(v:Val):List Row:=l.set i { l.getD i default with vals:=(l.getD i default).vals.set k v }
def aqd(t:Tbl)(id attr:Int)(v:Val):Tbl:=if a3b t id attr v=0 then { t with rows:=a4e t.rows (gh t.rows id).toNat attr.toNat v }else T0
def ac4 (t:Tbl) (c:Chg):Int :=
 if c.kind=2 then yg t c.row
 else if ¬0<=gh t.rows c.row.id then 4
 else if ¬(t.rows.getD (max (gh t.rows c.row.id) 0).toNat default).vals=c.row.vals then 16
 else if c.kind=3 then a1y t c.row.id
 else a3b t c.row.id c.attr c.value
def aa4(t:Tbl)(c:Chg):Tbl:=if c.kind=2 then ars t c.row else if c.kind=3 then arm t c.row.id else aqd t c.row.id c.attr c.value
def vo(d:DB)(s:ByteArray):Tbl:=d.getD (lj d s).toNat default
def jy (d:DB) (c:Chg):Int :=
 if c.kind=1 then(if c.name≠c.table.name then 1 else abk d c.table)
 else if c.kind<1\/4<c.kind then 1
 else if lj d c.name<0 then 4
 else ac4 (vo d c.name) c
def a33 (d:DB) (c:Chg):DB :=
 if jy d c≠0 then d
 else if c.kind=1 then d++[c.table]
 else d.set (lj d c.name).toNat (aa4 (vo d c.name) c)
section
variable {c:Chg}{d:DB}
def aE2(h:c.kind=1)(h2:c.name=c.table.name):jy d c=abk d c.table:=by rw[jy,if_pos h,if_neg (by simp[h2])]
def aE5(h:2<=c.kind/\c.kind<=4)(h2:¬lj d c.name<0):jy d c=ac4 (vo d c.name) c:=by rw[jy,if_neg bpw,if_neg bpw,if_neg h2]
def b8k{e:Int}(h:jy d c=e)(he:e≠0):a33 d c=d:=by rw[a33,if_pos (by rw[h];exact he)]
def aD1(h:jy d c=0)(h1:c.kind=1):a33 d c=d++[c.table]:=by rw[a33,if_neg (by simp[h]),if_pos h1]
def aD2{u:Tbl}(h:jy d c=0)(h1:¬c.kind=1)(hu:aa4 (vo d c.name) c=u):a33 d c=d.set (lj d c.name).toNat u:=by rw[a33,if_neg (by simp[h]),if_neg h1,hu]
def dbV(d:DB):Prop:=d.length<=50/\∀j,j<d.length->du (d.getD j default)=0
def bez (d:DB):List Chg->Int
 | []=>0
 |c::cs=>if jy d c≠0 then jy d c else bez (a33 d c) cs
def ah7 (d:DB):List Chg->DB
 | []=>d
 |c::cs=>if jy d c≠0 then[]else ah7 (a33 d c) cs
def bgy(s:Stt)(l:List Chg):Stt:=if l.length=0 then s else⟨s.done++[l],[],false,[]⟩
def bk4(s:Stt)(c:Chg):Stt:=if s.opn=true then { s with now:=s.now++[c] }else bgy s [c]
def bfl(x:Opn):Bool:=decide (x.vals.length<=20)&&decide (x.t.rows.length<=6)&&x.t.rows.all fun r=>decide (r.length<=20)
def few(l:List Opn)(most:Int):Bool:=l.all bfl&&decide ((l.length:Int)<=most)
end
end
section
section
variable {l:List Row}
def a5k {n:Nat} {b:Int} {x:Row} (h:fm n b (x::l)=0):b<x.id/\x.vals.length=n/\x.vals.all d8=true/\fm n x.id l=0:=by
 simp only[fm]at h;split at h
 · omega
 split at h
 · omega
 split at h
 · omega
 rename_i h1 h2 h3;exact⟨by omega,by omega,by simpa using h3,h⟩
def j5 {n:Nat}:∀{l:List Row} {b:Int},fm n b l=0->∀x∈l,b<x.id/\x.vals.length=n/\x.vals.all d8=true
 | [],_,_,x,hx=>by cases hx
 | y::l,b,h,x,hx=>by
  obtain⟨h1,h2,h3,h4⟩:=a5k h
  rcases bm9.1 hx with rfl|hx
  · exact⟨h1,h2,h3⟩
  obtain⟨g1,g2⟩:=j5 h4 x hx;exact⟨by omega,g2⟩
abbrev qj(l:List Row):Prop:=l.Pairwise fun a b=>a.id<b.id
def mr {n:Nat}:∀{l:List Row} {b:Int},fm n b l=0->qj l
 | [],_,_=>List.Pairwise.nil
 | y::l,b,h=>by
  obtain⟨h1,h2,h3,h4⟩:=a5k h;exact List.Pairwise.cons (fun x hx=>(j5 h4 x hx).1) (mr h4)
def tu {n:Nat}:∀{l:List Row} {b:Int},(∀x∈l,b<x.id/\x.vals.length=n/\x.vals.all d8=true)->qj l->fm n b l=0
 | [],_,_,_=>rfl
 | y::l,b,h,hs=>by
  obtain⟨h1,h2,h3⟩:=h y bpz;unfold qj at hs;rw[bmn]at hs;simp only[fm];rw[if_neg bpw,if_neg bpw,if_neg (by simp[h3])];exact tu (fun x hx=>⟨hs.1 x hx,(h x (by simp[hx])).2⟩) hs.2
structure TOk (t:Tbl):Prop where
 nm:ke t.name=true
 na:t.attrs.length<=16
 nr:t.rows.length<=1000
 nms:a7z t.attrs=true
 rs:fm t.attrs.length 0 t.rows=0
variable {t:Tbl}
def pz:du t=0<->TOk t:=by
 constructor
 · intro h
   unfold du at h;split at h
   · omega
   split at h
   · omega
   split at h
   · omega
   rename_i h1 h2 h3;exact⟨by simpa using h1,by omega,by omega,by simpa using h3,h⟩
 rintro⟨h1,h2,h3,h4,h5⟩;unfold du;rw[if_neg (by simp[h1]),if_neg bpw,if_neg (by simp[h4]),h5]
def a2g {v:Val} (h:d8 v=true):v.str.size<=200:=by
 unfold d8 at h;have e0:emp.size=0:=rfl;split at h
 · simp only[bm8,decide_eq_true_eq]at h;rw[h.2];omega
 split at h
 · simp only[decide_eq_true_eq]at h;rw[h];omega
 split at h
 · simp only[bm8,decide_eq_true_eq]at h;omega
 simp only[bm8,decide_eq_true_eq]at h;rw[h.2];omega
def b4b {l:List Val} (h:l.all d8=true):atd l:=by
 intro j hj;rw[al l j hj];have:=a2g (bms.1 h _ (bma hj));unfold Val.ok;omega
theorem TOk.ok (h:TOk t):t.ok:=by
 refine⟨by have:=h.na;omega,by have:=h.nr;omega,fun j hj=>?_⟩;rw[al _ j hj];obtain⟨_,h2,h3⟩:=j5 h.rs _ (bma hj);exact⟨by have:=h.na;omega,b4b h3⟩
def acs.sub {l':List Row} (h:acs l) (hs:∀x∈l',x∈l):acs l':=by
 intro j hj;rw[al _ j hj];obtain⟨k,hk,e⟩:=bmj (hs _ (bma hj));rw[<- e,<- al _ k hk];exact h k hk
def au7(h:du t=0):t.ok:=(pz.1 h).ok
def biy(l:List Row)(k:Nat)(r:Row):List Row:=l.take k++r::l.drop k
def aic {r:Row}:∀{l:List Row},(wt r l).length=l.length+1
 | []=>rfl
 | x::l=>by
  simp only[wt];split
  · simp
  simp[aic (l:=l)]
def b3h{r:Row}(h:yg t r=0):ars t r=⟨t.name,t.attrs,wt r t.rows⟩:=by rw[ars,if_pos h]
def b33{i:Int}(h:a1y t i=0):arm t i=⟨t.name,t.attrs,t.rows.eraseIdx (gh t.rows i).toNat⟩:=by rw[arm,if_pos h]
def b57{i a:Int}{v:Val}(h:a3b t i a v=0):aqd t i a v=⟨t.name,t.attrs,a4e t.rows (gh t.rows i).toNat a.toNat v⟩:=by rw[aqd,if_pos h]
def ayo {r:Row} (h:yg t r=0):du t=0/\r.vals.length=t.attrs.length/\0<r.id/\r.vals.all d8=true/\gh t.rows r.id<0/\t.rows.length<1000:=by
 unfold yg at h;split at h
 · omega
 split at h
 · omega
 split at h
 · omega
 split at h
 · omega
 split at h
 · omega
 rename_i h1 h2 h3 h4 h5;rw[not_or]at h3;exact⟨by omega,by omega,by omega,by simpa using h3.2,by omega,by omega⟩
def axb{i k:Nat}{v:Val}:(a4e l i k v).length=l.length:=by simp[a4e]
def b9w {id:Int} (h:0<=gh l id):(max (gh l id) 0).toNat<l.length:=by
 have:=atv (p:=fun r:Row=>decide (r.id=id)) (l:=l);unfold gh at *;omega
theorem TOk.width (h:TOk t) {i:Nat} (hi:i<t.rows.length):(t.rows.getD i default).vals.length=t.attrs.length:=by
 rw[al _ _ hi];exact(j5 h.rs _ (bma hi)).2.1
def b81 {d:DB} {s:ByteArray} (h:¬lj d s<0):(lj d s).toNat<d.length:=by
 have:=atv (p:=fun t:Tbl=>decide (t.name=s)) (l:=d);unfold lj at *;omega
def dbV.at{d:DB}(h:dbV d){s:ByteArray}(hs:¬lj d s<0):TOk (vo d s):=pz.1 (h.2 _ (b81 hs))
def b5i {d:DB} (h:abk d t=0):du t=0/\lj d t.name<0/\d.length<50:=by
 unfold abk at h;split at h
 · omega
 split at h
 · omega
 split at h
 · omega
 exact⟨by omega,by omega,by omega⟩
end
end
section
section
variable {i:Nat}
def b1c {α:Type} [Inhabited α] {p:α->Bool} {l:List α} (hi:i<l.length) (h:p (l.getD i default)=true):(l.take (i+1)).filter p=(l.take i).filter p++[l.getD i default]:=by
 rw[ax hi,bn4,bnv,if_pos h];rfl
def b1p {α:Type} [Inhabited α] {p:α->Bool} {l:List α} (hi:i<l.length) (h:p (l.getD i default)=false):(l.take (i+1)).filter p=(l.take i).filter p:=by
 rw[ax hi,bn4,bnv,if_neg (by rw[h];simp),bp8,bmv]
def a9f(s:AS)(f:Fd):Bool:=decide (sub f.lhs s)&&!decide (sub f.rhs s)
def ar6(l:List Fd)(s:AS):Int:=idx (a9f s) l
def ah9(l:List Fd)(s:AS):Bool:=decide (ar6 l s<0)
def vt(l:List Fd)(n:Int)(i:Nat):List AS:=((ct (ah n)).take i).filter (ah9 l)
def en(l:List Fd)(n:Int):List AS:=(ct (ah n)).filter (ah9 l)
variable {l:List Fd}{n:Int}
def a73(hi:i<(ct (ah n)).length)(h:ar6 l ((ct (ah n)).getD i default)<0):vt l n (i+1)=vt l n i++[(ct (ah n)).getD i default]:=b1c hi (by unfold ah9;exact decide_eq_true h)
def a6t(hi:i<(ct (ah n)).length)(h:¬ar6 l ((ct (ah n)).getD i default)<0):vt l n (i+1)=vt l n i:=b1p hi (by unfold ah9;exact decide_eq_false h)
def auq:vt l n (ct (ah n)).length=en l n:=by unfold vt en;rw[bmd]
def ata:(vt l n i).length<=i:=bme (bnm _ _) (bom _ _)
def aku(s:AS)(a c:AS):AS:=if c≠s/\sub s c then a&&&c else a
def ue(n:Int)(cl:List AS)(s:AS)(k:Nat):AS:=(cl.take k).foldl (aku s) (ah n)
variable {cl:List AS}{k:Nat}
def a6k {s:AS} (hk:k<cl.length):ue n cl s (k+1)=aku s (ue n cl s k) (cl.getD k default):=by
 unfold ue;rw[ax hk,bmo];rfl
def a08(n:Int)(cl:List AS)(s:AS):Bool:=decide (s≠ah n)&&decide (ue n cl s cl.length≠s)
def a0f(n:Int)(cl:List AS)(i:Nat):List AS:=(cl.take i).filter (a08 n cl)
def jf(n:Int)(cl:List AS):List AS:=cl.filter (a08 n cl)
def a26(hi:i<cl.length)(h:a08 n cl (cl.getD i default)=true):a0f n cl (i+1)=a0f n cl i++[cl.getD i default]:=b1c hi h
def a1z(hi:i<cl.length)(h:a08 n cl (cl.getD i default)=false):a0f n cl (i+1)=a0f n cl i:=b1p hi h
def axm:a0f n cl cl.length=jf n cl:=by unfold a0f jf;rw[bmd]
def b0c:(a0f n cl i).length<=i:=bme (bnm _ _) (bom _ _)
def acw(s:AS)(k i:Nat):Val:=⟨1,if s.getLsbD i=true then 0 else(k:Int),emp⟩
def vq(s:AS)(k n:Nat):List Val:=(List.range n).map (acw s k)
def b8d(l:List AS)(n k:Nat):Row:=⟨(k:Int)+1,vq (l.getD k default) k n⟩
def vr(l:List AS)(n k:Nat):List Row:=(List.range k).map (b8d l n)
def aqe(i:Nat):ByteArray:=⟨#[UInt8.ofNat (97+i)]⟩
def y9(n:Nat):List ByteArray:=(List.range n).map aqe
def bcn(l:List AS)(n:Nat):Tbl:=⟨⟨#[116]⟩,y9 n,vr l n l.length⟩
def lm{s:AS}:vq s k (i+1)=vq s k i++[acw s k i]:=by unfold vq;rw[bmk,bn7];rfl
def ab3{l:List AS}{n:Nat}:vr l n (k+1)=vr l n k++[b8d l n k]:=by unfold vr;rw[bmk,bn7];rfl
def ag6:y9 (i+1)=y9 i++[aqe i]:=by unfold y9;rw[bmk,bn7];rfl
def asn{s:AS}{n:Nat}:(vq s k n).length=n:=by simp[vq]
def asj{l:List AS}{n:Nat}:(vr l n k).length=k:=by simp[vr]
def ayg{n:Nat}:(y9 n).length=n:=by simp[y9]
end
end
section
def bgf(l:List Fd)(p:AS)(k:Nat):List Fd:=(((List.range k).map (BitVec.ofNat 32)).filter fun s=>decide (sub s p)).map fun s=>⟨s,clo l s&&&p⟩
def bkc(l:List Fd)(ps:List AS)(i:Nat):List Fd:=(ps.take i).flatMap fun p=>bgf l p (p.toNat+1)
def bl3(a b:List Fd):Bool:=b.any fun f=>!imp a f
def bl7(n:Int)(l:List Fd)(ps:List AS):Int:=if cn n l=0 then lsC n ps l []else cn n l
def bki(n:Int)(l:List Fd)(ps:List AS):Bool:=decide (cn n l=0)&&(lsB n ps l []&&aye l ps&&ps.all (aum l))
section
variable {n:Int}{l:List Fd}{ps:List AS}
end
end
section
open Go.Proofs
def bji(n:Int)(l:List Fd)(i:Nat):Bool:=((akk n l).take i).any (ng n l)
section
variable {n:Int}{l:List Fd}
end
section
variable {d:Dps}
end
end
section
def biv(l0:List Fd)(x:Fd)(a:Nat):Prop:=x.lhs.getLsbD a=true->imp l0 (aqj x a)=false
def bjq(l:List Fd):Prop:=∀f∈l,∃k:Nat,f.rhs=(1:AS)<<<k
section
variable {n:Int}{l:List Fd}
end
end
end Go.Hx

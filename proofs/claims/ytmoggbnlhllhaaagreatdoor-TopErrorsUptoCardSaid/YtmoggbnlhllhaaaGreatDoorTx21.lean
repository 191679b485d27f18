/- A part of the proof: Sp3 Sp4. -/
import Derived.Test.YtmoggbnlhllhaaaGreatDoorTx20
set_option linter.all false
namespace Go.Hx
section
abbrev T0:Tbl:=⟨emp,[],[]⟩
def uw (r:Row):List Row->List Row
 | []=>[r]
 |x::xs=>if r.id<x.id then r::x::xs else x::uw r xs
def xy (t:Tbl) (r:Row):Int :=
 if dg t≠0 then dg t else if r.vals.length≠t.attrs.length then 6 else if r.id<=0\/r.vals.all cj=false then 1
 else if 0<=fq t.rows r.id then 5 else if 1000<=t.rows.length then 3 else 0
def ap0(t:Tbl)(r:Row):Tbl:=if xy t r=0 then { t with rows:=uw r t.rows }else T0
def a19(t:Tbl)(id:Int):Int:=if dg t≠0 then dg t else if 0<=fq t.rows id then 0 else 4
def ao6(t:Tbl)(id:Int):Tbl:=if a19 t id=0 then { t with rows:=t.rows.eraseIdx (fq t.rows id).toNat }else T0
def a1y (t:Tbl) (id attr:Int) (v:Val):Int :=
 if dg t≠0 then dg t else if ¬0<=fq t.rows id then 4 else if attr<0\/(t.attrs.length:Int)<=attr then 6 else if cj v=false then 1 else 0
def a3p(l:List Row)(i k:Nat)(v:Val):List Row:=l.set i { l.getD i default with vals:=(l.getD i default).vals.set k v }
def aq7(t:Tbl)(id attr:Int)(v:Val):Tbl:=if a1y t id attr v=0 then { t with rows:=a3p t.rows (fq t.rows id).toNat attr.toNat v }else T0
def abl (t:Tbl) (c:Chg):Int :=
 if c.kind=2 then xy t c.row
 else if ¬0<=fq t.rows c.row.id then 4
 else if ¬(t.rows.getD (max (fq t.rows c.row.id) 0).toNat default).vals=c.row.vals then 16
 else if c.kind=3 then a19 t c.row.id
 else a1y t c.row.id c.attr c.value
def a8b(t:Tbl)(c:Chg):Tbl:=if c.kind=2 then ap0 t c.row else if c.kind=3 then ao6 t c.row.id else aq7 t c.row.id c.attr c.value
def tz(d:DB)(s:ByteArray):Tbl:=d.getD (lh d s).toNat default
def jz (d:DB) (c:Chg):Int :=
 if c.kind=1 then(if c.name≠c.table.name then 1 else a9x d c.table)
 else if c.kind<1\/4<c.kind then 1
 else if lh d c.name<0 then 4
 else abl (tz d c.name) c
def a2g (d:DB) (c:Chg):DB :=
 if jz d c≠0 then d
 else if c.kind=1 then d++[c.table]
 else d.set (lh d c.name).toNat (a8b (tz d c.name) c)
section
variable {c:Chg}{d:DB}
def aE2(h:c.kind=1)(h2:c.name=c.table.name):jz d c=a9x d c.table:=by rw[jz,if_pos h,if_neg (by simp[h2])]
def aE5(h:2<=c.kind/\c.kind<=4)(h2:¬lh d c.name<0):jz d c=abl (tz d c.name) c:=by rw[jz,if_neg bmq,if_neg bmq,if_neg h2]
def b8f{e:Int}(h:jz d c=e)(he:e≠0):a2g d c=d:=by rw[a2g,if_pos (by rw[h];exact he)]
def aD1(h:jz d c=0)(h1:c.kind=1):a2g d c=d++[c.table]:=by rw[a2g,if_neg (by simp[h]),if_pos h1]
def aD2{u:Tbl}(h:jz d c=0)(h1:¬c.kind=1)(hu:a8b (tz d c.name) c=u):a2g d c=d.set (lh d c.name).toNat u:=by rw[a2g,if_neg (by simp[h]),if_neg h1,hu]
def dbV(d:DB):Prop:=d.length<=50/\∀j,j<d.length->dg (d.getD j default)=0
def bc2 (d:DB):List Chg->Int
 | []=>0
 |c::cs=>if jz d c≠0 then jz d c else bc2 (a2g d c) cs
def afx (d:DB):List Chg->DB
 | []=>d
 |c::cs=>if jz d c≠0 then[]else afx (a2g d c) cs
def be4(s:Stt)(l:List Chg):Stt:=if l.length=0 then s else⟨s.done++[l],[],false,[]⟩
def bh5(s:Stt)(c:Chg):Stt:=if s.opn=true then { s with now:=s.now++[c] }else be4 s [c]
def bbt(x:Opn):Bool:=decide (x.vals.length<=20)&&decide (x.t.rows.length<=6)&&x.t.rows.all fun r=>decide (r.length<=20)
def few(l:List Opn)(most:Int):Bool:=l.all bbt&&decide ((l.length:Int)<=most)
end
end
section
section
variable {l:List Row}
def a3z {n:Nat} {b:Int} {x:Row} (h:ew n b (x::l)=0):b<x.id/\x.vals.length=n/\x.vals.all cj=true/\ew n x.id l=0:=by
 simp only[ew]at h;split at h
 · omega
 split at h
 · omega
 split at h
 · omega
 rename_i h1 h2 h3;exact⟨by omega,by omega,by simpa using h3,h⟩
def fk {n:Nat}:∀{l:List Row} {b:Int},ew n b l=0->∀x∈l,b<x.id/\x.vals.length=n/\x.vals.all cj=true
 | [],_,_,x,hx=>by cases hx
 | y::l,b,h,x,hx=>by
  obtain⟨h1,h2,h3,h4⟩:=a3z h
  rcases biv.1 hx with rfl|hx
  · exact⟨h1,h2,h3⟩
  obtain⟨g1,g2⟩:=fk h4 x hx;exact⟨by omega,g2⟩
abbrev s8(l:List Row):Prop:=l.Pairwise fun a b=>a.id<b.id
def ik {n:Nat}:∀{l:List Row} {b:Int},ew n b l=0->s8 l
 | [],_,_=>List.Pairwise.nil
 | y::l,b,h=>by
  obtain⟨h1,h2,h3,h4⟩:=a3z h;exact List.Pairwise.cons (fun x hx=>(fk h4 x hx).1) (ik h4)
def oo {n:Nat}:∀{l:List Row} {b:Int},(∀x∈l,b<x.id/\x.vals.length=n/\x.vals.all cj=true)->s8 l->ew n b l=0
 | [],_,_,_=>rfl
 | y::l,b,h,hs=>by
  obtain⟨h1,h2,h3⟩:=h y bmu;unfold s8 at hs;rw[bj9]at hs;simp only[ew];rw[if_neg bmq,if_neg bmq,if_neg (by simp[h3])];exact oo (fun x hx=>⟨hs.1 x hx,(h x (by simp[hx])).2⟩) hs.2
structure TOk (t:Tbl):Prop where
 nm:jw t.name=true
 na:t.attrs.length<=16
 nr:t.rows.length<=1000
 nms:a5r t.attrs=true
 rs:ew t.attrs.length 0 t.rows=0
variable {t:Tbl}
def om:dg t=0<->TOk t:=by
 constructor
 · intro h
   unfold dg at h;split at h
   · omega
   split at h
   · omega
   split at h
   · omega
   rename_i h1 h2 h3;exact⟨by simpa using h1,by omega,by omega,by simpa using h3,h⟩
 rintro⟨h1,h2,h3,h4,h5⟩;unfold dg;rw[if_neg (by simp[h1]),if_neg bmq,if_neg (by simp[h4]),h5]
def a2u {v:Val} (h:cj v=true):v.str.size<=200:=by
 unfold cj at h;have e0:emp.size=0:=rfl;split at h
 · simp only[biw,decide_eq_true_eq]at h;rw[h.2];omega
 split at h
 · simp only[decide_eq_true_eq]at h;rw[h];omega
 split at h
 · simp only[biw,decide_eq_true_eq]at h;omega
 simp only[biw,decide_eq_true_eq]at h;rw[h.2];omega
def b46 {l:List Val} (h:l.all cj=true):asr l:=by
 intro j hj;rw[ah l j hj];have:=a2u (bjr.1 h _ (bin hj));unfold Val.ok;omega
theorem TOk.ok (h:TOk t):t.ok:=by
 refine⟨by have:=h.na;omega,by have:=h.nr;omega,fun j hj=>?_⟩;rw[ah _ j hj];obtain⟨_,h2,h3⟩:=fk h.rs _ (bin hj);exact⟨by have:=h.na;omega,b46 h3⟩
def ab7.sub {l':List Row} (h:ab7 l) (hs:∀x∈l',x∈l):ab7 l':=by
 intro j hj;rw[ah _ j hj];obtain⟨k,hk,e⟩:=bj7 (hs _ (bin hj));rw[<- e,<- ah _ k hk];exact h k hk
def atl(h:dg t=0):t.ok:=(om.1 h).ok
def bg9(l:List Row)(k:Nat)(r:Row):List Row:=l.take k++r::l.drop k
def aju {r:Row}:∀{l:List Row},(uw r l).length=l.length+1
 | []=>rfl
 | x::l=>by
  simp only[uw];split
  · simp
  simp[aju (l:=l)]
def b1a{r:Row}(h:xy t r=0):ap0 t r=⟨t.name,t.attrs,uw r t.rows⟩:=by rw[ap0,if_pos h]
def b3g{i:Int}(h:a19 t i=0):ao6 t i=⟨t.name,t.attrs,t.rows.eraseIdx (fq t.rows i).toNat⟩:=by rw[ao6,if_pos h]
def b41{i a:Int}{v:Val}(h:a1y t i a v=0):aq7 t i a v=⟨t.name,t.attrs,a3p t.rows (fq t.rows i).toNat a.toNat v⟩:=by rw[aq7,if_pos h]
def awp {r:Row} (h:xy t r=0):dg t=0/\r.vals.length=t.attrs.length/\0<r.id/\r.vals.all cj=true/\fq t.rows r.id<0/\t.rows.length<1000:=by
 unfold xy at h;split at h
 · omega
 split at h
 · omega
 split at h
 · omega
 split at h
 · omega
 split at h
 · omega
 rename_i h1 h2 h3 h4 h5;rw[not_or]at h3;exact⟨by omega,by omega,by omega,by simpa using h3.2,by omega,by omega⟩
def au5{i k:Nat}{v:Val}:(a3p l i k v).length=l.length:=by simp[a3p]
def b6z {id:Int} (h:0<=fq l id):(max (fq l id) 0).toNat<l.length:=by
 have:=atf (p:=fun r:Row=>decide (r.id=id)) (l:=l);unfold fq at *;omega
theorem TOk.width (h:TOk t) {i:Nat} (hi:i<t.rows.length):(t.rows.getD i default).vals.length=t.attrs.length:=by
 rw[ah _ _ hi];exact(fk h.rs _ (bin hi)).2.1
def b9h {d:DB} {s:ByteArray} (h:¬lh d s<0):(lh d s).toNat<d.length:=by
 have:=atf (p:=fun t:Tbl=>decide (t.name=s)) (l:=d);unfold lh at *;omega
def dbV.at{d:DB}(h:dbV d){s:ByteArray}(hs:¬lh d s<0):TOk (tz d s):=om.1 (h.2 _ (b9h hs))
def b36 {d:DB} (h:a9x d t=0):dg t=0/\lh d t.name<0/\d.length<50:=by
 unfold a9x at h;split at h
 · omega
 split at h
 · omega
 split at h
 · omega
 exact⟨by omega,by omega,by omega⟩
end
end
end Go.Hx

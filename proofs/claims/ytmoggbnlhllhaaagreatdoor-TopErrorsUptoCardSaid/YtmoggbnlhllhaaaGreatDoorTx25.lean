/- A part of the proof: Bz7 Bz8 Bz9 Y12 Jp4 Ka1 Ls8 Cs43 Ls9 Kl1 Kb1 Hx28 Hx29 Hx30 Hx32 Hx33. -/
import Derived.Laws.IdiomRangeMap
import Derived.Test.YtmoggbnlhllhaaaGreatDoorTx24
set_option linter.all false
set_option maxRecDepth 100000
namespace Go.Hx
section
structure MvO (d:Fd) (T0:List AS) (x:Nat×List AS×Nat):Prop where
 nd:x.2.1.Nodup
 pre:T0 <+: x.2.1
 res:mvO d x.1 x.2.1 x.2.2=mvO d FU2 T0 0
 le:x.2.2<=x.2.1.length
 fuel:4294967296<x.1+x.2.2
structure MvI (d:Fd) (T:List AS) (i:Nat) (x:Nat×List AS×Nat):Prop where
 nd:x.2.1.Nodup
 pre:T <+: x.2.1
 res:mvI d x.1 x.2.1 i x.2.2=mvI d 8589934592 T i 0
 le:x.2.2<=x.2.1.length
 fuel:4294967296<x.1+x.2.2
section
variable {d:Fd}{T0 T:List AS}{i f k:Nat}
theorem MvO.start(h:T.Nodup):MvO d T (FU2,T,0):=⟨h,List.prefix_refl _,rfl,bio _,by show 4294967296<8589934592+0;omega⟩
theorem MvI.start(h:T.Nodup):MvI d T i (8589934592,T,0):=⟨h,List.prefix_refl _,rfl,bio _,by show 4294967296<8589934592+0;omega⟩
theorem MvO.pos (h:MvO d T0 (f,T,i)):0<f/\T.length<=4294967296:=by
 have h1:=a3h h.nd;have h2:=h.le;have h3:=h.fuel;dsimp only at h1 h2 h3;omega
theorem MvI.pos {U:List AS} (h:MvI d T i (f,U,k)):0<f/\U.length<=4294967296:=by
 have h1:=a3h h.nd;have h2:=h.le;have h3:=h.fuel;dsimp only at h1 h2 h3;omega
theorem MvO.done (h:MvO d T0 (f,T,i)) (hi:¬i<T.length):T=mvO d FU2 T0 0:=by
 have hp:=h.pos.1;have hr:mvO d f T i=mvO d FU2 T0 0:=h.res;obtain⟨g,rfl⟩:∃g,f=g+1:=⟨f-1,by omega⟩;unfold mvO at hr;rw[if_neg hi]at hr;exact hr
theorem MvI.done {U:List AS} (h:MvI d T i (f,U,k)) (hk:¬k<U.length):U=mvI d 8589934592 T i 0:=by
 have hp:=h.pos.1;have hr:mvI d f U i k=mvI d 8589934592 T i 0:=h.res;obtain⟨g,rfl⟩:∃g,f=g+1:=⟨f-1,by omega⟩;unfold mvI at hr;rw[if_neg hk]at hr;exact hr
end
end
section
structure ChI (l m:List Fd) (R:List AS) (x:Nat×List AS×Bool):Prop where
 nd:x.2.1.Nodup
 t:x.2.2=true->chF l m x.1 x.2.1=R/\muT x.2.1<x.1
 f:x.2.2=false->x.2.1=R
def bgp(x:Nat×List AS×Bool):Nat:=x.1+(bif x.2.2 then 1 else 0)
theorem ChI.start(l m:List Fd)(rest:AS):ChI l m (chT l m rest) (MU,auo rest,true):=⟨bca rest,fun _=>⟨rfl,b9e _⟩,fun h=>by cases h⟩
def bi1(l:List Fd)(T:List AS)(i:Nat):TC:=(l.take i).foldl fdR (T,false)
def mvX(m:List Fd)(x:TC)(i:Nat):TC:=(m.take i).foldl mvR x
structure FdI (d:Fd) (U0:List AS) (x:Nat×List AS×Bool):Prop where
 nd:x.2.1.Nodup
 res:a4t d x.1 x.2.1=a4t d FU2 U0
 fuel:(orL x.2.1).toNat<x.1
 f:x.2.2=false->x.2.1=U0
 t:x.2.2=true->(fdT d U0).isSome=true
section
variable {d:Fd}{U0 U:List AS}{g:Nat}{b c:Bool}{s:AS}
theorem FdI.start(h:U0.Nodup):FdI d U0 (FU2,U0,false):=⟨h,rfl,bl0 (orL U0).isLt (show 2^32<=FU2 by decide),fun _=>rfl,fun h=>by cases h⟩
theorem FdI.len(h:FdI d U0 (g,U,b)):U.length<=8589934592:=bj2 (a3h (show U.Nodup from h.nd)) bmx
theorem FdI.done (h:FdI d U0 (g,U,b)) (hq:fdT d U=none):(U,c||b)=fdR (U0,c) d:=by
 have h2:a4t d g U=a4t d FU2 U0:=h.res;rw[aqx hq]at h2;unfold fdR;rw[<- h2]
 cases hb:b with
 |true=>rw[h.t hb]
 | false =>
  have e:U=U0:=h.f hb;rw[<- e,hq];rfl
end
end
section
def b6f(a b:AS):Bool:=a7v b a
def bih(l:List AS):List AS:=aok b6f l
def okM(l:List AS)(i k:Nat):Bool:=(List.range k).all fun j=>decide (j=i)||!a7v (l.getD j default) (l.getD i default)
def bgf(l:List AS)(i:Nat):List AS:=((ord l).take i).filter fun x=>!a3s b6f (ord l) x
def yq(rest L x:AS)(T:List AS)(y:AS):Bool:=!decide (y=0)&&(decide (y&&&~~~rest=0)&&decide ((L&&&~~~(x|||y))∈T))
def yL(rest L x:AS)(T:List AS)(k:Nat):List AS:=((List.range k).map (BitVec.ofNat 32)).filter (yq rest L x T)
section
variable {rest L x:AS}{T:List AS}{k:Nat}
end
end
section
open Go.Proofs
def bff(n:Int)(ps:List AS):List AS:=if ps.length=0 then[aj n]else ps.set (ps.length-1) (ps.getD (ps.length-1) default|||(aj n&&&~~~(orL ps)))
end
section
def axu:∀k,k<9->a5r (mo.take k)=true:=by decide
def ana (c:UInt8):vr (ofV c):=by
 unfold ofV;have h:∀k:Fin 12,cj (ofI (k.val:Int))=true/\-1<=(ofI (k.val:Int)).num/\(ofI (k.val:Int)).num<=7:=by decide
 have:=h ⟨c.toNat%12,by omega⟩;rw[show((c.toNat%12:Nat):Int)=(c.toNat:Int)%12 by omega]at this;exact⟨this.1,by omega,by omega⟩
def agx {x:ji} {n:Nat} (hn:n<=8):(zq x n).attrs.length=n:=by
 show(mo.take n).length=n;rw[bjc];have:mo.length=8:=rfl;omega
def b0j{x:ji}{n:Nat}(hn:n<=8)(hx:x.rows.length<=8):TOk (zq x n) where
 nm:=by show jw ⟨#[114]⟩=true;decide
 na:=by rw[agx hn];omega
 nr:=by show(lq x n).length<=1000;rw[aiv];omega
 nms:=axu n bmq
 rs:=by
  rw[agx hn];refine oo (fun w hw=>?_) ?_
  · obtain ⟨i,hi,e⟩:=bj3.1 hw
    subst e;refine⟨?_,aqs, ?_⟩
    · show (0:Int)<1+(i:Int)*(1+(x.gap.toNat:Int)%3)
      have:(0:Int)<=(i:Int)*(1+(x.gap.toNat:Int)%3):=Int.mul_nonneg bmq bmq;omega
    rw[bjr];intro v hv;obtain⟨k,_,e⟩:=bj3.1 hv;rw[<- e];exact(ana _).1
  show s8 (lq x n);unfold lq;refine blf.2 ((bmi (n:=x.rows.length)).imp fun {i j} hij=>?_);show 1+(i:Int)*(1+(x.gap.toNat:Int)%3)<1+(j:Int)*(1+(x.gap.toNat:Int)%3);have:(i:Int)*(1+(x.gap.toNat:Int)%3)<(j:Int)*(1+(x.gap.toNat:Int)%3):=Int.mul_lt_mul_of_pos_right bmq bmq;omega
def awl {x:ji} {n:Nat}:∀r∈(zq x n).rows,∀v∈r.vals,vr v:=fun r hr v hv=>by
 obtain⟨i,hi,rfl⟩:=bj3.1 hr;obtain⟨k,_,rfl⟩:=bj3.1 hv;exact ana _
def bbm(n:Int)(d:Fd):Fd:=⟨d.lhs&&&aj n,d.rhs&&&aj n⟩
def bi6(q:Fd->Bool)(n:Int)(l:List Fd)(i:Nat):List Fd:=((l.take i).map (bbm n)).filter q
section
variable {q:Fd->Bool}{n:Int}{l:List Fd}{i:Nat}
end
def bhu(s:AS)(l:List AS)(i:Nat):List AS:=(l.take i).map (·&&&s)++l.drop i
section
variable {s:AS}{l:List AS}{i:Nat}
end
end
section
section
variable {i:Nat}
def a1x {α:Type} [Inhabited α] {p:α->Bool} {l:List α} (hi:i<l.length) (h:p (l.getD i default)=true):(l.take (i+1)).filter p=(l.take i).filter p++[l.getD i default]:=by
 rw[ar hi,bk8,bki,if_pos h];rfl
def a1q {α:Type} [Inhabited α] {p:α->Bool} {l:List α} (hi:i<l.length) (h:p (l.getD i default)=false):(l.take (i+1)).filter p=(l.take i).filter p:=by
 rw[ar hi,bk8,bki,if_neg (by rw[h];simp),blu,bjn]
def a8m(s:AS)(f:Fd):Bool:=decide (sub f.lhs s)&&!decide (sub f.rhs s)
def aom(l:List Fd)(s:AS):Int:=idx (a8m s) l
def afl(l:List Fd)(s:AS):Bool:=decide (aom l s<0)
def ua(l:List Fd)(n:Int)(i:Nat):List AS:=((d8 (aj n)).take i).filter (afl l)
def dt(l:List Fd)(n:Int):List AS:=(d8 (aj n)).filter (afl l)
variable {l:List Fd}{n:Int}
def a6r(hi:i<(d8 (aj n)).length)(h:aom l ((d8 (aj n)).getD i default)<0):ua l n (i+1)=ua l n i++[(d8 (aj n)).getD i default]:=a1x hi (by unfold afl;exact decide_eq_true h)
def a61(hi:i<(d8 (aj n)).length)(h:¬aom l ((d8 (aj n)).getD i default)<0):ua l n (i+1)=ua l n i:=a1q hi (by unfold afl;exact decide_eq_false h)
def at4:ua l n (d8 (aj n)).length=dt l n:=by unfold ua dt;rw[biz]
def ato:(ua l n i).length<=i:=bj2 (bk9 _ _) (bkx _ _)
def ag7(s:AS)(a c:AS):AS:=if c≠s/\sub s c then a&&&c else a
def th(n:Int)(cl:List AS)(s:AS)(k:Nat):AS:=(cl.take k).foldl (ag7 s) (aj n)
variable {cl:List AS}{k:Nat}
def a4w {s:AS} (hk:k<cl.length):th n cl s (k+1)=ag7 s (th n cl s k) (cl.getD k default):=by
 unfold th;rw[ar hk,bj8];rfl
def zc(n:Int)(cl:List AS)(s:AS):Bool:=decide (s≠aj n)&&decide (th n cl s cl.length≠s)
def zr(n:Int)(cl:List AS)(i:Nat):List AS:=(cl.take i).filter (zc n cl)
def j5(n:Int)(cl:List AS):List AS:=cl.filter (zc n cl)
def a03(hi:i<cl.length)(h:zc n cl (cl.getD i default)=true):zr n cl (i+1)=zr n cl i++[cl.getD i default]:=a1x hi h
def a07(hi:i<cl.length)(h:zc n cl (cl.getD i default)=false):zr n cl (i+1)=zr n cl i:=a1q hi h
def aua:zr n cl cl.length=j5 n cl:=by unfold zr j5;rw[biz]
def ava:(zr n cl i).length<=i:=bj2 (bk9 _ _) (bkx _ _)
def adq(s:AS)(k i:Nat):Val:=⟨1,if s.getLsbD i=true then 0 else(k:Int),emp⟩
def ue(s:AS)(k n:Nat):List Val:=(List.range n).map (adq s k)
def ba3(l:List AS)(n k:Nat):Row:=⟨(k:Int)+1,ue (l.getD k default) k n⟩
def uc(l:List AS)(n k:Nat):List Row:=(List.range k).map (ba3 l n)
def apo(i:Nat):ByteArray:=⟨#[UInt8.ofNat (97+i)]⟩
def x7(n:Nat):List ByteArray:=(List.range n).map apo
def b5d(l:List AS)(n:Nat):Tbl:=⟨⟨#[116]⟩,x7 n,uc l n l.length⟩
def l4{s:AS}:ue s k (i+1)=ue s k i++[adq s k i]:=by unfold ue;rw[bjj,bju];rfl
def aal{l:List AS}{n:Nat}:uc l n (k+1)=uc l n k++[ba3 l n k]:=by unfold uc;rw[bjj,bju];rfl
def af5:x7 (i+1)=x7 i++[apo i]:=by unfold x7;rw[bjj,bju];rfl
def arn{s:AS}{n:Nat}:(ue s k n).length=n:=by simp[ue]
def aqj{l:List AS}{n:Nat}:(uc l n k).length=k:=by simp[uc]
def auk{n:Nat}:(x7 n).length=n:=by simp[x7]
end
end
section
def ben(l:List Fd)(p:AS)(k:Nat):List Fd:=(((List.range k).map (BitVec.ofNat 32)).filter fun s=>decide (sub s p)).map fun s=>⟨s,clo l s&&&p⟩
def bhn(l:List Fd)(ps:List AS)(i:Nat):List Fd:=(ps.take i).flatMap fun p=>ben l p (p.toNat+1)
def bhs(a b:List Fd):Bool:=b.any fun f=>!imp a f
def bii(n:Int)(l:List Fd)(ps:List AS):Int:=if cg n l=0 then lsC n ps l []else cg n l
def bi7(n:Int)(l:List Fd)(ps:List AS):Bool:=decide (cg n l=0)&&(lsB n ps l []&&awu l ps&&ps.all (as8 l))
section
variable {n:Int}{l:List Fd}{ps:List AS}
end
end
section
open Go.Proofs
def bfx(n:Int)(l:List Fd)(i:Nat):Bool:=((ahv n l).take i).any (mw n l)
section
variable {n:Int}{l:List Fd}
end
section
variable {d:Dps}
end
end
section
def bga(l0:List Fd)(x:Fd)(a:Nat):Prop:=x.lhs.getLsbD a=true->imp l0 (aqd x a)=false
def bhm(l:List Fd):Prop:=∀f∈l,∃k:Nat,f.rhs=(1:AS)<<<k
section
variable {n:Int}{l:List Fd}
end
end
section
def vc(t:Tbl)(d:Fd):Bool:=(List.range t.rows.length).all fun i=>(List.range t.rows.length).all fun k=>awv t d i k
def bgy(t:Tbl)(l:List Fd)(i:Nat):List Fd:=(l.take i).filter (vc t)
def bhc(t:Tbl)(l:List Fd):List Fd:=l.filter (vc t)
end
section
section
variable {κ:Type}[DecidableEq κ][Inhabited κ]
def ci(g:List (κ×List Nat))(k:κ):Nat:=g.findIdx fun x=>decide (x.1=k)
def ig(g:List (κ×List Nat))(k:κ)(i:Nat):List (κ×List Nat):=if ci g k<g.length then g.modify (ci g k) (fun x=>(x.1,x.2++[i]))else g++[(k,[i])]
def br(ks:List κ)(i:Nat):List (κ×List Nat):=(List.range i).foldl (fun g j=>ig g (ks.getD j default) j) []
def ap5(c:List Nat):Bool:=!decide (c.length<2)
def cz(ks:List κ):List (List Nat):=((br ks ks.length).map (·.2)).filter ap5
section
variable {ks:List κ}
def l5{i:Nat}:br ks (i+1)=ig (br ks i) (ks.getD i default) i:=by unfold br;rw[bjj,bj8];rfl
variable {g:List (κ×List Nat)}
def ax5 {k:κ} {i:Nat}:g.length<=(ig g k i).length/\(ig g k i).length<=g.length+1:=by
 unfold ig;split
 · simp
 simp
def a1l:∀{i:Nat},(br ks i).length<=i
 |0=>bil _
 | i+1=>by
  have:(br ks i).length<=i:=a1l;have:=(ax5 (g:=br ks i) (k:=ks.getD i default) (i:=i)).2;rw[l5];omega
def ax0{k:κ}{i m:Nat}(h:∀x∈g,x.2.length<=m):∀x∈ig g k i,x.2.length<=m+1:=by
 unfold ig;split
 · intro x hx
   obtain⟨j,hj,e⟩:=bj7 hx;have hj2:j<g.length:=by simpa using hj
   rw[List.getElem_modify]at e;have hm:=h (g[j]'hj2) (bin hj2);split at e
   · subst e;simp;exact hm
   subst e;omega
 intro x hx
 rcases bj1.1 hx with hx|hx
 · have:=h x hx;omega
 simp at hx;subst hx;simp
def ahw:∀{i:Nat},∀x∈br ks i,x.2.length<=i
 |0=>fun x hx=>by simp[br]at hx
 |i+1=>by rw[l5];exact ax0 ahw
end
end
structure Prt where
 rows:Int
 cls:List (List Nat)
instance:Inhabited Prt:=⟨⟨0,[]⟩⟩
theorem Prt.eq_iff{a b:Prt}:a=b<->a.rows=b.rows/\a.cls=b.cls:=by cases a;cases b;simp
instance:DecidableEq Prt:=fun a b=>decidable_of_iff _ (Prt.eq_iff (a:=a) (b:=b)).symm
def ilC (l:List Nat):Nat->PV
 |0=>il l
 |_=>.any
abbrev ill(l:List (List Nat)):PV:=psl 1 ilC l
def Prt.c (p:Prt):Nat->PV
 |0=>.raw (.int .i64 p.rows)
 |1=>ill p.cls
 |_=>.any
abbrev Prt.pc(p:Prt):PC:=.agg [p.c 0,p.c 1]
def snT(p:Prt)(k j:Nat):List Bool:=(List.range p.rows.toNat).map fun i=>decide (i∈(p.cls.take k).flatten++(p.cls.getD k default).take j)
def acu(c:List Nat)(j:Nat):Int:=if j=0 then -1 else((c.getD (j-1) default:Nat):Int)
def a8y(p:Prt)(k:Nat):Int:=if k=0 then -1 else(((p.cls.getD (k-1) default).getD 0 default:Nat):Int)
def av8(p:Prt)(k j:Nat):Bool:=decide (acu (p.cls.getD k default) j<(((p.cls.getD k default).getD j default:Nat):Int))&&decide ((((p.cls.getD k default).getD j default:Nat):Int)<p.rows)&&!decide ((p.cls.getD k default).getD j default∈(p.cls.take k).flatten++(p.cls.getD k default).take j)
def a86(p:Prt)(k:Nat):Bool:=!decide ((p.cls.getD k default).length<2)&&decide (a8y p k<(((p.cls.getD k default).getD 0 default:Nat):Int))&&(List.range (p.cls.getD k default).length).all (av8 p k)
def f7(p:Prt):Bool:=decide (0<=p.rows)&&decide (p.rows<=1000)&&(List.range p.cls.length).all (a86 p)
def v7(n:Nat)(l:List Int)(c:List Nat):List Int:=c.foldl (fun l i=>l.set i (n:Int)) l
def a2c(m:Nat):List Int:=(List.range m).map fun(i:Nat)=>-1-(i:Int)
def gl(p:Prt)(k:Nat):List Int:=(List.range k).foldl (fun l n=>v7 n l (p.cls.getD n default)) (a2c p.rows.toNat)
def ap(p:Prt):List Int:=gl p p.cls.length
section
variable {k:Nat}{p:Prt}
def ye:gl p (k+1)=v7 k (gl p k) (p.cls.getD k default):=by unfold gl;rw[bjj,bj8];rfl
def a88 {n:Nat}:∀{c:List Nat} {l:List Int},(v7 n l c).length=l.length
 | [],_=>rfl
 | i::c,l=>by
  show(v7 n (l.set i (n:Int)) c).length=_;rw[a88,bkq]
def gu:∀{k:Nat},(gl p k).length=p.rows.toNat
 |0=>by simp[gl,a2c]
 |k+1=>by rw[ye,a88,gu]
def x6(p:Prt)(k j:Nat):List Int:=v7 k (gl p k) ((p.cls.getD k default).take j)
def af0:x6 p k 0=gl p k:=rfl
def aeo {j:Nat} (h:j<(p.cls.getD k default).length):x6 p k (j+1)=(x6 p k j).set ((p.cls.getD k default).getD j default) (k:Int):=by
 unfold x6 v7;rw[ar h,bj8];rfl
def aja:x6 p k (p.cls.getD k default).length=gl p (k+1):=by unfold x6;rw[biz,ye]
def a30{j:Nat}:(x6 p k j).length=p.rows.toNat:=by unfold x6;rw[a88,gu]
def awr(a b:Prt):List (Int×Int):=(List.range a.rows.toNat).map fun i=>((ap a).getD i default,(ap b).getD i default)
def aw3(a b:Prt):Prt:=⟨a.rows,cz (awr a b)⟩
def wz(p:Prt)(k:Nat):Int:=(p.cls.take k).foldl (fun n c=>n-((c.length:Int)-1)) p.rows
def ap4(p:Prt):Int:=wz p p.cls.length
def af6 (h:k<p.cls.length):wz p (k+1)=wz p k-(((p.cls.getD k default).length:Int)-1):=by
 unfold wz;rw[ar h,bj8];rfl
end
end
section
open Go.RowKit
structure ExF (kk:KK) (n:Nat) (f:MK->Option PV) (es:Array MapEntry) (clock:Nat):Prop where
 st:Go.MapKept.Stamped es clock
 le:es.size<=n
 mx:es.size<=maxLen
 to:∀x∈es.toList,∃key v,x.key=key.val/\f key=some (.raw v)/\x.val=v/\v.oneCell'=true
 of:∀key y,f key=some y->MK.ok kk key/\∃x∈es.toList,x.key=key.val
structure Vis (es:Array MapEntry) (seen:Array Nat) (vs:List MK):Prop where
 nod:vs.Nodup
 inn:∀k∈vs,∃x∈es.toList,x.key=k.val/\seen.contains x.born=true
 all:∀x∈es.toList,seen.contains x.born=true->∃k∈vs,x.key=k.val
section
variable {kk:KK}{n:Nat}{f:MK->Option PV}{es:Array MapEntry}{clock:Nat}{seen:Array Nat}{vs:List MK}{e:MapEntry}{key:MK}
end
section
variable {nt:Nat}{st:HSt}
end
abbrev itO(bi b clock:Nat)(seen:Array Nat):ae:=.ex 2 (.pointer (some ⟨bi,0,none⟩)) bi (.mapIter (some b) clock seen clock)
abbrev mpO(b:Nat)(es:Array MapEntry)(clock:Nat):ae:=.ex 0 (.map (some b)) b (.map es clock)
section
variable {P:Program}{nt:Nat}{ops:Array Oper}{st:HSt}
def b4i (st:HSt) (d:Nat) (x:HR):HSt.den ⟨(d,some x)::st.t,st.o⟩=st.den.putD (some d) (some x):=by
 unfold HSt.den S.putD S.put;simp[ay]
def a9y {k d:Nat} {o:Oper} {L:List Nat} {Q:HSt->Prop} (hi:ops[k]? = some o) (hg:o.guard=none) (hd:o.dst=some d) (hdn:c7 nt (some d)=true) (hnd:∀c,o.op≠.defer c)
 (h:∀w0 a w c,ai w0 nt c st.den a w->∃v w' o' x c',c'.old=c.old/\(execOp a.eval o).run P w=.ok (.value v) w'/\ai w0 nt c' (HSt.den ⟨st.t,o'⟩) a w'/\al c' (HSt.den ⟨st.t,o'⟩).o x v/\RN P nt ops L ⟨(d,some x)::st.t,o'⟩ Q):RN P nt ops (k::L) st Q:=fun ro n w0 m0 a w QQ ⟨c,hold,hr⟩ hQ=>by
 obtain⟨v,w',o',x,c',h1,h2,h3,h4,h5⟩:=h w0 a w c hr;rw[wpOpsIn_cons];unfold wpOpIn;simp only[hi];have hw:Region.wanted o (yielded ops a.tmps)=true:=by unfold Region.wanted;rw[hg]
 rw[if_pos hw];refine zp hnd ?_;unfold Oper.wp;rw[h2];refine h5 ro n w0 m0 _ w' QQ ⟨c',h1.trans hold, ?_⟩ hQ;rw[hd,b4i ⟨st.t,o'⟩ d x];exact h3.putD (some d) (fun k hk=>by cases hk;exact of_decide_eq_true hdn) (some x) v fun y hy=>by cases hy;exact h4
variable {k:Nat}{o:Oper}{L:List Nat}{Q:HSt->Prop}{x:Operand}{mid j b clock d bi id n:Nat}{es:Array MapEntry}{seen:Array Nat}{kk:KK}{f:MK->Option PV}
def ago {w0:World} {c:Ctx} {s:S} {a:Act} {w:World} (h:ai w0 nt c s a w) {v:Value} {y:Obj} {dd:Nat} (hx:ev s x=some (.v (.one (.ref mid j)))) (hm:s.o mid=some (.ex dd v b y)):a.eval x=v/\w.heap[b]? = some y:=by
 obtain⟨h1,h2,h3,h4,h5⟩:=h.objs mid _ hm;have hu:b9 c s.o (.ref mid j) (a.eval x):=af h hx;obtain⟨_,_,hu⟩:=hu;have h6:=hu _ _ _ _ hm rfl;exact⟨(h6.2 bmq).trans h1,h4⟩
end
end
section
open Go.RowKit
def bfz(f:MK->Option PV)(m:MK):MK->Option PV:=fun k=>bif k.same m then none else f k
section
variable {P:Program}{E:Env}{nt:Nat}{ops:Array Oper}{st:HSt}
def b8y{k:Nat}{o:Oper}{L:List Nat}{Q:HSt->Prop}(hi:ops[k]? = some o)(hg:o.guard=none)(hdn:c7 nt o.dst=true)(hnd:∀c,o.op≠.defer c)
 (h:∀w0 a w c,ai w0 nt c st.den a w->∃y w' o' c',c'.old=c.old/\(execOp a.eval o).run P w=.ok y w'/\(y=.skip\/∃v,y=.value v)/\ai w0 nt c' (HSt.den ⟨st.t,o'⟩) a w'/\RN P nt ops L ⟨(match o.dst with|some d=>[(d,none)]|none=>[])++st.t,o'⟩ Q):RN P nt ops (k::L) st Q:=fun ro n w0 m0 a w QQ ⟨c,hold,hr⟩ hQ=>by
 obtain⟨y,w',o',c',h1,h2,hy,h3,h5⟩:=h w0 a w c hr;rw[wpOpsIn_cons];unfold wpOpIn;simp only[hi];have hw:Region.wanted o (yielded ops a.tmps)=true:=by unfold Region.wanted;rw[hg]
 rw[if_pos hw];refine zp hnd ?_;unfold Oper.wp;rw[h2]
 rcases hy with rfl|⟨v,rfl⟩
 · refine h5 ro n w0 m0 _ w' QQ ⟨c',h1.trans hold, ?_⟩ hQ
   cases hdd:o.dst with
   |none=>exact h3
   | some d =>
    have e:HSt.den ⟨[(d,none)]++st.t,o'⟩=(HSt.den ⟨st.t,o'⟩).putD (some d) none:=by
     unfold HSt.den S.putD S.put;simp[ay]
    rw[e];exact h3.putD (some d) (fun k hk=>by cases hk;rw[hdd]at hdn;exact of_decide_eq_true hdn) none undef (fun y hy=>by cases hy)
 refine h5 ro n w0 m0 _ w' QQ ⟨c',h1.trans hold, ?_⟩ hQ
 cases hdd:o.dst with
 |none=>exact h3
 | some d =>
  have e:HSt.den ⟨[(d,none)]++st.t,o'⟩=(HSt.den ⟨st.t,o'⟩).putD (some d) none:=by
   unfold HSt.den S.putD S.put;simp[ay]
  rw[e];exact h3.putD (some d) (fun k hk=>by cases hk;rw[hdd]at hdn;exact of_decide_eq_true hdn) none v (fun y hy=>by cases hy)
end
section
variable {P:Program}{E:Env}{nt:Nat}{ops:Array Oper}{st:HSt}{k:Nat}{o:Oper}{L:List Nat}{Q:HSt->Prop}
end
end
section
open Go.RowKit
section
variable {w0:World}{nt:Nat}{c:Ctx}{s:S}{a:Act}{w:World}
theorem ai.redo (h:ai w0 nt c s a w) (D:Nat->Prop) (own':Nat->Value) (blk':Nat->Nat->Prop) (rows':Nat->Nat->Value) (o':am)
 (hD:∀q,D q->q<1000) (hs:∀q,¬D q->o' q=s.o q/\own' q=c.own q/\blk' q=c.blk q/\rows' q=c.rows q)
 (he:∀q,D q->((∀d x,s.t d=some x->¬x.men q)/\∀id ob,¬D id->s.o id=some ob->¬ob.men q)\/Evo c s.o { old:=c.old,imm:=c.imm,tab:=c.tab,own:=own',blk:=blk',rows:=rows' } o' q)
 (hob:∀q ob,D q->o' q=some ob->df 0 { old:=c.old,imm:=c.imm,tab:=c.tab,own:=own',blk:=blk',rows:=rows' } o' w q ob)
 (hfrom:∀q ob b,D q->o' q=some ob->blk' q b->∃q0 ob0,D q0/\s.o q0=some ob0/\c.blk q0 b)
 (hin:∀q q' ob ob' b,D q->D q'->o' q=some ob->o' q'=some ob'->blk' q b->blk' q' b->q=q') :
 ai w0 nt { old:=c.old,imm:=c.imm,tab:=c.tab,own:=own',blk:=blk',rows:=rows' } ⟨s.t,o'⟩ a w:=by
 have hevo:∀q,¬D q->Evo c s.o { old:=c.old,imm:=c.imm,tab:=c.tab,own:=own',blk:=blk',rows:=rows' } o' q:=fun q hq=>by
  obtain⟨h1,h2,h3,h4⟩:=hs q hq;exact Evo.of_same h1 h2 h4
 refine⟨h.defers,h.size,h.below,fun d x hx=>?_,fun q ob hq=>?_,fun q q' ob ob' b hq hq' hb hb'=>?_,h.imm,fun q ob b hq hb=>?_,h.was,h.frm,fun q ob b hq hb=>?_,fun q hq=>?_⟩
 · refine (h.tmps d x hx).evo (Imm.le.refl c.imm) fun q hm=>?_
   grind
 · by_cases hd:D q
   · grind
   obtain⟨h1,h2,h3,h4⟩:=hs q hd;have hq:o' q=some ob:=hq;rw[h1]at hq;refine(h.objs q ob hq).keep (Imm.le.refl c.imm) h2 h3 (fun j hj=>?_) (fun b hb=>rfl) h4
   grind
 · have hq:o' q=some ob:=hq
   have hq':o' q'=some ob':=hq'
   have cross:∀q q' ob ob',D q->¬D q'->o' q=some ob->o' q'=some ob'->blk' q b->blk' q' b->False:=fun q q' ob ob' hd hd' hq hq' hb hb'=>by
    obtain⟨q0,ob0,h1,h2,h3⟩:=hfrom q ob b hd hq hb;obtain⟨h4,_,h5,_⟩:=hs q' hd';rw[h4]at hq';rw[h5]at hb';have:=h.inj q0 q' ob0 ob' b h2 hq' h3 hb'
    grind
   by_cases hd:D q
   · grind
   by_cases hd':D q'
   · grind
   obtain⟨h1,_,h3,_⟩:=hs q hd;obtain⟨h1',_,h3',_⟩:=hs q' hd';rw[h1]at hq;rw[h1']at hq';simp only[h3]at hb;simp only[h3']at hb';exact h.inj q q' ob ob' b hq hq' hb hb'
 · have hq:o' q=some ob:=hq
   by_cases hd:D q
   · obtain ⟨q0,ob0,_,h2,h3⟩:=hfrom q ob b hd hq hb
     exact h.sep q0 ob0 b h2 h3
   obtain⟨h1,_,h3,_⟩:=hs q hd;rw[h1]at hq;simp only[h3]at hb;exact h.sep q ob b hq hb
 · have hq:o' q=some ob:=hq
   by_cases hd:D q
   · obtain ⟨q0,ob0,_,h2,h3⟩:=hfrom q ob b hd hq hb
     exact h.fsep q0 ob0 b h2 h3
   obtain⟨h1,_,h3,_⟩:=hs q hd;rw[h1]at hq;simp only[h3]at hb;exact h.fsep q ob b hq hb
 have:¬D q:=fun hd=>by have:=hD q hd;omega
 exact(h.fixed q hq).trans (hevo q this)
structure ajo (et:TypeId) (es n r:Nat) (m:Nat->Nat) (g:Nat->Nat->Nat->PV) (hd:Nat->Value) (B:Nat->Option Obj):Prop where
 pos:0<es
 len:n<=maxLen
 row:∀i,i<n->i≠r->(m i=0/\∃a,hd i=.slice a 0 0)\/∃b cap cur,hd i=.slice (some ⟨b,0,none⟩) (m i) cap/\au (hd i)=some b/\B b=some (.cells cur et (0,0))/\m i<=cap/\cap<=maxLen/\cur.size=cap*es /\
  ∀q j,q<m i->j<es->∃x,(cur.toList.take (m i*es))[q*es+j]? = some x/\g i q j=.raw x/\x.oneCell'=true
 apart:∀i i' b,i<n->i≠r->i'<n->i'≠r->au (hd i)=some b->au (hd i')=some b->i'=i
 blk:∀b,B b≠none->∃i,i<n/\i≠r/\au (hd i)=some b
def hdF(hd:Nat->Value)(id' r k:Nat):Nat->Nat->HV:=fun i _=>bif Nat.beq i r then .ref id' k else .p (.raw (hd i))
def uk(hd:Nat->Value)(id' r k j:Nat):hdF hd id' r k r j=.ref id' k:=by simp[hdF]
def a02 {hd:Nat->Value} {id' r k i j:Nat} (h:i≠r):hdF hd id' r k i j=.p (.raw (hd i)):=by
 have:Nat.beq i r=false:=by rw[bj5];exact fun hb=>h (bjh hb)
 simp[hdF,this]
def ay4{imm:Imm}{s':Nat}{f:Nat->Nat->PV}{a:Option Addr}:aq imm (.sl 0 s' true f) (.slice a 0 0):=⟨a,0,rfl,bil _,bio _,fun _=>rfl,fun h=>absurd h (bl7 0)⟩
section
variable {et:TypeId}{g:Nat->Nat->Nat->PV}{m:Nat->Nat}
theorem ai.split(h:ai w0 nt c s a w){id id' idb r n:Nat}{e:TypeId}{es:Nat}(ho:s.o id=some (.nest e et es n m g none))(hid:id<1000)(hr:r<n)(hraw:∀i q j,i<n->q<m i->j<es->∃v,g i q j=.raw v)(hm':NM s id')(hn':s.o id'=none)(hmb:NM s idb)(hnb:s.o idb=none)(hne:id'≠idb):
 ∃hd B c',ajo et es n r m g hd B/\c'.old=c.old/\ai w0 nt c' ⟨s.t,fun q=>if q=idb then some (.bun B)else if q=id' then some (.arr true es et (m r) (g r))else if q=id then some (.arrh 1 e n [id'] (hdF hd id' r (m r)))else s.o q⟩ a w:=by
 classical
 have hnk:jt 0 c s.o w id e et es n m g none:=h.objs id _ ho;have hid':id'≠id:=by rintro rfl;rw[ho]at hn';cases hn'
 have hidb:idb≠id:=by rintro rfl;rw[ho]at hnb;cases hnb
 let hd:Nat->Value:=fun i=>c.rows id i
 let B:Nat->Option Obj:=fun b=>if ∃i,i<n/\i≠r/\au (c.rows id i)=some b then w.heap[b]? else none
 have hB:∀i b,i<n->i≠r->au (c.rows id i)=some b->B b=w.heap[b]?:=fun i b h1 h2 h3=>if_pos ⟨i,h1,h2,h3⟩;have hlen:=hnk.len;simp only[lz]at hlen
 have hbf:ajo et es n r m g hd B:=by
  refine⟨hnk.pos,by omega,fun i hi hir=>?_,fun i i' b h1 h2 h3 h4 h5 h6=>(hnk.apart i b h1 h5).2 i' h3 h6,fun b hb=>?_⟩
  · rcases hnk.row i hi with r0|⟨ys,r1,r2⟩
    · exact .inl r0
    rcases en r1 with r0|⟨b,cap,rv,rb⟩
    · exact .inl r0
    rcases r1.2 with⟨hv,_⟩|⟨b',cap',cur,hv,_,hh,q1,q2,q3,q4⟩
    · grind
    rw[rv]at hv;simp only[Value.slice.injEq,bij,Addr.mk.injEq,and_true,true_and]at hv;obtain⟨rfl,rfl⟩:=hv;refine .inr ⟨b,cap,cur,rv,rb,(hB i b hi hir rb).trans hh,q1,q2,q3,fun q j hq hj=>?_⟩;obtain⟨x,hx,hxr⟩:=r2 q j hq hj;obtain⟨v,hv⟩:=hraw i q j hi hq hj;rw[hv]at hxr;obtain⟨e1,e2⟩:=hxr
    grind
  grind
 obtain ⟨xt,t1,t2,_⟩:∃xs,w.ownsRow 0 e 1 (c.own id) (n+lz none) xs/\(∀i,i<n->xs[i]? = some (c.rows id i))/\∀p,(none:Option (Nat×Nat))=some p->∃x,xs[n]? = some x/\b9 c s.o (.ref p.1 p.2) x:=by
  rcases hnk.top with⟨h1,_⟩|h1
  · grind
  exact h1
 have t1:w.ownsRow 0 e 1 (c.own id) n xt:=t1
 obtain ⟨bt,capt,ht0,htc⟩:∃b cap,c.own id=.slice (some ⟨b,0,none⟩) n cap/\au (c.own id)=some b:=by
  rcases en t1 with⟨h1,_⟩|h1
  · omega
  exact h1
 have hbs:∀b,dx (c.own id) b<->b=bt:=fun b=>by rw[ht0];simp[dx,c6,eq_comm]
 have hrow1:∀i,i<n->(c.rows id i).oneCell'=true:=fun i hi=>by
  rcases hnk.row i hi with⟨_,x,h1⟩|⟨ys,h1,_⟩
  · rw[h1];rfl
  rcases h1.2 with⟨h1,_⟩|⟨_,_,_,h1,_⟩<;>(rw[h1];rfl)
 let blr:Nat->Prop:=fun b=>au (c.rows id r)=some b
 let own':Nat->Value:=fun q=>if q=id' then c.rows id r else c.own q
 let blk':Nat->Nat->Prop:=fun q=>if q=idb then(fun b=>B b≠none)else if q=id' then blr else if q=id then dx (c.own id)else c.blk q
 let o':am:=fun q=>if q=idb then some (.bun B)else if q=id' then some (.arr true es et (m r) (g r))else if q=id then some (.arrh 1 e n [id'] (hdF hd id' r (m r)))else s.o q
 have ob1:o' idb=some (.bun B):=if_pos rfl;have ob2:o' id'=some (.arr true es et (m r) (g r)):=by show(if id'=idb then _ else if id'=id' then _ else _)=_;rw[if_neg hne,if_pos rfl]
 have ob3:o' id=some (.arrh 1 e n [id'] (hdF hd id' r (m r))):=by show(if id=idb then _ else if id=id' then _ else if id=id then _ else _)=_;rw[if_neg (Ne.symm hidb),if_neg (Ne.symm hid'),if_pos rfl]
 have bk1:blk' idb=fun b=>B b≠none:=if_pos rfl;have bk2:blk' id'=blr:=by show(if id'=idb then _ else if id'=id' then _ else _)=_;rw[if_neg hne,if_pos rfl]
 have bk3:blk' id=dx (c.own id):=by show(if id=idb then _ else if id=id' then _ else if id=id then _ else _)=_;rw[if_neg (Ne.symm hidb),if_neg (Ne.symm hid'),if_pos rfl]
 have ow2:own' id'=c.rows id r:=if_pos rfl;have ow3:own' id=c.own id:=if_neg (Ne.symm hid')
 have hDc:∀q,(q=id\/q=id'\/q=idb)->∀ob,o' q=some ob->∀b,blk' q b->c.blk id b:=fun q hq ob hob b hb=>by
  rcases hq with rfl|rfl|rfl
  · rw [bk3]at hb
    exact(hnk.blks b).2 (.inl (by rw[(hbs b).1 hb];exact htc))
  · rw [bk2]at hb
    exact(hnk.blks b).2 (.inr ⟨r,hr,hb⟩)
  rw[bk1]at hb;obtain⟨i,h1,h2,h3⟩:=hbf.blk b hb;exact(hnk.blks b).2 (.inr ⟨i,h1,h3⟩)
 refine⟨hd,B,{ old:=c.old,imm:=c.imm,tab:=c.tab,own:=own',blk:=blk',rows:=c.rows },hbf,rfl,h.redo (fun q=>q=id\/q=id'\/q=idb) own' blk' c.rows o' ?_ ?_ ?_ ?_ ?_ ?_⟩
 · rintro q (rfl|rfl|rfl)
   · exact hid
   · exact hm'.2.2
   exact hmb.2.2
 · grind
 · rintro q (rfl|rfl|rfl)
   · exact .inr (.inr (.inr ⟨_,_,1,e,n,n,ho,rfl,ob3,rfl,bil _,fun _=>ow3,fun _ _ _ _ _ _ _ hb=>by cases hb⟩))
   · exact .inl ⟨hm'.1,fun id0 ob _ h0=>hm'.2.1 id0 ob h0⟩
   exact .inl ⟨hmb.1,fun id0 ob _ h0=>hmb.2.1 id0 ob h0⟩
 · rintro q ob (rfl|rfl|rfl) hq
   · rw [ob3]at hq
     cases hq;refine⟨Nat.one_pos,by omega,fun i j k hi hj hk=>?_, .inl ⟨by show blk' q=dx (own' q);rw[bk3,ow3],xt,by show w.ownsRow 0 e 1 (own' q) n xt;rw[ow3];exact t1,fun i j hi hj=>?_⟩⟩
     · by_cases hir:i=r
       · subst hir;rw[uk]at hk;simp only[HV.men]at hk;simp[hk]
       rw[a02 hir]at hk;exact hk.elim
     obtain rfl:j=0:=by omega
     refine⟨c.rows q i,by rw[bll,bkh];exact t2 i hi, ?_⟩;by_cases hir:i=r
     · subst hir
       rw[uk];refine⟨hrow1 i hi,fun l hl=>?_,fun ob0 s0 e0 n0 ho0 hd0=>?_⟩
       · grind
       rw[ob2]at ho0;cases ho0;simp only[ae.dim,bij,bim]at hd0
       grind
     rw[a02 hir];exact⟨rfl,hrow1 i hi⟩
   · rw [ob2]at hq
     cases hq;refine⟨hnk.pos,hnk.lens r hr, ?_⟩
     have hemp:(m r=0/\∃x,c.rows id r=.slice x 0 0)->(true=false\/m r=0)/\blk' q=noB/\aq c.imm (.sl (m r) es true (g r)) (own' q):=fun⟨h1,x,h2⟩=>by
      refine⟨.inr h1, ?_, ?_⟩
      · rw [bk2]
        funext b;show(au (c.rows id r)=some b)=False;rw[h2];cases x<;>simp[au]
      rw[ow2,h2,h1];exact ay4
     rcases hnk.row r hr with r0|⟨ys,r1,r2⟩
     · grind
     rcases en r1 with r0|⟨b,cap,rv,rb⟩
     · grind
     have hb2:blk' q=dx (own' q):=by
      rw[bk2];funext b';show(au (c.rows id r)=some b')=(c6 (own' q)=some b');rw[ow2,rb,rv];rfl
     grind
   rw[ob1]at hq;cases hq;refine⟨fun b hb=>by have hb:blk' q b:=hb;rw[bk1]at hb;exact hb,fun b x hx=>?_⟩;have hne2:B b≠none:=fun e=>by rw[e]at hx;cases hx
   obtain⟨i,h1,h2,h3⟩:=hbf.blk b hne2;have hc:c.blk id b:=(hnk.blks b).2 (.inr ⟨i,h1,h3⟩);rw[hB i b h1 h2 h3]at hx;obtain⟨y,hy,hyd⟩:=(h.objs id _ ho).data hc
   grind
 · intro q ob b hq hob hb
   exact⟨id,_, .inl rfl,ho,hDc q hq ob hob b hb⟩
 have x12:∀b,blk' id b->blk' id' b->False:=fun b h1 h2=>by
  rw[bk3]at h1;rw[bk2]at h2;exact(hnk.apart r b hr h2).1 (by rw[(hbs b).1 h1];exact htc)
 have x13:∀b,blk' id b->blk' idb b->False:=fun b h1 h2=>by
  rw[bk3]at h1;rw[bk1]at h2;obtain⟨i,q1,q2,q3⟩:=hbf.blk b h2;exact(hnk.apart i b q1 q3).1 (by rw[(hbs b).1 h1];exact htc)
 have x23:∀b,blk' id' b->blk' idb b->False:=fun b h1 h2=>by
  rw[bk2]at h1;rw[bk1]at h2;obtain⟨i,q1,q2,q3⟩:=hbf.blk b h2;exact q2 ((hnk.apart r b hr h1).2 i q1 q3)
 rintro q q' ob ob' b (rfl|rfl|rfl) (rfl|rfl|rfl) _ _ hb hb'
 · rfl
 · simp_all
 · simp_all
 · simp_all
 · rfl
 · grind
 · simp_all
 · grind
 rfl
def ai.join(h:ai w0 nt c s a w){id id' idb id2 r n k:Nat}{e:TypeId}{es:Nat}{ms:List Nat}{f:Nat->Nat->HV}{ff:Nat->Nat->PV}{hd:Nat->Value}{B:Nat->Option Obj}(ho:s.o id=some (.arrh 1 e n ms f))(ho':s.o id'=some (.arr true es et k ff))(hob:s.o idb=some (.bun B))(hbf:ajo et es n r m g hd B)(hr:r<n)(hfr:f r 0=.ref id' k)(hfi:∀i,i<n->i≠r->f i 0=.p (.raw (hd i)))(hid:id<1000)(hid':id'<1000)(hidb:idb<1000)(hm2:NM s id2)(hn2:s.o id2=none):
 ∃c',c'.old=c.old/\c'.own id2=c.own id/\ai w0 nt c' ⟨s.t,fun q=>if q=id2 then some (.nest e et es n (fc m r k) (fb g r ff) none)else if q=id\/q=id'\/q=idb then none else s.o q⟩ a w:=by
 have x1:id'≠id:=by rintro rfl;rw[ho]at ho';cases ho'
 have x2:idb≠id:=by rintro rfl;rw[ho]at hob;cases hob
 have x3:idb≠id':=by rintro rfl;rw[ho']at hob;cases hob
 have y1:id2≠id:=by rintro rfl;rw[ho]at hn2;cases hn2
 have y2:id2≠id':=by rintro rfl;rw[ho']at hn2;cases hn2
 have y3:id2≠idb:=by rintro rfl;rw[hob]at hn2;cases hn2
 obtain⟨_,_,_,h5⟩:=h.objs id _ ho
 obtain ⟨h6,xt,t1,t2⟩:c.blk id=dx (c.own id)/\∃xs,w.ownsRow 0 e 1 (c.own id) n xs/\∀i j,i<n->j<1->∃x,xs[i*1+j]? = some x/\b9 c s.o (f i j) x:=by
  rcases h5 with h5|⟨h5,_⟩
  · exact h5
  omega
 obtain⟨q0,q1,q5⟩:=h.objs id' _ ho';obtain⟨b1,b2⟩:=h.objs idb _ hob
 obtain ⟨bt,capt,ht0,htc⟩:∃b cap,c.own id=.slice (some ⟨b,0,none⟩) n cap/\au (c.own id)=some b:=by
  rcases en t1 with⟨h1,_⟩|h1
  · omega
  exact h1
 have hct:c.blk id bt:=by rw[h6,ht0];rfl
 let rws:Nat->Value:=fun i=>if i=r then c.own id' else hd i
 have rr:rws r=c.own id':=if_pos rfl;have rn:∀i,i≠r->rws i=hd i:=fun i hi=>if_neg hi
 have hcr:∀b,au (c.own id')=some b->c.blk id' b:=fun b hb=>by
  rcases q5 with⟨q6,_⟩|⟨q7,_,q8⟩
  · rw[q6];exact a52 hb
  obtain⟨ad,cap,r1,_,_,r4,_⟩:=q8
  rcases q7 with q7|q7
  · cases q7
  subst q7;rw[r1,r4 rfl]at hb;cases ad<;>simp[au]at hb
 have hrow:(k=0/\∃a,c.own id'=.slice a 0 0)\/∃ys,w.ownsRow 0 et es (c.own id') k ys/\∀r j,r<k->j<es->∃x,ys[r*es+j]? = some x/\aq c.imm (ff r j) x:=by
  rcases q5 with⟨_,xs,q7,q8⟩|⟨q6,_,q8⟩
  · exact .inr ⟨xs,q7,q8⟩
  rcases q6 with q6|q6
  · cases q6
  subst q6;exact .inl ⟨rfl,a2h q8⟩
 have hrows:∀i,i<n->xt[i]? = some (rws i):=fun i hi=>by
  obtain⟨x,hx,hxr⟩:=t2 i 0 hi bmq;rw[bll,bkh]at hx;by_cases hir:i=r
  · subst hir
    rw[hfr]at hxr;rw[rr,hx,(hxr.2.2 _ _ _ _ ho' rfl).2 rfl]
  rw[hfi i hi hir]at hxr;rw[rn i hir,hx,hxr.1]
 have hcb:∀i b,i<n->i≠r->au (hd i)=some b->c.blk idb b:=fun i b hi hir hb=>by
  rcases hbf.row i hi hir with⟨_,x,h1⟩|⟨b',cap,cur,h1,h2,h3,_⟩
  · rw[h1]at hb;cases x<;>simp[au]at hb
  rw[h2]at hb;cases hb;exact(b2 _ _ h3).1
 let bk:Nat->Prop:=fun b=>au (c.own id)=some b\/∃i,i<n/\au (rws i)=some b
 have hfrom:∀b,bk b->c.blk id b\/c.blk id' b\/c.blk idb b:=fun b hb=>by
  rcases hb with hb|⟨i,hi,hb⟩
  · rw [htc]at hb
    cases hb;exact .inl hct
  by_cases hir:i=r
  · subst hir;rw[rr]at hb;exact .inr (.inl (hcr b hb))
  rw[rn i hir]at hb;exact .inr (.inr (hcb i b hi hir hb))
 let own':Nat->Value:=fun q=>if q=id2 then c.own id else c.own q
 let blk':Nat->Nat->Prop:=fun q=>if q=id2 then bk else c.blk q
 let rows':Nat->Nat->Value:=fun q=>if q=id2 then rws else c.rows q
 let o':am:=fun q=>if q=id2 then some (.nest e et es n (fc m r k) (fb g r ff) none)else if q=id\/q=id'\/q=idb then none else s.o q
 have o2:o' id2=some (.nest e et es n (fc m r k) (fb g r ff) none):=if_pos rfl
 have o1:∀q,(q=id\/q=id'\/q=idb)->o' q=none:=fun q hq=>by
  show(if q=id2 then _ else if q=id\/q=id'\/q=idb then none else s.o q)=none;rw[if_neg (by rcases hq with rfl|rfl|rfl<;>(intro e;first|exact y1 e.symm|exact y2 e.symm|exact y3 e.symm)),if_pos hq]
 have w2:own' id2=c.own id:=if_pos rfl;have k2:blk' id2=bk:=if_pos rfl;have s2:rows' id2=rws:=if_pos rfl;refine⟨{ old:=c.old,imm:=c.imm,tab:=c.tab,own:=own',blk:=blk',rows:=rows' },rfl,w2,h.redo (fun q=>q=id2\/q=id\/q=id'\/q=idb) own' blk' rows' o' ?_ ?_ ?_ ?_ ?_ ?_⟩
 · rintro q (rfl|rfl|rfl|rfl)
   · exact hm2.2.2
   · exact hid
   · exact hid'
   exact hidb
 · intro q hq
   have z1:q≠id2:=fun e=>hq (.inl e);refine⟨?_,if_neg z1,if_neg z1,if_neg z1⟩;show(if q=id2 then _ else if q=id\/q=id'\/q=idb then none else s.o q)=_;rw[if_neg z1,if_neg (fun e=>hq (.inr e))]
 · rintro q (rfl|hq)
   · exact .inl ⟨hm2.1,fun id0 ob _ h0=>hm2.2.1 id0 ob h0⟩
   exact .inr (.inl (o1 q hq))
 · rintro q ob (rfl|hq) hob'
   · rw [o2]at hob'
     cases hob';have hlenn:n<=maxLen:=hbf.len
     have apart:∀i b,i<n->au (rws i)=some b->au (c.own id)≠some b/\∀i',i'<n->au (rws i')=some b->i'=i:=fun i b hi hb=>by
      have own_i:(i=r/\c.blk id' b)\/(i≠r/\c.blk idb b):=by
       by_cases hir:i=r
       · subst hir;rw[rr]at hb;exact .inl ⟨rfl,hcr b hb⟩
       rw[rn i hir]at hb;exact .inr ⟨hir,hcb i b hi hir hb⟩
      refine⟨fun he=>?_,fun i' hi' hb'=>?_⟩
      · rw [htc]at he
        cases he
        rcases own_i with⟨_,h7⟩|⟨_,h7⟩
        · exact x1 (h.inj id' id _ _ _ ho' ho h7 hct)
        exact x2 (h.inj idb id _ _ _ hob ho h7 hct)
      by_cases hir:i=r
      · by_cases hir':i'=r
        · rw[hir,hir']
        rw[rn i' hir']at hb';have h7:=hcb i' b hi' hir' hb'
        rcases own_i with⟨_,h8⟩|⟨h8,_⟩
        · exact(x3 (h.inj idb id' _ _ b hob ho' h7 h8)).elim
        exact(h8 hir).elim
      by_cases hir':i'=r
      · subst hir'
        rw[rr]at hb';have h7:=hcr b hb'
        rcases own_i with⟨h8,_⟩|⟨_,h8⟩
        · exact(hir h8).elim
        exact(x3 (h.inj idb id' _ _ b hob ho' h8 h7)).elim
      rw[rn i hir]at hb;rw[rn i' hir']at hb';exact hbf.apart i i' b hi hir hi' hir' hb hb'
     have hlens:∀i,i<n->fc m r k i<=maxLen:=fun i hi=>by
      by_cases hir:i=r
      · subst hir;rw[qx];exact q1
      rw[qc hir]
      rcases hbf.row i hi hir with⟨h1,_⟩|⟨_,_,_,_,_,_,h1,h2,_⟩
      · omega
      omega
     have hrow2:∀i,i<n->(fc m r k i=0/\∃a,rws i=.slice a 0 0)\/∃ys,w.ownsRow 0 et es (rws i) (fc m r k i) ys/\∀q j,q<fc m r k i->j<es->∃x,ys[q*es+j]? = some x/\aq c.imm (fb g r ff i q j) x:=fun i hi=>by
      by_cases hir:i=r
      · subst hir
        rw[rr,qx,anb];exact hrow
      rw[rn i hir,qc hir,aj5 hir]
      rcases hbf.row i hi hir with h1|⟨b,cap,cur,h1,_,h3,h4,h6,h7,h8⟩
      · exact .inl h1
      have hh:=(b2 b _ h3).2.2.1;refine .inr ⟨cur.toList.take (m i*es),⟨?_, .inr ⟨b,cap,cur,h1,bio _,hh,h4,h6,h7,rfl⟩⟩,fun q j hq hj=>?_⟩
      · rw[bjc,bjm,h7,bjw (biy _ h4)]
      obtain⟨x,e1,e2,e3⟩:=h8 q j hq hj;exact⟨x,e1,by rw[e2];exact⟨rfl,e3⟩⟩
     refine⟨q0,by simpa [lz]using hlenn,hlens,fun b=>?_,fun i b hi hb=>?_,fun i hi=>?_, .inr ⟨xt, ?_,fun i hi=>?_,fun p hp=>by cases hp⟩⟩
     · show blk' q b<->(au (own' q)=some b\/∃i,i<n/\au (rows' q i)=some b)
       rw[k2,w2,s2]
     · have hb:au (rows' q i)=some b:=hb
       rw[s2]at hb;show au (own' q)≠some b/\∀i',i'<n->au (rows' q i')=some b->i'=i;rw[w2,s2];exact apart i b hi hb
     · show (fc m r k i=0/\∃a,rows' q i=.slice a 0 0)\/∃ys,w.ownsRow 0 et es (rows' q i) (fc m r k i) ys/\_
       rw[s2];exact hrow2 i hi
     · show w.ownsRow 0 e 1 (own' q) n xt
       rw[w2];exact t1
     show xt[i]? = some (rows' q i);rw[s2];exact hrows i hi
   rw[o1 q hq]at hob';cases hob'
 · rintro q ob b (rfl|hq) hob' hb
   · rw [k2]at hb
     rcases hfrom b hb with h7|h7|h7
     · exact⟨id,_, .inr (.inl rfl),ho,h7⟩
     · exact⟨id',_, .inr (.inr (.inl rfl)),ho',h7⟩
     exact⟨idb,_, .inr (.inr (.inr rfl)),hob,h7⟩
   rw[o1 q hq]at hob';cases hob'
 rintro q q' ob ob' b (rfl|hq) (rfl|hq') h7 h8 _ _
 · rfl
 · rw[o1 q' hq']at h8;cases h8
 · rw[o1 q hq]at h7;cases h7
 rw[o1 q hq]at h7;cases h7
theorem ai.renN (h:ai w0 nt c s a w) {id id2 n:Nat} {e:TypeId} {es:Nat} (ho:s.o id=some (.nest e et es n m g none)) (hid:id<1000) (hm2:NM s id2) (hn2:s.o id2=none):
 ∃c',c'.old=c.old/\c'.own id2=c.own id/\ai w0 nt c' ⟨s.t,fun q=>if q=id2 then some (.nest e et es n m g none)else if q=id then none else s.o q⟩ a w:=by
 have y1:id2≠id:=by rintro rfl;rw[ho]at hn2;cases hn2
 have hnk:jt 0 c s.o w id e et es n m g none:=h.objs id _ ho
 let own':Nat->Value:=fun q=>if q=id2 then c.own id else c.own q
 let blk':Nat->Nat->Prop:=fun q=>if q=id2 then c.blk id else c.blk q
 let rows':Nat->Nat->Value:=fun q=>if q=id2 then c.rows id else c.rows q
 let o':am:=fun q=>if q=id2 then some (.nest e et es n m g none)else if q=id then none else s.o q
 have o2:o' id2=some (.nest e et es n m g none):=if_pos rfl
 have o1:o' id=none:=by
  grind
 have w2:own' id2=c.own id:=if_pos rfl;have k2:blk' id2=c.blk id:=if_pos rfl;have s2:rows' id2=c.rows id:=if_pos rfl;refine⟨{ old:=c.old,imm:=c.imm,tab:=c.tab,own:=own',blk:=blk',rows:=rows' },rfl,w2,h.redo (fun q=>q=id2\/q=id) own' blk' rows' o' ?_ ?_ ?_ ?_ ?_ ?_⟩
 · rintro q (rfl|rfl)
   · exact hm2.2.2
   exact hid
 · grind
 · rintro q (rfl|rfl)
   · exact .inl ⟨hm2.1,fun id0 ob _ h0=>hm2.2.1 id0 ob h0⟩
   exact .inr (.inl o1)
 · rintro q ob (rfl|rfl) hob'
   · rw [o2]at hob'
     cases hob';obtain⟨p1,p2,p3,p4,p5,p6,p7⟩:=hnk;have z4:∀b,blk' q b<->(au (own' q)=some b\/∃i,i<n/\au (rows' q i)=some b):=by rw[k2,w2,s2];exact p4
     have z5:∀i b,i<n->au (rows' q i)=some b->au (own' q)≠some b/\∀i',i'<n->au (rows' q i')=some b->i'=i:=by rw[w2,s2];exact p5
     have z6:∀i,i<n->(m i=0/\∃a,rows' q i=.slice a 0 0)\/∃ys,w.ownsRow 0 et es (rows' q i) (m i) ys/\∀r j,r<m i->j<es->∃x,ys[r*es+j]? = some x/\aq c.imm (g i r j) x:=by rw[s2];exact p6
     have z7:(n+lz none=0/\∃a,own' q=.slice a 0 0)\/∃xs,w.ownsRow 0 e 1 (own' q) (n+lz none) xs/\∀i,i<n->xs[i]? = some (rows' q i):=by
      grind
     exact⟨p1,p2,p3,z4,z5,z6,z7.imp (fun z=>z) fun⟨xs,h1,h2⟩=>⟨xs,h1,h2,fun p hp=>by cases hp⟩⟩
   grind
 · grind
 grind
end
end
section
variable {ro:Option Nat}{P:Program}{nt:Nat}{st:HSt}{Q:Exit->HSt->Prop}{co:Code}
def o4 {t:List (Nat×Option HR)} {l:List (Nat×Option ae)} {o':am} (h:∀q,b6 l q=o' q):HSt.den ⟨t,l⟩=⟨(HSt.den ⟨t,l⟩).t,o'⟩:=by
 unfold HSt.den;congr 1;exact funext h
section
variable {e et:TypeId}{g:Nat->Nat->Nat->PV}{m:Nat->Nat}
def a7u (id r id' idb:Nat) {n:Nat} {es:Nat} (ho:b6 st.o id=some (.nest e et es n m g none)) (hr:r<n) (hraw:∀i q j,i<n->q<m i->j<es->∃v,g i q j=.raw v) (h:∀hd B,ajo et es n r m g hd B->HW (ro:=ro) P nt co ⟨st.t,(idb,some (.bun B))::(id',some (.arr true es et (m r) (g r)))::(id,some (.arrh 1 e n [id'] (hdF hd id' r (m r))))::st.o⟩ Q) (hid:Nat.blt id 1000=true:=by exact rfl) (h1:jx id' st=true:=by exact rfl) (h2:jx idb st=true:=by exact rfl) (hne:Nat.beq id' idb=false:=by exact rfl):HW (ro:=ro) P nt co st Q:=fun w0 m0 a w hr0=>by
 obtain⟨cc,hold,hrr⟩:=hr0;obtain⟨hm',hn'⟩:=dp h1;obtain⟨hmb,hnb⟩:=dp h2;have hne':id'≠idb:=by intro e;subst e;simp at hne
 obtain⟨hd,B,c',q1,q2,q3⟩:=hrr.split ho (by simpa [bl6]using hid) hr hraw hm' hn' hmb hnb hne';refine h hd B q1 w0 m0 a w ⟨c',q2.trans hold, ?_⟩;rw[o4 (o':=fun q=>if q=idb then some (.bun B)else if q=id' then some (.arr true es et (m r) (g r))else if q=id then some (.arrh 1 e n [id'] (hdF hd id' r (m r)))else st.den.o q) (fun q=>by simp only[ay];rfl)];exact q3
theorem a8x (d id id' idb id2:Nat) {r n n' k:Nat} {es:Nat} {ms:List Nat} {f:Nat->Nat->HV} {ff:Nat->Nat->PV} {hd:Nat->Value} {B:Nat->Option Obj} (hbf:ajo et es n r m g hd B) (hd0:b6 st.t d=some (.v (.one (.ref id n')))) (ho:b6 st.o id=some (.arrh 1 e n ms f)) (ho':b6 st.o id'=some (.arr true es et k ff)) (hob:b6 st.o idb=some (.bun B)) (hr:r<n) (hfr:f r 0=.ref id' k) (hfi:∀i,i<n->i≠r->f i 0=.p (.raw (hd i))) (h:HW (ro:=ro) P nt co ⟨(d,some (.v (.one (.ref id2 n))))::st.t,(id2,some (.nest e et es n (fc m r k) (fb g r ff) none))::(id,none)::(id',none)::(idb,none)::st.o⟩ Q) (hn:n'=n:=by exact rfl) (hid:(Nat.blt id 1000&&Nat.blt id' 1000&&Nat.blt idb 1000)=true:=by exact rfl) (h1:jx id2 st=true:=by exact rfl):HW (ro:=ro) P nt co st Q:=by
 subst hn;obtain⟨hm2,hn2⟩:=dp h1;simp only[biw,bl6]at hid;refine uh ⟨st.t,(id2,some (.nest e et es n' (fc m r k) (fb g r ff) none))::(id,none)::(id',none)::(idb,none)::st.o⟩ d (.v (.one (.ref id2 n'))) (fun w0 m0 a w hr0=>?_) h;obtain⟨cc,hold,hrr⟩:=hr0;obtain⟨c',q1,q2,q3⟩:=hrr.join ho ho' hob hbf hr hfr hfi hid.1.1 hid.1.2 hid.2 hm2 hn2;have hu:b9 cc st.den.o (.ref id n') (a.tmps.getD d undef):=hrr.tmps d _ hd0;have he:a.tmps.getD d undef=cc.own id:=(hu.2.2 _ _ _ _ ho rfl).2 rfl
 have hl:∀q,b6 ((id2,some (ae.nest e et es n' (fc m r k) (fb g r ff) none))::(id,none)::(id',none)::(idb,none)::st.o) q=(if q=id2 then some (.nest e et es n' (fc m r k) (fb g r ff) none)else if q=id\/q=id'\/q=idb then none else st.den.o q):=fun q=>by
  simp only[ay];by_cases a1:q=id2
  · grind
  rw[if_neg a1,if_neg a1];by_cases a2:q=id
  · grind
  rw[if_neg a2];by_cases a3:q=id'
  · grind
  rw[if_neg a3];by_cases a4:q=idb
  · grind
  rw[if_neg a4,if_neg (by rintro(e|e|e)<;>contradiction)];rfl
 refine⟨c',q1.trans hold,by rw[o4 hl];exact q3, ?_⟩;rw[o4 hl];refine⟨hu.1,fun l hl2=>by simp at hl2,fun ob2 s2 e2 n2 ho2 hd2=>?_⟩;simp only[if_true,bij]at ho2;subst ho2;simp only[ae.dim,bij,bim]at hd2
 grind
theorem b1k {w0:World} {cc c':Ctx} {a:Act} {w:World} {m0:Old} {d id id2 n:Nat} {ob ob2:ae} {sz:Nat} (hrr:ai w0 nt cc st.den a w) (hold:cc.old=m0) (hd0:b6 st.t d=some (.v (.one (.ref id n)))) (ho:b6 st.o id=some ob) (hdm:ob.dim=some (sz,e,n)) (hdm2:ob2.dim=some (sz,e,n)) (q1:c'.old=cc.old) (q2:c'.own id2=cc.own id) (q3:ai w0 nt c' ⟨st.den.t,fun q=>if q=id2 then some ob2 else if q=id then none else st.den.o q⟩ a w):
 ∃c,c.old=m0/\ai w0 nt c (HSt.den ⟨st.t,(id2,some ob2)::(id,none)::st.o⟩) a w/\al c (HSt.den ⟨st.t,(id2,some ob2)::(id,none)::st.o⟩).o (.v (.one (.ref id2 n))) (a.tmps.getD d undef):=by
 have hu:b9 cc st.den.o (.ref id n) (a.tmps.getD d undef):=hrr.tmps d _ hd0;have he:a.tmps.getD d undef=cc.own id:=(hu.2.2 _ _ _ _ ho hdm).2 rfl
 have hl:∀q,b6 ((id2,some ob2)::(id,none)::st.o) q=(if q=id2 then some ob2 else if q=id then none else st.den.o q):=fun q=>by
  simp only[ay];rfl
 refine⟨c',q1.trans hold,by rw[o4 hl];exact q3, ?_⟩;rw[o4 hl];refine⟨hu.1,fun l hl2=>?_,fun ob3 s3 e3 n3 ho3 hd3=>?_⟩
 · simp only [if_true,bij]at hl2
   rw[hl2]at hdm2;cases hdm2
 grind
def ac2 (d id id2:Nat) {n n':Nat} {es:Nat} (hd0:b6 st.t d=some (.v (.one (.ref id n')))) (ho:b6 st.o id=some (.nest e et es n m g none)) (h:HW (ro:=ro) P nt co ⟨(d,some (.v (.one (.ref id2 n))))::st.t,(id2,some (.nest e et es n m g none))::(id,none)::st.o⟩ Q) (hn:n'=n:=by exact rfl) (hid:Nat.blt id 1000=true:=by exact rfl) (h1:jx id2 st=true:=by exact rfl):HW (ro:=ro) P nt co st Q:=by
 subst hn;obtain⟨hm2,hn2⟩:=dp h1;refine uh ⟨st.t,(id2,some (.nest e et es n' m g none))::(id,none)::st.o⟩ d (.v (.one (.ref id2 n'))) (fun w0 m0 a w hr0=>?_) h;obtain⟨cc,hold,hrr⟩:=hr0;obtain⟨c',q1,q2,q3⟩:=hrr.renN ho (by simpa [bl6]using hid) hm2 hn2;exact b1k hrr hold hd0 ho rfl rfl q1 q2 q3
end
end
end
section
open Go.RowKit
def bgm(B:Nat->Option Obj)(b:Nat)(x:Option Obj):Nat->Option Obj:=fun q=>if q=b then x else B q
def a1u(o:am)(x y:HV):Prop:=x=y\/∃id d v b ob,o id=some (.ex d v b ob)/\v.oneCell'=true/\((x=.ref id 0/\y=.p (.raw v))\/(x=.p (.raw v)/\y=.ref id 0))
def adi (o:am):List HV->List HV->Prop
 | [],[]=>True
 |x::xs,y::ys=>a1u o x y/\adi o xs ys
 |_,_=>False
def bfc (o:am):HC->HC->Prop
 | .one x, .one y=>a1u o x y
 | .agg l, .agg m=>adi o l m
 |_,_=>False
def b81 (o:am):HR->HR->Prop
 | .v x, .v y=>bfc o x y
 |_,_=>False
def a1u.to{o:am}{id d:Nat}{v:Value}{b:Nat}{ob:Obj}(h:o id=some (.ex d v b ob))(h1:v.oneCell'=true):a1u o (.ref id 0) (.p (.raw v)):=.inr ⟨id,d,v,b,ob,h,h1, .inl ⟨rfl,rfl⟩⟩
def a1u.from{o:am}{id d:Nat}{v:Value}{b:Nat}{ob:Obj}(h:o id=some (.ex d v b ob))(h1:v.oneCell'=true):a1u o (.p (.raw v)) (.ref id 0):=.inr ⟨id,d,v,b,ob,h,h1, .inr ⟨rfl,rfl⟩⟩
section
variable {w0:World}{nt:Nat}{c:Ctx}{s:S}{a:Act}{w:World}
def a1u.rep(h:ai w0 nt c s a w){x y:HV}{u:Value}(hs:a1u s.o x y)(hr:b9 c s.o x u):b9 c s.o y u:=by
 rcases hs with rfl|⟨id,d,v,b,ob,ho,h1,⟨rfl,rfl⟩|⟨rfl,rfl⟩⟩
 · exact hr
 · have h2:=(h.objs id _ ho).1
   obtain⟨h3,_,h4⟩:=hr;have h5:=(h4 _ _ _ _ ho rfl).2 rfl;exact⟨h5.trans h2,h1⟩
 have h2:=(h.objs id _ ho).1;obtain⟨h3,_⟩:=hr;refine⟨by rw[h3];exact h1,fun l hl=>(by rw[ho]at hl;cases hl),fun ob2 s2 e2 n2 ho2 hd2=>?_⟩;rw[ho]at ho2;cases ho2;simp only[ae.dim,bij,bim]at hd2;obtain⟨rfl,rfl,rfl⟩:=hd2;exact⟨bil _,fun _=>h3.trans h2.symm⟩
def adi.rep (h:ai w0 nt c s a w):∀{x y:List HV} {u:List Value},adi s.o x y->b5 c s.o x u->b5 c s.o y u
 | [],[],_,_,hr=>hr
 |_::_,_::_,_::_,hs,hr=>⟨hs.1.rep h hr.1,adi.rep h hs.2 hr.2⟩
 | [],_::_,_,hs,_=>hs.elim
 |_::_,[],_,hs,_=>hs.elim
 |_::_,_::_,[],_,hr=>hr.elim
def b81.rep (h:ai w0 nt c s a w) {x y:HR} {u:Value} (hs:b81 s.o x y) (hr:al c s.o x u):al c s.o y u:=by
 match x,y,hs with
 | .v (.one x), .v (.one y),hs=>exact a1u.rep h hs hr
 | .v (.agg l), .v (.agg m),hs =>
  obtain⟨us,e,hl⟩:=hr;exact⟨us,e,adi.rep h hs hl⟩
end
section
variable {ro:Option Nat}{P:Program}{nt:Nat}{co:Code}{st:HSt}{Q:Exit->HSt->Prop}
end
end
section
open Go.RowKit
def vHC:Value->HC
 | .agg l=>.agg (l.toList.map fun v=>.p (.raw v))
 |v=>.one (.p (.raw v))
def vOk:Value->Bool
 | .agg l=>l.toList.all Value.oneCell'
 |v=>v.oneCell'
def ak3 {c:Ctx} {o:am}:∀{l:List Value},l.all Value.oneCell'=true->b5 c o (l.map fun v=>.p (.raw v)) l
 | [],_=>trivial
 | v::l,h=>by
  rw[List.all_cons,biw]at h;exact⟨⟨rfl,h.1⟩,ak3 h.2⟩
def a5y {c:Ctx} {o:am} {v:Value} (h:vOk v=true):ej c o (vHC v) v:=by
 cases v with
 |agg l=>exact⟨l.toList,by simp,ak3 h⟩
 |_=>exact⟨rfl,h⟩
def a0v:List HV->Option (List Value)
 | []=>some []
 | .p (.raw v)::r=>(a0v r).map (v::·)
 |_=>none
def kOf:HR->Option Value
 | .v (.one (.p (.raw v)))=>some v
 | .v (.agg l)=>(a0v l).map fun vs=>.agg vs.toArray
 |_=>none
def a9v{c:Ctx}{o:am}:∀{l:List HV} {vs us:List Value},a0v l=some vs->b5 c o l us->us=vs/\vs.all Value.oneCell'=true
 | [],vs,us,h,hr=>by
  cases h
  cases us with
  |nil=>exact⟨rfl,rfl⟩
  |cons=>exact hr.elim
 | .p (.raw v)::r,vs,us,h,hr=>by
  unfold a0v at h
  cases hq:a0v r with
  |none=>rw[hq]at h;cases h
  | some ws =>
   rw[hq]at h;cases h
   cases us with
   |nil=>exact hr.elim
   | cons u us =>
    obtain⟨h1,h2⟩:=a9v hq hr.2;obtain⟨e1,e2⟩:=hr.1;subst h1 e1;exact⟨rfl,by rw[List.all_cons,e2,h2];rfl⟩
def a6s{c:Ctx}{o:am}{x:HR}{v u:Value}(h:kOf x=some v)(hr:al c o x u):u=v/\vOk v=true:=by
 unfold kOf at h;split at h
 · cases h
   obtain⟨e1,e2⟩:=hr;subst e1;refine⟨rfl, ?_⟩;unfold vOk;split
   · simp[Value.oneCell']at e2
   exact e2
 · rename_i l
   cases hq:a0v l with
   |none=>rw[hq]at h;cases h
   | some ws =>
    rw[hq]at h;cases h;obtain⟨us,e,hl⟩:=hr;obtain⟨h1,h2⟩:=a9v hq hl;subst h1 e;exact⟨rfl,h2⟩
 cases h
structure mz (P:Program) (kt:TypeId) (es:Array MapEntry) (clock:Nat):Prop where
 st:Go.MapKept.Stamped es clock
 mx:es.size<=maxLen
 ky:∀x∈es.toList,∃l,keyOf P kt x.key=some l
 vl:∀x∈es.toList,vOk x.key=true/\vOk x.val=true
def mz.nil{P:Program}{kt:TypeId}{clock:Nat}:mz P kt #[] clock:=⟨Go.MapKept.stamped_empty clock,by simp,fun x hx=>by simp at hx,fun x hx=>by simp at hx⟩
def mz.inj {P:Program} {kt:TypeId} {es:Array MapEntry} {clock:Nat} (h:mz P kt es clock) {x y:MapEntry} (hx:x∈es.toList) (hy:y∈es.toList) (e:x.key=y.key):x=y:=by
 have hp:=((Go.MapKept.stamped_iff es clock).1 h.st).2.2;obtain⟨i,hi,rfl⟩:=bj7 hx;obtain⟨j,hj,rfl⟩:=bj7 hy
 rcases blb i j with h1|h1|h1
 · exact absurd e (bji.1 hp i j hi hj h1)
 · subst h1;rfl
 exact absurd e.symm (bji.1 hp j i hj hi h1)
section
variable {P:Program}{nt:Nat}{ops:Array Oper}{st:HSt}{k:Nat}{o:Oper}{L:List Nat}{Q:HSt->Prop}{x ix:Operand}{mid j b clock d:Nat}{es:Array MapEntry}{t kt et:TypeId}
section
variable {kl:Lit}{kv:Value}{kx:HR}
def axp {z:Value} (hi:ops[k]? = some o) (ht:P.underlying t=some (.map kt et)) (K:Go.Maps.Keyed P kt) (hz:∀w,(zeroValue et).run P w=.ok z w) (hzo:vOk z=true) (hX:mz P kt es clock) (hkey:keyOf P kt kv=some kl) (hkv:kOf kx=some kv) (h0:(∀e∈es.toList,e.key≠kv)->RN P nt ops L ⟨(d,some (.tup [vHC z, .one (.p (.raw (.bool false)))]))::st.t,st.o⟩ Q) (h1:∀e∈es.toList,e.key=kv->RN P nt ops L ⟨(d,some (.tup [vHC e.val, .one (.p (.raw (.bool true)))]))::st.t,st.o⟩ Q) (hg:o.guard=none:=by exact rfl) (ho:o.op=.lookup t x ix true:=by exact rfl) (hd:o.dst=some d:=by exact rfl) (hdn:c7 nt (some d)=true:=by exact rfl) (hx:ev st.den x=some (.v (.one (.ref mid 0))):=by exact rfl) (hm:st.den.o mid=some (mpO b es clock):=by exact rfl) (hk:ev st.den ix=some kx:=by exact rfl):RN P nt ops (k::L) st Q :=
 a9y hi hg hd hdn (fun c hc=>by rw[hc]at ho;cases ho) fun w0 a w c hrr=>by
  obtain⟨e1,e2⟩:=ago hrr hx hm;obtain⟨e3,_⟩:=a6s hkv (af hrr hk)
  rcases a98 true K ht (hz w) e2 hX.mx hX.st hX.ky hkey with⟨hrun,hno⟩|⟨e0,he0,hk0,hrun⟩
  · exact⟨_,w,st.o, .tup [vHC z, .one (.p (.raw (.bool false)))],c,rfl,by simp[execOp,ho,e1,e3,hrun],hrr,⟨[z, .bool false],rfl,a5y hzo,⟨rfl,rfl⟩,trivial⟩,h0 hno⟩
  exact⟨_,w,st.o, .tup [vHC e0.val, .one (.p (.raw (.bool true)))],c,rfl,by simp[execOp,ho,e1,e3,hrun],hrr,⟨[e0.val, .bool true],rfl,a5y (hX.vl e0 he0).2,⟨rfl,rfl⟩,trivial⟩,h1 e0 he0 hk0⟩
def a95 {z:Value} (hi:ops[k]? = some o) (ht:P.underlying t=some (.map kt et)) (K:Go.Maps.Keyed P kt) (hz:∀w,(zeroValue et).run P w=.ok z w) (hzo:vOk z=true) (hX:mz P kt es clock) (hkey:keyOf P kt kv=some kl) (hkv:kOf kx=some kv) (h0:(∀e∈es.toList,e.key≠kv)->RN P nt ops L ⟨(d,some (.v (vHC z)))::st.t,st.o⟩ Q) (h1:∀e∈es.toList,e.key=kv->RN P nt ops L ⟨(d,some (.v (vHC e.val)))::st.t,st.o⟩ Q) (hg:o.guard=none:=by exact rfl) (ho:o.op=.lookup t x ix false:=by exact rfl) (hd:o.dst=some d:=by exact rfl) (hdn:c7 nt (some d)=true:=by exact rfl) (hx:ev st.den x=some (.v (.one (.ref mid 0))):=by exact rfl) (hm:st.den.o mid=some (mpO b es clock):=by exact rfl) (hk:ev st.den ix=some kx:=by exact rfl):RN P nt ops (k::L) st Q :=
 a9y hi hg hd hdn (fun c hc=>by rw[hc]at ho;cases ho) fun w0 a w c hrr=>by
  obtain⟨e1,e2⟩:=ago hrr hx hm;obtain⟨e3,_⟩:=a6s hkv (af hrr hk)
  rcases a98 false K ht (hz w) e2 hX.mx hX.st hX.ky hkey with⟨hrun,hno⟩|⟨e0,he0,hk0,hrun⟩
  · exact⟨z,w,st.o, .v (vHC z),c,rfl,by simp[execOp,ho,e1,e3,hrun],hrr,a5y hzo,h0 hno⟩
  exact⟨e0.val,w,st.o, .v (vHC e0.val),c,rfl,by simp[execOp,ho,e1,e3,hrun],hrr,a5y (hX.vl e0 he0).2,h1 e0 he0 hk0⟩
def wu(id:Nat){t:TypeId}(hi:ops[k]? = some o)(h:∀b,RN P nt ops L ⟨(d,some (.v (.one (.ref id 0))))::st.t,(id,some (mpO b #[] 0))::st.o⟩ Q)
 (hg:o.guard=none:=by exact rfl) (ho:o.op=.makeMap t none:=by exact rfl) (hd:o.dst=some d:=by exact rfl) (hdn:c7 nt (some d)=true:=by exact rfl) (hn:jx id st=true:=by exact rfl):RN P nt ops (k::L) st Q :=
 a9y hi hg hd hdn (fun c hc=>by rw[hc]at ho;cases ho) fun w0 a w c hrr=>by
  obtain⟨hnm,hno⟩:=dp hn
  have hf:=hrr.fresh id hnm hno (mpO w.heap.size #[] 0) (w.alloc (.map #[] 0)) (.map (some w.heap.size)) (xi w.heap.size) (Grw.alloc w _ none) (fun b hb=>blo (Eq.symm hb))
   ⟨by simp,by simp,bio _,Go.heap_alloc_new w _,rfl⟩
  rw[<- j3]at hf;refine⟨.map (some w.heap.size),_,_, .v (.one (.ref id 0)),_,(by exact rfl), ?_,hf,⟨rfl,fun l=>by simp[j3,S.setO],fun ob2 s2 e2 n2 ho2 hd2=>?_⟩,h w.heap.size⟩
  · simp[execOp,ho,Go.run_makeMap_plain]
  rw[j3]at ho2;simp only[S.setO,if_true,bij]at ho2;subst ho2;simp only[ae.dim,bij,bim]at hd2;obtain⟨rfl,rfl,rfl⟩:=hd2;exact⟨bil _,fun _=>by simp⟩
structure ah7 (es es':Array MapEntry) (kv v:Value):Prop where
 to:∀x'∈es'.toList,(x'∈es.toList/\x'.key≠kv)\/(x'.key=kv/\x'.val=v)
 at_:∃x'∈es'.toList,x'.key=kv/\x'.val=v
 old:∀x∈es.toList,x.key≠kv->∃x'∈es'.toList,x'.key=x.key/\x'.val=x.val
 sz:es'.size<=es.size+1
def wo{y:Operand}{v:Value}{vx:HR}(hi:ops[k]? = some o)(ht:P.underlying t=some (.map kt et))(K:Go.Maps.Keyed P kt)(hX:mz P kt es clock)(hlt:es.size<maxLen)(hkey:keyOf P kt kv=some kl)(hkv:kOf kx=some kv)(hvv:kOf vx=some v)(h:∀es' clock',mz P kt es' clock'->ah7 es es' kv v->RN P nt ops L ⟨(match o.dst with|some d=>[(d,none)]|none=>[])++st.t,(mid,some (mpO b es' clock'))::st.o⟩ Q)(hg:o.guard=none:=by exact rfl)(ho:o.op=.mapUpdate t x ix y:=by exact rfl)(hdn:c7 nt o.dst=true:=by exact rfl)(hx:ev st.den x=some (.v (.one (.ref mid 0))):=by exact rfl)(hm:b6 st.o mid=some (mpO b es clock):=by exact rfl)(hk:ev st.den ix=some kx:=by exact rfl)(hv:ev st.den y=some vx:=by exact rfl):RN P nt ops (k::L) st Q:=by
 refine b8y hi hg hdn (fun c hc=>by rw[hc]at ho;cases ho) fun w0 a w c hrr=>?_;obtain⟨e1,e2⟩:=ago hrr hx hm;obtain⟨e3,e3'⟩:=a6s hkv (af hrr hk);obtain⟨e4,e4'⟩:=a6s hvv (af hrr hv);obtain⟨q1,q2,q3,q4,q5⟩:=hrr.objs mid _ hm;obtain⟨es',clock',hrun,hst,hsz,hall,hat,hold⟩:=aed (val:=v) K ht e2 hlt hX.st hX.ky hkey;have hblk:=Go.ChangeMaps.heap_setBlock_same e2 (.map es' clock')
 have hP:ah7 es es' kv v:=by
  refine⟨hall, ?_,fun x hx hne=>?_,hsz⟩
  · obtain ⟨x',hx',hk'⟩:=hat
    refine⟨x',hx',hk', ?_⟩
    rcases hall x' hx' with⟨_,h2⟩|⟨_,h2⟩
    · exact absurd hk' h2
    exact h2
  obtain⟨x',hx',hk'⟩:=hold x hx;refine⟨x',hx',hk', ?_⟩
  rcases hall x' hx' with⟨h1,_⟩|⟨h2,_⟩
  · rw[hX.inj h1 hx hk']
  exact absurd (hk'.symm.trans h2) hne
 have hX':mz P kt es' clock':=⟨hst,by omega,fun x' hx'=>by
  rcases hall x' hx' with⟨h1,_⟩|⟨h2,_⟩
  · exact hX.ky x' h1
  · exact⟨kl,by rw[h2];exact hkey⟩,fun x' hx'=>by
  rcases hall x' hx' with⟨h1,_⟩|⟨h2,h3⟩
  · exact hX.vl x' h1
  rw[h2,h3];exact⟨e3',e4'⟩⟩
 have hw:=hrr.write mid _ hm (mpO b es' clock') (Go.ChangeMaps.setBlock w b (.map es' clock')) (c.own mid) (c.blk mid) (some b) (by
  exact⟨⟨rfl,rfl,rfl,by simp[Go.ChangeMaps.setBlock],fun i _ hi=>Go.ChangeMaps.heap_setBlock_other e2 _ (fun e=>hi (by rw[e]))⟩,bil _⟩) (fun b' hb'=>by cases hb';rw[q2];rfl)
  (.inr (.inr ⟨_,mpO b es' clock',0,0,0,0,hm,rfl,by simp[S.setO],rfl,bil _,fun _=>by simp,fun _ _ _ _ _ _ _ hb=>by cases hb⟩)) (fun b hb=>.inl hb) ⟨by simpa using q1,by simpa using q2,q3,hblk,rfl⟩
 rw[<- j3]at hw;exact⟨.skip,_,_,_,(by exact rfl),by simp[execOp,ho,e1,e3,e4,hrun], .inl rfl,hw,h es' clock' hX' hP⟩
def a1o {z:Value} (hi:ops[k]? = some o) (ht:P.underlying t=some (.map kt et)) (K:Go.Maps.Keyed P kt) (hz:∀w,(zeroValue et).run P w=.ok z w) (hzo:vOk z=true) (hX:mz P kt es clock) (hkey:keyOf P kt kv=some kl) (hkv:kOf kx=some kv) (h:∀(ok:Bool) (v:Value),(ok=true->∃e∈es.toList,e.key=kv/\v=e.val)->(ok=false->v=z/\∀e∈es.toList,e.key≠kv)->RN P nt ops L ⟨(d,some (.tup [vHC v, .one (.p (.raw (.bool ok)))]))::st.t,st.o⟩ Q) (hg:o.guard=none:=by exact rfl) (ho:o.op=.lookup t x ix true:=by exact rfl) (hd:o.dst=some d:=by exact rfl) (hdn:c7 nt (some d)=true:=by exact rfl) (hx:ev st.den x=some (.v (.one (.ref mid 0))):=by exact rfl) (hm:st.den.o mid=some (mpO b es clock):=by exact rfl) (hk:ev st.den ix=some kx:=by exact rfl):RN P nt ops (k::L) st Q :=
 axp hi ht K hz hzo hX hkey hkv (fun hno=>h false z (fun e=>by cases e) fun _=>⟨rfl,hno⟩) (fun e he hk=>h true e.val (fun _=>⟨e,he,hk,rfl⟩) fun e=>by cases e) hg ho hd hdn hx hm hk
end
end
end
end Go.Hx

/- A part of the proof: Jn1 Jo1 Jc1 Jn2 Hx31 Tb1 Tb2 Tb3 Tb4 Tb5 Jw2 Jn3 Jn5 Jo2 Jr1 Jp1 Jp2 Jb1 Jp3 Bz1 Bz2 Bz3 Hx27. -/
import Derived.Shelf.SlLaysF0
import Derived.Shelf.SlSortCmp.Insertion
import Derived.Shelf.SlSortCmp.NoneTotal
import Derived.Shelf.Small.Strs
import Derived.Test.YtcepfnkhagkdeaaGreatDoorProg
import Derived.Test.YtcepfnkhagkdeaaGreatDoorUx16
set_option linter.all false
open Go.Proofs.Tryz
set_option maxRecDepth 100000
set_option maxHeartbeats 1000000
namespace Go.Hx
section
def Fq (b:Int):Nat->PV
 |0=>.raw (.int .u8 b)
 |_=>.any
abbrev byl(l:List Int):PV:=Ff 1 Fq l
def uN(n:Int):Int:=bq .xor .u64 (IntKind.wrap .u64 n) 9223372036854775808
def Zu(u:Int)(s:Nat):Int:=IntKind.wrap .u8 (u.fdiv (2^(min s 64)))
def yx(n:Int):List Int:=(List.range 8).map λi=>Zu (uN n) (56-8*i)
def Vn(x:UInt8):List Int:=if x=0 then[0,255] else[(x.toNat:Int)]
def qa(l:List UInt8):List Int:=l.flatMap Vn
def kp(v:Lb):List Int:=IntKind.wrap .u8 v.kind::(if v.kind=1\/v.kind=3 then yx v.num else if v.kind=2 then qa (bl v.str)++[0,1] else[])
def py(v:Lb):ByteArray:=if cz v=true then strOfNums (kp v)else Ye
def tG(v:Lb):Int:=if cz v=true then 0 else 1
def yG (s:AS):Nat->List Lb->ByteArray
 |_,[]=>Ye
 |a,v::vs=>if s.getLsbD a=true then py v++yG s (a+1) vs else yG s (a+1) vs
def uG(l:List Lb)(s:AS):ByteArray:=yG s 0 l
def LB(n:Int):(yx n).length=8:=by simp[yx]
def kS (l:List UInt8):(qa l).length<=2*l.length:=by
 induction l with
 |nil=>simp[qa]
 | cons x l ih =>
  simp only[qa,Lj,Uc,Zf]at ih ⊢;have:(Vn x).length<=2:=by unfold Vn;split<;>simp
  omega
section
variable {v:Lb}
def LU:(py v).size<=403:=by
 unfold py;split
 .rename_i h
  have hs:=mL h;rw[strOfNums_size,kp,Zf];split
  .rw[LB];omega
  split
  .have:=kS (bl v.str)
   rw[i6]at this;rw[Uc];simp;omega
  simp
 exact Zb _
def xc(n:Int)(i:Nat):List Int:=(List.range i).map λi=>Zu (uN n) (56-8*i)
def b0y (n:Int) (i:Nat):xc n (i+1)=xc n i++[Zu (uN n) (56-8*i)]:=by
 unfold xc;rw[Ak,Mi];rfl
def BS(n:Int):xc n 8=yx n:=rfl
def tT{l:List Int}{n:Int}{i:Nat}:l++xc n (i+1)=(l++xc n i)++[Zu (uN n) (56-8*i)]:=by rw[b0y,Ug]
abbrev kB(v:Lb):Int:=IntKind.wrap .u8 v.kind
def uq (h:v.kind=1\/v.kind=3):kp v=[kB v]++yx v.num:=by
 unfold kp;rw[Ba h];rfl
def wa(v:Lb)(i:Nat):List Int:=kB v::qa ((bl v.str).take i)
def jD {i:Nat} (hi:i<v.str.size) (h:c5 v.str i=0):wa v (i+1)=(wa v i++[c5 v.str i])++[255]:=by
 have hl:i<(bl v.str).length:=by rw[i6];exact hi
 unfold wa qa;rw[au hl,Ro]
 have e:c5 v.str i=(((bl v.str).getD i default).toNat:Int):=by
  rw[cq _ _ hl];unfold c5;rw[Oc,Hc hl];rfl
 have h0:(bl v.str).getD i default=0:=by
  rw[e]at h;exact UInt8.toNat_inj.1 (by simpa using h)
 rw[e,h0];simp[Vn]
def dD {i:Nat} (hi:i<v.str.size) (h:¬c5 v.str i=0):wa v (i+1)=wa v i++[c5 v.str i]:=by
 have hl:i<(bl v.str).length:=by rw[i6];exact hi
 unfold wa qa;rw[au hl,Ro]
 have e:c5 v.str i=(((bl v.str).getD i default).toNat:Int):=by
  rw[cq _ _ hl];unfold c5;rw[Oc,Hc hl];rfl
 have h0:¬(bl v.str).getD i default=0:=λh0=>by
  rw[e,h0]at h;exact h rfl
 rw[e];simp only[Lj,Dz,Vn,Ca h0,Mg,Ql]
def b9g {i:Nat}:(wa v i).length<=1+2*v.str.size:=by
 have h:=kS ((bl v.str).take i);have h2:((bl v.str).take i).length<=v.str.size:=by rw[Ae,i6];omega
 simp only[wa,Zf];omega
def RX{p:Prop}(h:p:=by rw[i6];omega):p:=h
def uz (h:v.kind=2):kp v=wa v v.str.size++[0,1]:=by
 unfold kp wa;rw[Ca Za,Ba h,Oz RX];rfl
def un (h1:¬v.kind=1) (h3:¬v.kind=3) (h2:¬v.kind=2):kp v=[kB v]:=by
 unfold kp;rw[Ca Za,Ca h2]
def baz(h:cz v=true):py v=strOfNums (kp v):=Ba h
def b9h(h:cz v=false):py v=Ye:=Ca (by simp[h])
def bcq(h:cz v=true):tG v=0:=Ba h
def bc8(h:cz v=false):tG v=1:=Ca (by simp[h])
def ba3 (l:List Int):KI l.length (lf Fq l)=strOfNums l:=by
 unfold KI;congr 1;refine Ez Ec λi h1 h2=>?_;simp[YC,lf,Fq,List.getD,h2]
def SU{α:Type}[Inhabited α]{wr wr':Bool}{e:TypeId}{c:α->Nat->PV}{l l':List α}{x y:α}{g g':Nat->Nat->PV}(h:l'=(l++[x])++[y])(hg:Fc (g 0 0) (c x 0))(hg':Fc (g' 0 0) (c y 0))(hw:wr'=true->wr=true:=by exactλh=>h) :
 Ic (.arr wr 1 e (l.length+1+1) (ek (l.length+1) (ek l.length (lf c l) g) g')) (.arr wr' 1 e l'.length (lf c l')):=by
 subst h;refine⟨hw,rfl,rfl,by simp,λi j hi hj=>?_⟩;obtain rfl:j=0:=by omega
 unfold ek lf;by_cases h1:i<l.length
 .rw [Ba Za,Ba h1]
  refine Va ?_;simp[List.getD,List.getElem?_append,h1,show i<l.length+1 by omega]
 by_cases h2:i=l.length
 .subst h2
  rw[Ba Za,Ca Za,Dq];simpa [List.getD]using hg
 obtain rfl:i=l.length+1:=by omega
 rw[Ca Za,Dq];simpa [List.getD]using hg'
def iF {α:Type} [Inhabited α] {wr wr':Bool} {e:TypeId} {c:α->Nat->PV} {l l':List α} {x y:α} {g:Nat->Nat->PV} (h:l'=l++[x,y]) (hg:Fc (g 0 0) (c x 0)) (hg':Fc (g 1 0) (c y 0)) (hw:wr'=true->wr=true:=by exactλh=>h) :
 Ic (.arr wr 1 e (l.length+2) (ek l.length (lf c l) g)) (.arr wr' 1 e l'.length (lf c l')):=by
 subst h;refine HH [x,y] hw rfl λi j hi hj=>?_;obtain rfl:j=0:=by omega
 have hi:i<2:=hi
 rcases(by omega:i=0\/i=1)with rfl|rfl
 .exact hg
 exact hg'
end
end
section
open Go.Proofs Go.RowKit Go.Sort
structure Lk {α:Type} (c:α->α->Int):Prop where
 anti:∀a b,c b a=- c a b
 zero:∀a b,c a b=0<->a=b
 tr:∀a b d,c a b<0->c b d<0->c a d<0
section
variable {α:Type}{c:α->α->Int}
theorem Lk.self(h:Lk c)(a:α):c a a=0:=(h.zero a a).2 rfl
theorem Lk.tri (h:Lk c) {a b:α} (hab:a≠b):c a b<0\/c b a<0:=by
 have h1:=h.anti a b;have h2:c a b≠0:=λe=>hab ((h.zero a b).1 e);omega
theorem Lk.swo (h:Lk c):SWO (ltOf c) where
 irrefl x:=by unfold ltOf;rw[h.self];rfl
 trans x y z h1 h2:=by
  unfold ltOf at *;exact Fa (h.tr x y z (Ga h1) (Ga h2))
 ntrans x y z h1 h2:=by
  unfold ltOf at *;refine Ha λhxz=>?_;have h1:=Qa h1;have h2:=Qa h2;have ha:=h.anti x y;by_cases e:x=y
  .subst e;exact h2 hxz
  have:c x y≠0:=λe2=>e ((h.zero x y).1 e2);exact h2 (h.tr y x z Za hxz)
abbrev KF(c:α->α->Int)(l:List α):Prop:=l.Pairwise λa b=>c a b<0
theorem Lk.ext (h:Lk c):∀{l m:List α},KF c l->KF c m->(∀x,x∈l<->x∈m)->l=m
 | [],[],_,_,_=>rfl
 | [],y::m,_,_,e=>by have:=(e y).2 Ec;cases this
 |x::l,[],_,_,e=>by have:=(e x).1 Ec;cases this
 | x :: l,y::m,h1,h2,e=>by
  have h1':=Hh.1 h1;have h2':=Hh.1 h2
  have hxy:x=y:=by
   apply La;intro hne
   have hx:x∈m:=by
    have:=(e x).1 Ec
    rcases Jd.1 this with e2|e2
    .exact Ea e2 hne
    exact e2
   have hy:y∈l:=by
    have:=(e y).2 Ec
    rcases Jd.1 this with e2|e2
    .exact Ea e2.symm hne
    exact e2
   have a1:=h2'.1 x hx;have a2:=h1'.1 y hy;have a3:=h.anti x y;omega
  subst hxy;refine Da (x::·) (Lk.ext h h1'.2 h2'.2 λz=>⟨λhz=>?_,λhz=>?_⟩)
  .have:=(e z).1 (by simp[hz])
   rcases Jd.1 this with rfl|e2
   .have:=h1'.1 z hz;rw[h.self]at this;omega
   exact e2
  have:=(e z).2 (by simp[hz])
  rcases Jd.1 this with rfl|e2
  .have:=h2'.1 z hz;rw[h.self]at this;omega
  exact e2
theorem Lk.nodup(h:Lk c){l:List α}(hl:KF c l):l.Nodup:=hl.imp λ{a b} hab e=>by subst e;rw[h.self]at hab;omega
def DM(c:α->α->Int)(l:List α):List α:=l.mergeSort λx y=>!(ltOf c) y x
theorem Lk.srt (h:Lk c) (l:List α):(DM c l).Pairwise λa b=>¬c b a<0:=by
 have:=Iv (le:=λx y:α=>!(ltOf c) y x) (λa b d h1 h2=>by
  simp only[Nh]at *
  exact h.swo.ntrans _ _ _ h2 h1) (λa b=>by
  simp only[Kj,Nh,ltOf,decide_eq_false_iff_not];have:=h.anti a b
  omega) l
 refine this.imp λ{a b} hab=>?_;simpa [ltOf]using hab
end
end
section
def Kp {P:Nat->Prop} (h0:P 0) (h1:P 1) (h2:P 2):∀j,j<3->P j:=λj hj=>by
 rcases(by omega:j=0\/j=1\/j=2)with rfl|rfl|rfl<;>assumption
section
variable {k:Nat}
def ba4{α:Type}[Inhabited α]{wr wr':Bool}{n p:Nat}{e:TypeId}{c:α->Nat->PV}{l:List α}{v:α}{x y z:PV}(hw:wr'=true->wr=true)(hn:n=l.length)(hp:k=p)(hk:p<l.length)(hx:x=c v 0)(hy:y=c v 1)(hz:z=c v 2):
 Ic (.arr wr 3 e n (er (lf c l) k 0 [x,y,z])) (.arr wr' 3 e n (lf c (l.set p v))):=by
 subst hp hx hy hz hn;refine⟨hw,rfl,rfl,rfl,λi j hi hj=>Va ?_⟩;unfold er lf;by_cases h:i=k
 .subst h
  rw[Ba ⟨rfl,by omega,by simpa using hj⟩,j2 hk];revert j;exact Kp rfl rfl rfl
 rw[Ca Za,Gc h]
def jU {α:Type} [Inhabited α] {wr wr':Bool} {n p q d:Nat} {e:TypeId} {c:α->Nat->PV} {l l':List α} (hw:wr'=true->wr=true) (hn:n=l.length) (hp:k=p) (hk:p<l.length) (hd:d=q):
 Ic (.arr wr 3 e n (er (lf c l) k 0 [lf c l' d 0,lf c l' d 1,lf c l' d 2])) (.arr wr' 3 e n (lf c (l.set p (l'.getD q default)))):=ba4 hw hn hp hk (by rw[hd];rfl) (by rw[hd];rfl) (by rw[hd];rfl)
structure Rr (l:List Lb) (k p q:Nat) (m:List Lb):Prop where
 len:m.length=l.length
 kq:k<q
 pq:p<q
 ql:q<=l.length
 pre:m.take p=iz (l.take q)
 high:∀j,q-1<=j->m.getD j default=l.getD j default
variable {l:List Lb}
theorem Rr.start (h1:1<=k) (hk:k<l.length) (h:∀j,0<j->j<k->¬l.getD j default=l.getD (j-1) default) (hd:l.getD k default=l.getD (k-1) default):Rr l k k (k+1) l :=
 ⟨rfl,by omega,by omega,by omega,by rw[l5 Za hk,Ba hd.symm,Mg,uc Za h],λ_ _=>rfl⟩
theorem Rr.skip {p q:Nat} {m:List Lb} (h:Rr l k p q m) (hq:q<l.length) (he:m.getD q default=m.getD (q-1) default):Rr l k p (q+1) m:=by
 have hk:=h.kq;refine⟨h.len,by omega,by have:=h.pq;omega,hq, ?_,λj hj=>h.high j Za⟩;rw[h.high q Za,h.high (q-1) Za]at he;rw[l5 Za hq,Ba he.symm,Mg,h.pre]
theorem Rr.keep {p q:Nat} {m:List Lb} (h:Rr l k p q m) (hq:q<l.length) (he:¬m.getD q default=m.getD (q-1) default):Rr l k (p+1) (q+1) (m.set p (m.getD q default)):=by
 have hk:=h.kq;have hp:=h.pq;have hl:=h.len;refine⟨by simp[hl],by omega,by omega,hq, ?_,λj hj=>by rw[Gc Za];exact h.high j Za⟩;have e:=h.high q Za;rw[e,h.high (q-1) Za]at he;rw[l5 Za hq,Ca (λe=>he e.symm),<- h.pre,au (by simp[hl];omega),j2 Za,e];congr 1;rw[List.take_set,qC Uh]
end
end
def NY(R:List Xb)(a:Nat):List Lb:=R.map λr=>r.vals.getD a default
def zG(R:List Xb)(a:Nat):List Lb:=iz (DM x4 (NY R a))
def CN(R:List Xb)(n:Nat):List (List Lb):=(List.range n).map (zG R)
def bsc(R:List Xb)(n a:Nat):List (List Lb):=(List.range n).map λi=>if i<a then zG R i else[]
def rX(l:List Lb):Nat->PV:=λ_=>vals l
abbrev bsj(l:List (List Lb)):PV:=Ff 1 rX l
def HG(R:List Xb)(s:AS)(k:Nat)(e:ByteArray):Bool:=R.any λr=>decide (uG (r.vals.take k) s=e)
def K2 (R:List Xb) (s:AS) (k:Nat):MK->Option PV
 | .s b=>if HG R s k b=true then some (.raw (.bool true))else none
 | .i _ _=>none
def fM(N:Nat)(R:List Xb)(s:AS)(k:Nat):PV:=zX .str N (K2 R s k)
def AX(R:List Xb)(s:AS):Nat->Nat->PV:=λk _=>fM R.length R s k
def lvC(R:List Xb)(n:Nat)(s:AS):Nat->PV:=λ_=>.sl (n+1) 1 false (AX R s)
def lvT(R:List Xb)(s:AS)(a:Nat):Nat->Nat->PV:=λk _=>if k<a then fM R.length R s k else .raw (.map none)
def O1(R:List Xb)(vs:List Lb)(m:Nat)(s:AS):Bool:=decide (1000<m)||!HG R s vs.length (uG vs s)
def IN(R:List Xb)(ps:List AS)(vs:List Lb)(m:Nat):Bool:=ps.any (O1 R vs m)
def iG (R:List Xb) (ps:List AS) (cols:List (List Lb)):Nat->List Lb->List (List Lb)->List (List Lb)
 |0,vs,acc=>if IN R ps vs acc.length=true then acc else acc++[vs]
 |d+1,vs,acc=>if IN R ps vs acc.length=true then acc else(cols.getD vs.length default).foldl (λacc v=>iG R ps cols d (vs++[v]) acc) acc
def JO(R:List Xb)(ps:List AS)(n:Nat):List (List Lb):=iG R ps (CN R n) n [] []
def ir(l:List (List Lb)):List Xb:=(List.range l.length).map λ(i:Nat)=>⟨(i:Int)+1,l.getD i []⟩
def M0 (t:ac) (ps:List AS):Int :=
 if eo t≠0 then eo t else if Sd t.attrs.length ps≠0 then Sd t.attrs.length ps else if 1000<(JO t.rows ps t.attrs.length).length then 3 else 0
def bsh(t:ac)(ps:List AS):ac:=if M0 t ps=0 then⟨t.name,t.attrs,ir (JO t.rows ps t.attrs.length)⟩else T0
def btu (R:List Xb) (ps:List AS) (cols:List (List Lb)) (d:Nat) (vs:List Lb) (acc:List (List Lb)) (i:Nat):List (List Lb) :=
 ((cols.getD vs.length default).take i).foldl (λacc v=>iG R ps cols d (vs++[v]) acc) acc
section
open Go.RowKit
def UY (id n s:Nat) (F:Nat->Nat->PV):List HC->List HC->Prop
 | [],[]=>True
 |x::xs,y::ys=>(y=x\/(x=.one (.ref id n)/\y=.one (.p (.sl n s false F))))/\UY id n s F xs ys
 |_,_=>False
def bsn(i0:Nat)(h:HV)(g:Nat->Nat->PV):Nat->Nat->HV:=λi j=>if i=i0 then h else .p (g i j)
def Ju{ro:Option Nat}{P:Program}{nt:Nat}{st:Qb}{Q:Exit->Qb->Prop}{co:Code}(x:Nat)(ob':a8){ob:a8}(ho:bo st.o x=some ob)(hc:Ic ob ob')
 (h:HW (ro:=ro) P nt co ⟨st.t,(x,some ob')::st.o⟩ Q):HW (ro:=ro) P nt co st Q:=λw0 m0 a w hr=>by
 obtain⟨cc,hold,Db⟩:=hr;refine h w0 m0 a w ⟨cc,hold,Db.relax _ (λd y hy=>⟨y,hy,Ua⟩) λid ob2 ho2=>?_⟩;simp only[Qb.den,b9]at ho2;by_cases hk:id=x
 .subst hk
  rw[Ba rfl]at ho2;simp only[Bb]at ho2;subst ho2;exact⟨ob,ho,hc⟩
 rw[Ca hk]at ho2;exact⟨ob2,ho2,Ic.refl _⟩
end
section
open Go.Proofs
def jB:goodFn Ab 170:=Ib func170
def qA (a b:Int):a6 Ab 170 [pI a,pI b] (a7 [pI (Xg a b)]):=by
 refine Nb (nt:=11) func170 ?_;refine dg ?_;refine Kb ?_ ?_<;>intro h0
 .refine Kc ?_;exact⟨Sb (by unfold Xg;rw[Ba h0]),Aa⟩
 refine Wb ?_;refine Kb ?_ ?_<;>intro h1
 .refine Kc ?_;exact⟨Sb (by unfold Xg;rw[Ca h0,Ba h1]),Aa⟩
 refine Dd ?_;exact⟨Sb (by unfold Xg;rw[Ca h0,Ca h1]),Aa⟩
def DY(a b:ByteArray)(ha:a.size<=68719476736)(hb:b.size<=68719476736):a6 Ab 216 [pS a,pS b] (a7 [pI (Ay a b)]):=by
 refine Nb (nt:=39) func216 ?_;refine Mc ?_;refine c6 (ι:=Unit) (ka 0 (ka 1 kn)) km (λ_i=>⟨[],[]⟩) (λ_i=>Ay a b=Xg a.size b.size) ?_ ?_
 ·
  refine Eb ?_;refine aa (ι:=Nat) (ka 0 (ka 1 kn)) km (λi=>⟨[(5,some (vI i))],[]⟩) (λi=>i<=a.size/\i<=b.size/\qx ((bl a).drop i) ((bl b).drop i)=Ay a b) (λi=>a.size-i) (0) (⟨Zb _,Zb _,rfl⟩) kk ?_;rintro i ⟨hi1,hi2,hc⟩;refine Wb ?_;refine af rfl rfl ?_ ?_<;>intro r0
  ·
   have h0:=Bc r0;(iterate 4 refine qy ?_ (hg:=(Lc r0)));refine Cb ?_;refine aj _ rfl ?_ ?_<;>intro r1
   ·
    have h1:=Bc (bp r0 r1);refine rp ?_;refine Sc ?_ ?_<;>intro h2
    .refine ce ?_;refine Fb jB (qA _ _) ?_;refine Ef ?_;exact⟨Sb (by rw[<- hc,JU i _ _ (by rw[i6];omega) (by rw[i6];omega) (λe=>h2 ((yV _ _ _ _).2 e))];rfl),Aa⟩
    refine Mb ?_;refine Rb (i+1) kk ?_;exact⟨by omega,by omega,by rw[<- hc];exact(sV i _ _ (by rw[i6];omega) (by rw[i6];omega) ((yV _ _ _ _).1 h2)).symm⟩
   have h1:=Ac (bp r0 r1);refine cg ?_;refine⟨(), ?_, ?_⟩
   .rw[<- hc,<- i6,<- i6];exact WJ i _ _ (by rw[i6];omega) (by rw[i6];omega) (by rw[i6,i6];omega)
   exact kk
  have h0:=Ac r0;(iterate 4 refine k9 (Vd r0) ?_);refine Mc ?_;refine⟨(), ?_, ?_⟩
  .rw[<- hc,<- i6,<- i6];exact WJ i _ _ (by rw[i6];omega) (by rw[i6];omega) (by rw[i6,i6];omega)
  exact kk
 rintro _ hj;refine Mb ?_;refine Fb jB (qA _ _) ?_;refine Tf ?_;exact⟨Sb hj.symm,Aa⟩
def vZ (a b:Lb) (ha:a.str.size<=68719476736) (hb:b.str.size<=68719476736):a6 Ab 169 [a.pc,b.pc] (a7 [pI (x4 a b)]):=by
 refine Nb (nt:=28) func169 ?_;refine Rc ?_;refine m9 0 ?_;refine m9 1 ?_;refine Cc ?_;refine Fb jB (qA _ _) ?_;refine Jb ?_;refine Sc ?_ ?_<;>intro h0
 .refine Dd ?_;exact⟨Sb (by unfold x4;rw[Ba h0]),Aa⟩
 refine Wb ?_;refine Fb jB (qA _ _) ?_;refine Jb ?_;refine Sc ?_ ?_<;>intro h1
 .refine Dd ?_;exact⟨Sb (by unfold x4;rw[Ca Za,Ba h1]),Aa⟩
 refine Jb ?_;refine Fb (Ib func216) (DY a.str b.str ha hb) ?_;refine Tf ?_;exact⟨Sb (by unfold x4;rw[Ca Za,Ca Za]),Aa⟩
def qZ(a b:List Lb)(ha:pj a)(hb:pj b):a6 Ab 120 [pP (vals a),pP (vals b)] (a7 [pI (kr a b)]):=by
 refine Nb (nt:=36) func120 ?_;refine cj 0 rfl (λhn=>?_);refine Mc ?_;refine c6 (ι:=Unit) (ka 0 (ka 1 kn)) km (λ_i=>⟨[],[]⟩) (λ_i=>kr a b=Xg a.length b.length) ?_ ?_
 ·
  refine Eb ?_;refine aa (ι:=Nat) (ka 0 (ka 1 kn)) km (λi=>⟨[(5,some (vI i))],[]⟩) (λi=>i<=a.length/\i<=b.length/\kr (a.drop i) (b.drop i)=kr a b) (λi=>a.length-i) (0) (⟨Zb _,Zb _,rfl⟩) kk ?_;rintro i ⟨hi1,hi2,hc⟩;refine Wb ?_;refine af rfl rfl ?_ ?_<;>intro r0
  ·
   have h0:=Bc r0;(iterate 4 refine qy ?_ (hg:=(Lc r0)));refine Cb ?_;refine aj _ rfl ?_ ?_<;>intro r1
   ·
    have h1:=Bc (bp r0 r1);refine jq ?_;refine rc rfl rfl rfl rfl rfl rfl (Ib func169) (vZ _ _ (ha i Za) (hb i Za)) Ta rfl rfl ?_;refine Wb ?_;refine Sc ?_ ?_<;>intro h2
    .refine Dd ?_;exact⟨Sb (by rw[<- hc];exact(XV i _ _ Za Za h2).symm),Aa⟩
    refine Mb ?_;refine Rb (i+1) kk ?_;exact⟨by omega,by omega,by rw[<- hc];exact(MV i _ _ Za Za h2).symm⟩
   have h1:=Ac (bp r0 r1);refine cg ?_;refine⟨(), ?_, ?_⟩
   .rw[<- hc];exact RK i _ _ Za Za Za
   exact kk
  have h0:=Ac r0;(iterate 4 refine k9 (Vd r0) ?_);refine Mc ?_;refine⟨(), ?_, ?_⟩
  .rw[<- hc];exact RK i _ _ Za Za Za
  exact kk
 rintro _ hj;refine Mb ?_;refine Fb jB (qA _ _) ?_;refine Tf ?_;exact⟨Sb hj.symm,Aa⟩
def VD:goodFn Ab 74:=Ib func74
def eC (a b:List Lb) (ha:pj a) (hb:pj b):a6 Ab 74 [pP (vals a),pP (vals b)] (a7 [pB (decide (a=b))]):=by
 refine Nb (nt:=9) func74 ?_;refine Wb ?_;refine Fb (Ib func120) (qZ a b ha hb) ?_;refine Ef ?_;exact⟨Vb (decide_eq_decide.2 OV),Aa⟩
def Xj{p:Prop}(h:p:=by simp[cz, *]<;>omega):p:=h
def LX(v:Lb):a6 Ab 119 [v.pc] (a7 [pB (cz v)]):=by
 refine Nb (nt:=44) func119 ?_;refine Rc ?_;refine m9 0 ?_;refine rp ?_;refine Kb ?_ ?_<;>intro h0
 ·
  refine Mb ?_;refine af rfl rfl ?_ ?_<;>intro r1
  ·
   have h1:=Bc r1;(iterate 3 refine qy ?_ (hg:=(Lc r1)));refine Tb ?_
   exact Nc rfl rfl rfl (⟨Vb Xj,Aa⟩)
  have h1:=Ac r1;(iterate 3 refine k9 (Vd r1) ?_);refine Tb ?_
  exact Nc rfl rfl rfl (⟨Vb Xj,Aa⟩)
 refine Eb ?_;refine Kb ?_ ?_<;>intro h2
 .refine Up ?_;exact⟨Vb Xj,Aa⟩
 refine Eb ?_;refine Kb ?_ ?_<;>intro h3
 ·
  refine Mb ?_;refine af rfl rfl ?_ ?_<;>intro r4
  ·
   have h4:=Bc r4;(iterate 4 refine qy ?_ (hg:=(Lc r4)));refine Tb ?_
   exact Nc rfl rfl rfl (⟨Vb Xj,Aa⟩)
  have h4:=Ac r4;(iterate 4 refine k9 (Vd r4) ?_);refine Tb ?_
  exact Nc rfl rfl rfl (⟨Vb Xj,Aa⟩)
 refine Jb ?_;refine af rfl rfl ?_ ?_<;>intro r5
 ·
  have h5:=Bc r5;(iterate 3 refine qy ?_ (hg:=(Lc r5)));refine Cb ?_;refine af rfl rfl ?_ ?_<;>intro r6
  ·
   have h6:=Bc (bp r5 r6);(iterate 3 refine qy ?_ (hg:=(Lc r6)));refine Tb ?_
   exact Nc rfl rfl rfl (⟨Vb Xj,Aa⟩)
  have h6:=Ac (bp r5 r6);(iterate 3 refine k9 (Vd r6) ?_);refine Tb ?_
  exact Nc rfl rfl rfl (⟨Vb Xj,Aa⟩)
 have h5:=Ac r5;(iterate 3 refine k9 (Vd r5) ?_);refine Cb ?_;(iterate 3 refine k9 rfl ?_);refine Tb ?_
 exact Nc rfl rfl rfl (⟨Vb Xj,Aa⟩)
def pM(v:Lb):a6 Ab 115 [v.pc] (a7 [pB (cz v)]):=by
 refine Nb (nt:=41) func115 ?_;refine Rc ?_;refine m9 0 ?_;refine rp ?_;refine Kb ?_ ?_<;>intro h0
 ·
  refine Mb ?_;refine af rfl rfl ?_ ?_<;>intro r1
  ·
   have h1:=Bc r1;(iterate 3 refine qy ?_ (hg:=(Lc r1)));refine Tb ?_
   exact Nc rfl rfl rfl (⟨Vb Xj,Aa⟩)
  have h1:=Ac r1;(iterate 3 refine k9 (Vd r1) ?_);refine Tb ?_
  exact Nc rfl rfl rfl (⟨Vb Xj,Aa⟩)
 refine Eb ?_;refine Kb ?_ ?_<;>intro h2
 .refine Up ?_;exact⟨Vb Xj,Aa⟩
 refine Eb ?_;refine Kb ?_ ?_<;>intro h3
 ·
  refine Mb ?_;refine af rfl rfl ?_ ?_<;>intro r4
  ·
   have h4:=Bc r4;(iterate 4 refine qy ?_ (hg:=(Lc r4)));refine Tb ?_
   exact Nc rfl rfl rfl (⟨Vb Xj,Aa⟩)
  have h4:=Ac r4;(iterate 4 refine k9 (Vd r4) ?_);refine Tb ?_
  exact Nc rfl rfl rfl (⟨Vb Xj,Aa⟩)
 refine Eb ?_;refine Kb ?_ ?_<;>intro h5
 ·
  refine Mb ?_;refine af rfl rfl ?_ ?_<;>intro r6
  ·
   have h6:=Bc r6;(iterate 3 refine qy ?_ (hg:=(Lc r6)));refine Tb ?_
   exact Nc rfl rfl rfl (⟨Vb Xj,Aa⟩)
  have h6:=Ac r6;(iterate 3 refine k9 (Vd r6) ?_);refine Tb ?_
  exact Nc rfl rfl rfl (⟨Vb Xj,Aa⟩)
 refine Dd ?_;exact⟨Vb Xj,Aa⟩
def MX(l:List Lb):a6 Ab 70 [pP (vals l)] (a7 [pB (l.all cz)]):=by
 refine Nb (nt:=16) func70 ?_;refine cj 0 rfl (λhn=>?_);refine Mc ?_;refine c6 (ι:=Unit) kn km (λ_i=>⟨[],[]⟩) (λ_i=>l.all cz=true) ?_ ?_
 ·
  refine Eb ?_;refine aa (ι:=Nat) (ka 0 kn) km (λi=>⟨[(3,some (vI i))],[]⟩) (λi=>i<=l.length/\∀j,j<i->cz (l.getD j default)=true) (λi=>l.length-i) (0) (⟨Zb _,aw⟩) kk ?_;rintro i ⟨hi,hI⟩;refine Wb ?_;refine Kb ?_ ?_<;>intro h0
  ·
   refine Cc ?_;refine Fb (Ib func119) (LX _) ?_;refine Cb ?_;refine Xd ?_ ?_<;>intro h1
   .refine Kc ?_;exact⟨Vb (Tt Za h1).symm,Aa⟩
   refine Mb ?_;refine Rb (i+1) kk ?_;exact⟨by omega,al hI (h1)⟩
  refine cg ?_;refine⟨(), ?_, ?_⟩
  .exact Zq λj hj=>hI j Za
  exact⟨Aa,Aa⟩
 rintro _ hj;refine Kc ?_;exact⟨Vb hj.symm,Aa⟩
def NX (a b:Xb) (ha:a.ok) (hb:b.ok):a6 Ab 34 [a.pc,b.pc] (a7 [pB (decide (a=b))]):=by
 refine Nb (nt:=17) func34 ?_;refine Rc ?_;refine m9 0 ?_;refine m9 1 ?_;refine ce ?_;refine af rfl rfl ?_ ?_<;>intro r0
 ·
  have h0:=Bc r0;(iterate 4 refine qy ?_ (hg:=(Lc r0)));refine Fb VD (eC a.vals b.vals ha.2 hb.2) ?_ (hg:=(Lc r0));refine Tb ?_
  exact Nc rfl rfl rfl (⟨Vb (by simp[Xb.eq_iff, *]),Aa⟩)
 have h0:=Ac r0;(iterate 5 refine k9 (Vd r0) ?_);refine Tb ?_
 exact Nc rfl rfl rfl (⟨Vb (by simp[Xb.eq_iff, *]),Aa⟩)
def qM(a b:List ByteArray):a6 Ab 33 [pP (qv a),pP (qv b)] (a7 [pB (decide (a=b))]):=by
 refine Nb (nt:=26) func33 ?_;refine cj 0 rfl (λhn=>?_);refine jq ?_;refine Sc ?_ ?_<;>intro h0
 .refine Kc ?_;exact⟨Vb (Ha (λe=>h0 (by rw[e]))).symm,Aa⟩
 refine dj ?_;refine c6 (ι:=Unit) kn km (λ_i=>⟨[],[]⟩) (λ_i=>a=b) ?_ ?_
 ·
  refine Eb ?_;refine aa (ι:=Nat) (ka 0 (ka 1 kn)) km (λi=>⟨[(5,some (vI i))],[]⟩) (λi=>i<=a.length/\∀j,j<i->a.getD j default=b.getD j default) (λi=>a.length-i) (0) (⟨Zb _,aw⟩) kk ?_;rintro i ⟨hi,hI⟩;refine Wb ?_;refine Kb ?_ ?_<;>intro h1
  ·
   refine qd ?_;refine Sc ?_ ?_<;>intro h2
   .refine Kc ?_;exact⟨Vb (Ha (λe=>h2 (by subst e;rfl))).symm,Aa⟩
   refine Mb ?_;refine Rb (i+1) kk ?_;exact⟨by omega,al hI (h2)⟩
  refine cg ?_;refine⟨(), ?_, ?_⟩
  .exact ny Za λj hj=>hI j Za
  exact⟨Aa,Aa⟩
 rintro _ hj;refine Kc ?_;exact⟨Vb (Fa hj).symm,Aa⟩
def PX(a b:ac)(ha:a.ok)(hb:b.ok):a6 Ab 12 [a.pc,b.pc] (a7 [pB (decide (a=b))]):=by
 refine Nb (nt:=47) func12 ?_;refine Rc ?_;refine m9 0 ?_;refine m9 1 ?_;refine Mc ?_;refine DG 0 2 rfl rfl (λhn=>?_);refine Jb ?_;refine af rfl rfl ?_ ?_<;>intro r0
 ·
  have h0:=Ac (ct r0);(iterate 6 refine k9 (Yc r0) ?_);refine Cb ?_;(iterate 7 refine k9 rfl ?_);refine Jb ?_
  exact Nc rfl rfl rfl (⟨Vb (Ha (λe=>by subst e;simp_all)).symm,Aa⟩)
 have h0:=Bc (cu r0);(iterate 4 refine qy ?_ (hg:=(Jc r0)));refine Fb (Ib func33) (qM _ _) ?_ (hg:=(Jc r0));refine qy ?_ (hg:=(Jc r0));refine Cb ?_;refine af rfl rfl ?_ ?_<;>intro r1
 ·
  have h1:=ct (ai r0 r1);(iterate 7 refine k9 (Yc r1) ?_);refine Jb ?_
  exact Nc rfl rfl rfl (⟨Vb (Ha (λe=>by subst e;simp_all)).symm,Aa⟩)
 have h1:=cu (ai r0 r1);(iterate 7 refine qy ?_ (hg:=(Jc r1)));refine Cb ?_;refine aj _ rfl ?_ ?_<;>intro r2
 .have h2:=Ac (ct (ai r1 r2));refine Kc ?_;exact⟨Vb (Ha (λe=>by subst e;simp_all)).symm,Aa⟩
 have h2:=Bc (cu (ai r1 r2));refine dj ?_;refine c6 (ι:=Unit) kn km (λ_i=>⟨[],[]⟩) (λ_i=>a=b) ?_ ?_
 ·
  refine Eb ?_;refine aa (ι:=Nat) (ka 2 (ka 3 kn)) (kb 0 (kb 1 km)) (λi=>⟨[(5,some (vI i))],[]⟩) (λi=>i<=a.rows.length/\∀j,j<i->a.rows.getD j default=b.rows.getD j default) (λi=>a.rows.length-i) (0) (⟨Zb _,aw⟩) kk ?_;rintro i ⟨hi,hI⟩;refine Cc ?_;refine Kb ?_ ?_<;>intro h3
  ·
   refine jz ?_;refine rc rfl rfl rfl rfl rfl rfl (Ib func34) (NX _ _ (ha.2.2 i Za) (hb.2.2 i Za)) Ta rfl rfl ?_;refine Tb ?_;refine Xd ?_ ?_<;>intro h4
   .have hN:=dG h4;refine Kc ?_;exact⟨Vb (Ha (λe=>by subst e;simp_all)).symm,Aa⟩
   have hN:=NC h4;refine Mb ?_;refine Rb (i+1) kk ?_;exact⟨by omega,al hI (hN)⟩
  refine cg ?_;refine⟨(), ?_, ?_⟩
  .exact ac.eq_iff.2 ⟨by assumption,by simp_all,ny Za λj hj=>hI j Za⟩
  exact⟨Aa,Aa⟩
 rintro _ hj;refine Kc ?_;exact⟨Vb (Fa hj).symm,Aa⟩
def RM(c:Int):a6 Ab 117 [dM c] (a7 [pB (Lg c)]):=by
 refine Nb (nt:=21) func117 ?_;refine Cc ?_;refine af rfl rfl ?_ ?_<;>intro r0
 ·
  have h0:=Bc r0;(iterate 2 refine qy ?_ (hg:=(Lc r0)));refine Cb ?_;refine af rfl rfl ?_ ?_<;>intro r1
  ·
   have h1:=Bc (bp r0 r1);(iterate 3 refine k9 (Yc r1) ?_);(iterate 2 refine k9 rfl ?_);refine k9 (Yc r1) ?_;refine Cb ?_;(iterate 2 refine k9 rfl ?_);refine Tb ?_
   exact Nc rfl rfl rfl (⟨Vb (by simp[Lg, *]),Aa⟩)
  have h1:=Ac (bp r0 r1);(iterate 3 refine qy ?_ (hg:=(Jc r1)));refine af rfl rfl ?_ ?_<;>intro r2
  ·
   have h2:=Bc r2;(iterate 2 refine qy ?_ (hg:=(Lc r2)));refine qy ?_ (hg:=(Jc r1));refine Cb ?_;refine af rfl rfl ?_ ?_<;>intro r3
   ·
    have h3:=Bc (bp r2 (ai r1 r3));(iterate 2 refine k9 (Yc r3) ?_);refine Tb ?_
    exact Nc rfl rfl rfl (⟨Vb (by simp[Lg, *]),Aa⟩)
   have h3:=Ac (bp r2 (ai r1 r3));(iterate 2 refine qy ?_ (hg:=(Jc r3)));refine Tb ?_
   exact Nc rfl rfl rfl (⟨Vb (by simp[Lg, *]),Aa⟩)
  have h2:=Ac r2;(iterate 2 refine k9 (Vd r2) ?_);refine rq rfl rfl rfl rfl (Jc r1) ?_ (hp:=r2);refine Cb ?_;(iterate 2 refine rq rfl rfl rfl rfl (Jc (sy r1 rfl)) ?_);refine Tb ?_
  exact Nc rfl rfl rfl (⟨Vb (by simp[Lg, *]),Aa⟩)
 have h0:=Ac r0;(iterate 2 refine k9 (Vd r0) ?_);refine Eb ?_;refine af rfl rfl ?_ ?_<;>intro r4
 ·
  have h4:=Bc r4;(iterate 2 refine qy ?_ (hg:=(Lc r4)));refine Tb ?_;refine af rfl rfl ?_ ?_<;>intro r5
  ·
   have h5:=Bc (bp r4 r5);(iterate 2 refine k9 (Yc r5) ?_);refine Tb ?_
   exact Nc rfl rfl rfl (⟨Vb (by simp[Lg, *]),Aa⟩)
  have h5:=Ac (bp r4 r5);(iterate 2 refine qy ?_ (hg:=(Jc r5)));refine Tb ?_
  exact Nc rfl rfl rfl (⟨Vb (by simp[Lg, *]),Aa⟩)
 have h4:=Ac r4;(iterate 2 refine k9 (Vd r4) ?_);refine Tb ?_;(iterate 2 refine rq rfl rfl rfl rfl (Jc (sy rfl rfl)) ?_);refine Tb ?_
 exact Nc rfl rfl rfl (⟨Vb (by simp[Lg, *]),Aa⟩)
def Wd{p:Prop}(h:p:=by assumption):p:=h
def XM(s:ByteArray):a6 Ab 68 [pS s] (a7 [pB (gq s)]):=by
 refine Nb (nt:=45) func68 ?_;refine dg ?_;refine af rfl rfl ?_ ?_<;>intro r0
 ·
  have h0:=Bc r0;(iterate 3 refine k9 (Yc r0) ?_);refine Cb ?_;(iterate 4 refine k9 rfl ?_);refine Cb ?_;(iterate 2 refine k9 rfl ?_);refine Jb ?_
  exact Nc rfl rfl rfl (⟨Vb (by first|exact(xd Za).symm|exact(tn Za).symm|exact(BB Wd).symm|exact(qz Wd).symm),Aa⟩)
 have h0:=Ac r0;(iterate 3 refine qy ?_ (hg:=(Jc r0)));refine Cb ?_;refine af rfl rfl ?_ ?_<;>intro r1
 ·
  have h1:=Bc (ai r0 r1);(iterate 4 refine k9 (Yc r1) ?_);refine Cb ?_;(iterate 2 refine k9 rfl ?_);refine Jb ?_
  exact Nc rfl rfl rfl (⟨Vb (by first|exact(xd Za).symm|exact(tn Za).symm|exact(BB Wd).symm|exact(qz Wd).symm),Aa⟩)
 have h1:=Ac (ai r0 r1);(iterate 2 refine qy ?_ (hg:=(Jc r1)));refine Fb (Ib func117) (RM _) ?_ (hg:=(Jc r1));refine qy ?_ (hg:=(Jc r1));refine Cb ?_;refine af rfl rfl ?_ ?_<;>intro r2
 ·
  have h2:=ct (ai r1 r2);(iterate 2 refine k9 (Yc r2) ?_);refine Jb ?_
  exact Nc rfl rfl rfl (⟨Vb (by first|exact(xd Za).symm|exact(tn Za).symm|exact(BB Wd).symm|exact(qz Wd).symm),Aa⟩)
 have h2:=cu (ai r1 r2);(iterate 2 refine qy ?_ (hg:=(Jc r2)));refine Cb ?_;refine aj _ rfl ?_ ?_<;>intro r3
 .have h3:=Bc (ai r2 r3);refine Kc ?_;exact⟨Vb (by first|exact(xd Za).symm|exact(tn Za).symm|exact(BB Wd).symm|exact(qz Wd).symm),Aa⟩
 have h3:=Ac (ai r2 r3);refine dj ?_;refine c6 (ι:=Unit) kn km (λ_i=>⟨[],[]⟩) (λ_i=>gq s=true) ?_ ?_
 ·
  refine Eb ?_;refine aa (ι:=Nat) (ka 0 kn) km (λi=>⟨[(3,some (vI i))],[]⟩) (λi=>i<=s.size/\∀j,j<i->(Lg (c5 s j)||Ik (c5 s j))=true) (λi=>s.size-i) (0) (⟨Zb _,aw⟩) kk ?_;rintro i ⟨hi,hI⟩;refine Wb ?_;refine Kb ?_ ?_<;>intro h4
  ·
   refine Wb ?_;refine Fb (Ib func117) (RM _) ?_;refine Cb ?_;refine af rfl rfl ?_ ?_<;>intro r5
   ·
    have h5:=ct r5;(iterate 5 refine qy ?_ (hg:=(Lc r5)));refine af rfl rfl ?_ ?_<;>intro r6
    ·
     have h6:=Bc r6;(iterate 4 refine k9 (Yc r6) ?_);refine rq rfl rfl rfl rfl (Lc r5) ?_ (hp:=r6);refine Cb ?_;refine aj _ rfl (λ_=>?_) (λe=>Bool.noConfusion ((dq r5 rfl).symm.trans e));refine Mc ?_
     exact Nc rfl rfl rfl (⟨Vb (xy (i:=i) Za Wd (by simp_all [Ik]<;>omega)).symm,Aa⟩)
    have h6:=Ac r6;(iterate 4 refine qy ?_ (hg:=(Jc r6)));refine qy ?_ (hg:=(Lc r5));refine Cb ?_;refine aj _ rfl ?_ ?_<;>intro r7
    .have h7:=Bc (ai r6 (bp r5 r7));refine Kc ?_;exact⟨Vb (xy (i:=i) Za Wd (by simp_all [Ik]<;>omega)).symm,Aa⟩
    have h7:=Ac (ai r6 (bp r5 r7));refine Mb ?_;refine Rb (i+1) kk ?_;exact⟨by omega,al hI (by simp_all [Ik]<;>omega)⟩
   have h5:=cu r5;(iterate 5 refine k9 (Vd r5) ?_);(iterate 4 refine k9 rfl ?_);refine k9 (Vd r5) ?_;refine Cc ?_;refine Rb (i+1) kk ?_
   exact⟨by omega,al hI (by simp_all [Ik]<;>omega)⟩
  refine cg ?_;refine⟨(), ?_, ?_⟩
  .exact ZO Za Za Wd Wd (λj hj=>hI j Za)
  exact⟨Aa,Aa⟩
 rintro _ hj;refine Kc ?_;exact⟨Vb hj.symm,Aa⟩
def JY(l:List ByteArray)(s:ByteArray):a6 Ab 118 [pP (qv l),pS s] (a7 [pI (j0 l s)]):=by
 refine Nb (nt:=19) func118 ?_;refine cj 0 rfl (λhn=>?_);refine Mc ?_;refine c6 (ι:=Unit) kn km (λ_i=>⟨[],[]⟩) (λ_i=>j0 l s=-1) ?_ ?_
 ·
  refine Eb ?_;refine aa (ι:=Nat) (ka 0 (ka 1 kn)) km (λi=>⟨[(5,some (vI i))],[]⟩) (λi=>i<=l.length/\∀j,j<i->decide (l.getD j default=s)=false) (λi=>l.length-i) (0) (⟨Zb _,aw⟩) kk ?_;rintro i ⟨hi,hI⟩;refine Wb ?_;refine Kb ?_ ?_<;>intro h0
  ·
   refine fy ?_;refine Kb ?_ ?_<;>intro h1
   .refine Dd ?_;exact⟨Sb (oi (p:=λx=>decide (x=s)) (i:=i) Za hI (Fa h1)).symm,Aa⟩
   refine Mb ?_;refine Rb (i+1) kk ?_;exact⟨by omega,al hI (Ha h1)⟩
  refine cg ?_;refine⟨(), ?_, ?_⟩
  .exact p8 (p:=λx=>decide (x=s)) λj hj=>hI j Za
  exact⟨Aa,Aa⟩
 rintro _ hj;refine Kc ?_;exact⟨Sb hj.symm,Aa⟩
def jY(l:List ByteArray):a6 Ab 69 [pP (qv l)] (a7 [pB (xl l)]):=by
 refine Nb (nt:=27) func69 ?_;refine cj 0 rfl (λhn=>?_);refine Mc ?_;refine c6 (ι:=Unit) kn km (λ_i=>⟨[],[]⟩) (λ_i=>xl l=true) ?_ ?_
 ·
  refine Eb ?_;refine aa (ι:=Nat) (ka 0 kn) km (λi=>⟨[(3,some (vI i))],[]⟩) (λi=>i<=l.length/\∀j,j<i->nk l j=true) (λi=>l.length-i) (0) (⟨Zb _,aw⟩) kk ?_;rintro i ⟨hi,hI⟩;refine Wb ?_;refine Kb ?_ ?_<;>intro h0
  ·
   refine Cc ?_;refine Fb (Ib func68) (XM _) ?_;refine Cb ?_;refine af rfl rfl ?_ ?_<;>intro r1
   ·
    have h1:=ct r1;(iterate 9 refine k9 (Yc r1) ?_);refine Wb ?_
    exact Nc rfl rfl rfl (⟨Vb (jx (i:=i) Za (by first|(unfold nk;simp_all;done)|(unfold nk;rw[Mz];right;exact Ha Za))).symm,Aa⟩)
   have h1:=cu r1;(iterate 7 refine qy ?_ (hg:=(Jc r1)));refine rc rfl rfl rfl rfl rfl rfl (Ib func118) (JY (l.take i) (l.getD i default)) (⟨Ob.one (vE (k:=i) Za),Sa,Aa⟩) rfl (Jc r1) ?_
   refine qy ?_ (hg:=(Jc r1));refine Tb ?_;refine aj _ rfl ?_ ?_<;>intro r2
   .have h2:=Bc (ai r1 r2);refine Kc ?_;exact⟨Vb (jx (i:=i) Za (by first|(unfold nk;simp_all;done)|(unfold nk;rw[Mz];right;exact Ha Za))).symm,Aa⟩
   have h2:=Ac (ai r1 r2);refine Mb ?_;refine Rb (i+1) kk ?_;exact⟨by omega,al hI (by simp only[nk,Od,Ja];exact⟨by assumption,by omega⟩)⟩
  refine cg ?_;refine⟨(), ?_, ?_⟩
  .exact n9 λj hj=>hI j Za
  exact⟨Aa,Aa⟩
 rintro _ hj;refine Kc ?_;exact⟨Vb hj.symm,Aa⟩
def UM(s:ByteArray):a6 Ab 64 [pS s] (a7 [pB (gq s)]):=by
 refine Nb (nt:=58) func64 ?_;refine ce ?_;refine af rfl rfl ?_ ?_<;>intro r0
 ·
  have h0:=Bc r0;(iterate 3 refine k9 (Yc r0) ?_);refine Cb ?_;(iterate 2 refine k9 rfl ?_);refine Jb ?_
  exact Nc rfl rfl rfl (⟨Vb (by first|exact(xd (NB.2 Wd)).symm|exact(tn Za).symm|exact(qz Wd).symm),Aa⟩)
 have h0:=Ac r0;(iterate 3 refine qy ?_ (hg:=(Jc r0)));refine Cb ?_;refine af rfl rfl ?_ ?_<;>intro r1
 ·
  have h1:=Bc (ai r0 r1);(iterate 2 refine k9 (Yc r1) ?_);refine Jb ?_
  exact Nc rfl rfl rfl (⟨Vb (by first|exact(xd (NB.2 Wd)).symm|exact(tn Za).symm|exact(qz Wd).symm),Aa⟩)
 have h1:=Ac (ai r0 r1);(iterate 2 refine qy ?_ (hg:=(Jc r1)));refine Cb ?_;refine aj _ rfl ?_ ?_<;>intro r2
 .have h2:=Bc (ai r1 r2);refine Kc ?_;exact⟨Vb (by first|exact(xd (NB.2 Wd)).symm|exact(tn Za).symm|exact(qz Wd).symm),Aa⟩
 have h2:=Ac (ai r1 r2);refine dj ?_;refine c6 (ι:=Unit) kn km (λ_i=>⟨[],[]⟩) (λ_i=>gq s=true) ?_ ?_
 ·
  refine Jb ?_;refine aa (ι:=Nat) (ka 0 (ka 18 kn)) km (λi=>⟨[(19,some (vI i))],[]⟩) (λi=>i<=s.size/\(∀j,j<i->(Lg (c5 s j)||Ik (c5 s j))=true)/\(0<i->Lg (c5 s 0)=true)) (λi=>s.size-i) (0) (⟨Zb _,aw,λh=>by omega⟩) kk ?_;rintro i ⟨hi,hI,hz⟩;refine Eb ?_;refine Kb ?_ ?_<;>intro h3
  ·
   refine jz ?_;refine m7 (ka 0 (ka 3 (ka 4 (ka 18 (ka 19 kn))))) km ⟨[(5,some (vB (Lg (c5 s i))))],[]⟩ ?_ ?_
   ·
    refine Mc ?_;refine af rfl rfl ?_ ?_<;>intro r4
    ·
     have h4:=Bc r4;(iterate 2 refine qy ?_ (hg:=(Lc r4)));refine Cb ?_;refine af rfl rfl ?_ ?_<;>intro r5
     ·
      have h5:=Bc (bp r4 r5);(iterate 3 refine k9 (Yc r5) ?_);(iterate 2 refine k9 rfl ?_);refine k9 (Yc r5) ?_;refine Cb ?_;(iterate 2 refine k9 rfl ?_);refine Tb ?_
      exact⟨⟨⟨_,rfl,(Jf (by simp[Lg, *]))⟩,tt⟩,Aa⟩
     have h5:=Ac (bp r4 r5);(iterate 3 refine qy ?_ (hg:=(Jc r5)));refine af rfl rfl ?_ ?_<;>intro r6
     ·
      have h6:=Bc r6;(iterate 2 refine qy ?_ (hg:=(Lc r6)));refine qy ?_ (hg:=(Jc r5));refine Cb ?_;refine af rfl rfl ?_ ?_<;>intro r7
      ·
       have h7:=Bc (bp r6 (ai r5 r7));(iterate 2 refine k9 (Yc r7) ?_);refine Tb ?_
       exact⟨⟨⟨_,rfl,(Jf (by simp[Lg, *]))⟩,tt⟩,Aa⟩
      have h7:=Ac (bp r6 (ai r5 r7));(iterate 2 refine qy ?_ (hg:=(Jc r7)));refine Tb ?_
      exact⟨⟨⟨_,rfl,(Jf (by simp[Lg, *]))⟩,tt⟩,Aa⟩
     have h6:=Ac r6;(iterate 2 refine k9 (Vd r6) ?_);refine rq rfl rfl rfl rfl (Jc r5) ?_ (hp:=r6);refine Cb ?_;(iterate 2 refine rq rfl rfl rfl rfl (Jc (sy r5 rfl)) ?_);refine Tb ?_
     exact⟨⟨⟨_,rfl,(Jf (by simp[Lg, *]))⟩,tt⟩,Aa⟩
    have h4:=Ac r4;(iterate 2 refine k9 (Vd r4) ?_);refine Eb ?_;refine af rfl rfl ?_ ?_<;>intro r8
    ·
     have h8:=Bc r8;(iterate 2 refine qy ?_ (hg:=(Lc r8)));refine Tb ?_;refine af rfl rfl ?_ ?_<;>intro r9
     ·
      have h9:=Bc (bp r8 r9);(iterate 2 refine k9 (Yc r9) ?_);refine Tb ?_
      exact⟨⟨⟨_,rfl,(Jf (by simp[Lg, *]))⟩,tt⟩,Aa⟩
     have h9:=Ac (bp r8 r9);(iterate 2 refine qy ?_ (hg:=(Jc r9)));refine Tb ?_
     exact⟨⟨⟨_,rfl,(Jf (by simp[Lg, *]))⟩,tt⟩,Aa⟩
    have h8:=Ac r8;(iterate 2 refine k9 (Vd r8) ?_);refine Tb ?_;(iterate 2 refine rq rfl rfl rfl rfl (Jc (sy rfl rfl)) ?_);refine Tb ?_
    exact⟨⟨⟨_,rfl,(Jf (by simp[Lg, *]))⟩,tt⟩,Aa⟩
   refine Eb ?_;refine af rfl rfl ?_ ?_<;>intro r10
   ·
    have h10:=ct r10;(iterate 3 refine qy ?_ (hg:=(Lc r10)));refine af rfl rfl ?_ ?_<;>intro r11
    ·
     have h11:=Bc r11;(iterate 2 refine k9 (Yc r11) ?_);refine rq rfl rfl rfl rfl (Lc r10) ?_ (hp:=r11);refine qy ?_ (hg:=(Lc r10));(iterate 2 refine k9 rfl ?_);refine qy ?_ (hg:=(Lc r10));refine Cb ?_
     refine aj _ rfl (λ_=>?_) (λe=>Bool.noConfusion ((dq r10 rfl).symm.trans e));refine Kc ?_;exact⟨Vb (by first|exact(sK (i:=i) Wd Wd).symm|exact(xy (i:=i) Za Wd (by simp[Ik, *]<;>omega)).symm),Aa⟩
    have h11:=Ac r11;(iterate 2 refine qy ?_ (hg:=(Jc r11)));(iterate 2 refine qy ?_ (hg:=(Lc r10)));refine af rfl rfl ?_ ?_<;>intro r12
    ·
     have h12:=Bc (ai r11 r12);(iterate 2 refine k9 (Yc r12) ?_);refine rq rfl rfl rfl rfl (Lc r10) ?_ (hp:=r12);refine Cb ?_;refine aj _ rfl (λ_=>?_) (λe=>Bool.noConfusion ((dq r10 rfl).symm.trans e));refine Mc ?_
     exact Nc rfl rfl rfl (⟨Vb (by first|exact(sK (i:=i) Wd Wd).symm|exact(xy (i:=i) Za Wd (by simp[Ik, *]<;>omega)).symm),Aa⟩)
    have h12:=Ac (ai r11 r12);(iterate 2 refine qy ?_ (hg:=(Jc r12)));refine qy ?_ (hg:=(Lc r10));refine Cb ?_;refine aj _ rfl ?_ ?_<;>intro r13
    .have h13:=Bc (ai r12 (bp r10 r13));refine Kc ?_;exact⟨Vb (by first|exact(sK (i:=i) Wd Wd).symm|exact(xy (i:=i) Za Wd (by simp[Ik, *]<;>omega)).symm),Aa⟩
    have h13:=Ac (ai r12 (bp r10 r13));refine Eb ?_;refine Rb (i+1) kk ?_;exact⟨by omega,al hI (by simp_all [Ik]<;>omega),λ_=>WM hz (λe=>by first|assumption|(exfalso;omega))⟩
   have h10:=cu r10;(iterate 3 refine k9 (Vd r10) ?_);(iterate 2 refine k9 rfl ?_);(iterate 2 refine k9 (Vd r10) ?_);(iterate 2 refine k9 rfl ?_);refine k9 (Vd r10) ?_;refine Wb ?_;refine Rb (i+1) kk ?_
   exact⟨by omega,al hI (by simp_all [Ik]<;>omega),λ_=>WM hz (λe=>by first|assumption|(exfalso;omega))⟩
  refine cg ?_;refine⟨(), ?_, ?_⟩
  .exact ZO (λe=>Ea ((NB (s:=s)).1 e) Wd) Za (hz (Nat.pos_of_ne_zero (λe=>Ea ((NB (s:=s)).1 Za) Wd))) Wd (λj hj=>hI j Za)
  exact⟨Aa,Aa⟩
 rintro _ hj;refine Kc ?_;exact⟨Vb hj.symm,Aa⟩
def vH:goodFn Ab 40:=Ib func40
def EM(l:List ByteArray)(s:ByteArray):a6 Ab 40 [pP (qv l),pS s] (a7 [pI (j0 l s)]):=by
 refine Nb (nt:=19) func40 ?_;refine cj 0 rfl (λhn=>?_);refine Mc ?_;refine c6 (ι:=Unit) kn km (λ_i=>⟨[],[]⟩) (λ_i=>j0 l s=-1) ?_ ?_
 ·
  refine Jb ?_;refine aa (ι:=Nat) (ka 0 (ka 1 (ka 7 kn))) km (λi=>⟨[(8,some (vI i))],[]⟩) (λi=>i<=l.length/\∀j,j<i->decide (l.getD j default=s)=false) (λi=>l.length-i) (0) (⟨Zb _,aw⟩) kk ?_;rintro i ⟨hi,hI⟩;refine Eb ?_;refine Kb ?_ ?_<;>intro h0
  ·
   refine qh ?_;refine Kb ?_ ?_<;>intro h1
   .refine Dd ?_;exact⟨Sb (oi (p:=λx=>decide (x=s)) (i:=i) Za hI (Fa h1.symm)).symm,Aa⟩
   refine Eb ?_;refine Rb (i+1) kk ?_;exact⟨by omega,al hI (Ha λe=>h1 e.symm)⟩
  refine cg ?_;refine⟨(), ?_, ?_⟩
  .exact p8 (p:=λx=>decide (x=s)) λj hj=>hI j Za
  exact⟨Aa,Aa⟩
 rintro _ hj;refine Kc ?_;exact⟨Sb hj.symm,Aa⟩
def FM (l:List ByteArray) (s:ByteArray):a6 Ab 46 [pP (qv l),pS s] (a7 [pB (decide (0<=j0 l s))]):=by
 refine Nb (nt:=9) func46 ?_;refine Wb ?_;refine Fb vH (EM _ _) ?_;refine Ef ?_;exact Ta
def bY(l:List Lb)(g k:Nat)(caps:Nat->PV)(V:Lb->Bool)(hg:goodFn Ab g)(hV:∀i,i<l.length->a6 Ab g ((l.getD i default).pc::gu caps k 0) (a7 [pB (V (l.getD i default))])):a6 Ab 164 [pP (vals l),pP (.fn g k caps)] (a7 [pI (Ee V l)]):=by
 refine Nb (nt:=19) func164 ?_;refine cj 0 rfl (λhn=>?_);refine Mc ?_;refine c6 (ι:=Unit) kn km (λ_i=>⟨[],[]⟩) (λ_i=>Ee V l=-1) ?_ ?_
 ·
  refine Jb ?_;refine aa (ι:=Nat) (ka 0 (ka 1 (ka 7 kn))) km (λi=>⟨[(8,some (vI i))],[]⟩) (λi=>i<=l.length/\∀j,j<i->V (l.getD j default)=false) (λi=>l.length-i) (0) (⟨Zb _,aw⟩) kk ?_;rintro i ⟨hi,hI⟩;refine Eb ?_;refine Kb ?_ ?_<;>intro h0
  ·
   refine jz ?_;refine rc rfl rfl rfl rfl rfl rfl hg (hV i Za) Ta rfl rfl ?_;refine cn ?_;refine We ?_ ?_<;>intro h1
   .refine Dd ?_;exact⟨Sb (oi (i:=i) Za hI h1).symm,Aa⟩
   refine Eb ?_;refine Rb (i+1) kk ?_;exact⟨by omega,al hI (h1)⟩
  refine cg ?_;refine⟨(), ?_, ?_⟩
  .exact p8 λj hj=>hI j Za
  exact⟨Aa,Aa⟩
 rintro _ hj;refine Kc ?_;exact⟨Sb hj.symm,Aa⟩
def xY (l:List Lb) (g k:Nat) (caps:Nat->PV) (V:Lb->Bool) (hg:goodFn Ab g) (hV:∀i,i<l.length->a6 Ab g ((l.getD i default).pc::gu caps k 0) (a7 [pB (V (l.getD i default))])):a6 Ab 113 [pP (vals l),pP (.fn g k caps)] (a7 [pB (l.any V)]):=by
 refine Nb (nt:=9) func113 ?_;refine Wb ?_;refine Fb (Ib func164) (bY l g k caps V hg hV) ?_;refine Ef ?_;exact⟨Vb Qy,Aa⟩
def TY (v:Lb):a6 Ab 114 [v.pc] (a7 [pB (!cz v)]):=by
 refine Nb (nt:=6) func114 ?_;refine Rc ?_;refine m9 0 ?_;refine Eb ?_;refine Fb (Ib func115) (pM _) ?_;refine Ef ?_;exact Ta
def KX (l:List Lb):a6 Ab 65 [pP (vals l)] (a7 [pB (l.all cz)]):=by
 refine Nb (nt:=6) func65 ?_;refine Jb ?_;refine Fb (Ib func113) (xY l 114 0 (λ_=>.any) (λv=>!cz v) (Ib func114) (λi _=>TY _)) ?_;refine Ef ?_;exact⟨Vb ara,Aa⟩
abbrev XL(ps:List PV):PV:=.vp ps.length λj=>ps.getD j .any
def rE{n:Nat}{l:List Xb}{i:Nat}{b e:Int}(hi:i<l.length)(h:fh n b (l.drop i)=e):(if(l.getD i default).id<=b then 1 else if(l.getD i default).vals.length≠n then 6 else if((l.getD i default).vals.all cz)=false then 1 else fh n (l.getD i default).id (l.drop (i+1)))=e:=by rw[<- alp hi];exact h
def tE {t:ac} {e:Int} (h0:gq t.name=true) (h1:¬16<t.attrs.length) (h2:¬1000<t.rows.length) (h3:xl t.attrs=true) (h:fh t.attrs.length 0 t.rows=e):eo t=e:=by
 have:¬(16<t.attrs.length\/1000<t.rows.length):=by omega
 simp[eo,h0,h3,h,this]
def aM{t:ac}(h0:gq t.name=false):eo t=1:=by simp[eo,h0]
def WB{t:ac}(h0:gq t.name=true)(h1:16<t.attrs.length\/1000<t.rows.length):eo t=3:=by simp[eo,h0,h1]
def PF {t:ac} (h0:gq t.name=true) (h1:¬16<t.attrs.length) (h2:¬1000<t.rows.length) (h3:xl t.attrs=false):eo t=1:=by
 have:¬(16<t.attrs.length\/1000<t.rows.length):=by omega
 simp[eo,h0,h3,this]
def rD:goodFn Ab 29:=Ib func29
def cC(t:ac):a6 Ab 29 [t.pc] (a7 [pI (eo t)]):=by
 refine Nb (nt:=53) func29 ?_;refine Rc ?_;refine m9 0 ?_;refine Jb ?_;refine Fb (Ib func68) (XM _) ?_;refine Cb ?_;refine Xd ?_ ?_<;>intro h0
 .refine Kc ?_;exact⟨Sb (aM Wd).symm,Aa⟩
 refine Cc ?_;refine af rfl rfl ?_ ?_<;>intro r1
 ·
  have h1:=Bc r1;(iterate 4 refine k9 (Yc r1) ?_);refine Jb ?_
  exact Nc rfl rfl rfl (⟨Sb (WB Wd Za).symm,Aa⟩)
 have h1:=Ac r1;(iterate 4 refine qy ?_ (hg:=(Jc r1)));refine Cb ?_;refine aj _ rfl ?_ ?_<;>intro r2
 .have h2:=Bc (ai r1 r2);refine Kc ?_;exact⟨Sb (WB Wd Za).symm,Aa⟩
 have h2:=Ac (ai r1 r2);refine Mb ?_;refine Fb (Ib func69) (jY _) ?_;refine Cb ?_;refine Xd ?_ ?_<;>intro h3
 .refine Kc ?_;exact⟨Sb (PF Wd Za Za Wd).symm,Aa⟩
 refine Eb ?_;refine c6 (ι:=Unit) kn km (λ_i=>⟨[],[]⟩) (λ_i=>fh t.attrs.length 0 t.rows=0) ?_ ?_
 ·
  refine Eb ?_;refine aa (ι:=(Nat×Int)) (ka 1 kn) (kb 0 km) (λx=>⟨[(3,some (vI x.2)),(4,some (vI x.1))],[]⟩) (λx=>x.1<=t.rows.length/\fh t.attrs.length x.2 (t.rows.drop x.1)=fh t.attrs.length 0 t.rows) (λx=>t.rows.length-x.1) ((0,0)) (⟨Zb _,rfl⟩) kk ?_;rintro⟨i,b⟩ ⟨hi,hI⟩;dsimp only at hi hI ⊢;refine Cc ?_;refine Kb ?_ ?_<;>intro h4
  ·
   refine ce ?_;refine m9 1 ?_;refine ce ?_;refine Kb ?_ ?_<;>intro h5
   .refine Mc ?_;refine Db ?_;have hs:=rE Za hI;rw[Ba Za]at hs;exact f9 rfl rfl (⟨Sb (tE Wd Za Za Wd hs.symm).symm,Aa⟩)
   refine Tz ?_;refine Sc ?_ ?_<;>intro h6
   .refine Mc ?_;refine Db ?_;have hs:=rE Za hI;rw[Ca Za,Ba Za]at hs;exact f9 rfl rfl (⟨Sb (tE Wd Za Za Wd hs.symm).symm,Aa⟩)
   refine Eb ?_;refine Fb (Ib func70) (MX _) ?_;refine Cb ?_;refine Xd ?_ ?_<;>intro h7
   .refine Mc ?_;refine Db ?_;have hs:=rE Za hI;rw[Ca Za,Ca Za,Ba Wd]at hs;exact f9 rfl rfl (⟨Sb (tE Wd Za Za Wd hs.symm).symm,Aa⟩)
   refine Mb ?_;refine Rb (i+1,(t.rows.getD i default).id) kk ?_;refine⟨by dsimp only;omega, ?_⟩;have hs:=rE Za hI;rw[Ca Za,Ca Za,Ca (λe=>Bool.noConfusion (e.symm.trans (show _=true by assumption)))]at hs;exact hs
  refine cg ?_;refine⟨(), ?_, ?_⟩
  .rw[<- hI,Hv Za];rfl
  exact⟨Aa,Aa⟩
 rintro _ hj;refine Kc ?_;exact⟨Sb (tE Wd Za Za Wd hj).symm,Aa⟩
def CD:goodFn Ab 25:=Ib func25
def aC(t:ac):a6 Ab 25 [t.pc] (a7 [pI (eo t)]):=by
 refine Nb (nt:=70) func25 ?_;refine Rc ?_;refine m9 0 ?_;refine Jb ?_;refine Fb (Ib func64) (UM _) ?_;refine Cb ?_;refine Xd ?_ ?_<;>intro h0
 .refine Kc ?_;exact⟨Sb (aM Wd).symm,Aa⟩
 refine Cc ?_;refine af rfl rfl ?_ ?_<;>intro r1
 ·
  have h1:=Bc r1;(iterate 4 refine k9 (Yc r1) ?_);refine Jb ?_
  exact Nc rfl rfl rfl (⟨Sb (WB Wd Za).symm,Aa⟩)
 have h1:=Ac r1;(iterate 4 refine qy ?_ (hg:=(Jc r1)));refine Cb ?_;refine aj _ rfl ?_ ?_<;>intro r2
 .have h2:=Bc (ai r1 r2);refine Kc ?_;exact⟨Sb (WB Wd Za).symm,Aa⟩
 have h2:=Ac (ai r1 r2);refine dj ?_;refine c6 (ι:=Unit) (ka 1 kn) (kb 0 km) (λ_i=>⟨[],[]⟩) (λ_i=>xl t.attrs=true) ?_ ?_
 ·
  refine Wb ?_;refine aa (ι:=Nat) (ka 1 (ka 23 (ka 24 kn))) (kb 0 km) (λi=>⟨[(25,some (vI i))],[]⟩) (λi=>i<=t.attrs.length/\∀j,j<i->nk t.attrs j=true) (λi=>t.attrs.length-i) (0) (⟨Zb _,aw⟩) kk ?_;rintro i ⟨hi,hI⟩;refine Eb ?_;refine Kb ?_ ?_<;>intro h3
  ·
   refine rp ?_;refine Fb (Ib func64) (UM _) ?_;refine Cb ?_;refine af rfl rfl ?_ ?_<;>intro r4
   ·
    have h4:=ct r4;(iterate 6 refine k9 (Yc r4) ?_);refine Jb ?_
    exact Nc rfl rfl rfl (⟨Sb (PF Wd Za Za (jx (i:=i) Za (by first|(unfold nk;simp_all;done)|(unfold nk;rw[Mz];right;exact Ha Za)))).symm,Aa⟩)
   have h4:=cu r4;(iterate 5 refine qy ?_ (hg:=(Jc r4)));refine rc rfl rfl rfl rfl rfl rfl (Ib func46) (FM (t.attrs.take i) (t.attrs.getD i default)) (⟨Ob.one (vE (k:=i) Za),Sa,Aa⟩) rfl (Jc r4) ?_;refine Cb ?_
   refine aj _ rfl ?_ ?_<;>intro r5
   .have h5:=ai r4 r5;refine Kc ?_;exact⟨Sb (PF Wd Za Za (jx (i:=i) Za (by first|(unfold nk;simp_all;done)|(unfold nk;rw[Mz];right;exact Ha Za)))).symm,Aa⟩
   have h5:=ai r4 r5;have hM:=dG h5;refine Eb ?_;refine Rb (i+1) kk ?_;exact⟨by omega,al hI (by simp only[nk,Od,Ja];exact⟨by assumption,by simp_all⟩)⟩
  refine cg ?_;refine⟨(), ?_, ?_⟩
  .exact n9 λj hj=>hI j Za
  exact kk
 rintro _ hnm;refine Mc ?_;refine c6 (ι:=Unit) kn km (λ_i=>⟨[],[]⟩) (λ_i=>fh t.attrs.length 0 t.rows=0) ?_ ?_
 ·
  refine Wb ?_;refine aa (ι:=(Nat×Int)) (ka 1 (ka 43 (ka 44 kn))) (kb 0 km) (λx=>⟨[(5,some (vI x.2)),(45,some (vI x.1))],[]⟩) (λx=>x.1<=t.rows.length/\fh t.attrs.length x.2 (t.rows.drop x.1)=fh t.attrs.length 0 t.rows) (λx=>t.rows.length-x.1) ((0,0)) (⟨Zb _,rfl⟩) kk ?_;rintro⟨i,b⟩ ⟨hi,hI⟩;dsimp only at hi hI ⊢;refine Eb ?_;refine Kb ?_ ?_<;>intro h6
  ·
   refine Jb ?_;refine m9 1 ?_;refine fy ?_;refine Kb ?_ ?_<;>intro h7
   .refine Mc ?_;refine Db ?_;have hs:=rE Za hI;rw[Ba Za]at hs;exact f9 rfl rfl (⟨Sb (tE Wd Za Za Wd hs.symm).symm,Aa⟩)
   refine dg ?_;refine Sc ?_ ?_<;>intro h8
   .refine Mc ?_;refine Db ?_;have hs:=rE Za hI;rw[Ca Za,Ba Za]at hs;exact f9 rfl rfl (⟨Sb (tE Wd Za Za Wd hs.symm).symm,Aa⟩)
   refine Mc ?_;refine Fb (Ib func65) (KX _) ?_;refine Tb ?_;refine Xd ?_ ?_<;>intro h9
   .refine Mc ?_;refine Db ?_;have hs:=rE Za hI;rw[Ca Za,Ca Za,Ba Wd]at hs;exact f9 rfl rfl (⟨Sb (tE Wd Za Za Wd hs.symm).symm,Aa⟩)
   refine ce ?_;refine Rb (i+1,(t.rows.getD i default).id) kk ?_;refine⟨by dsimp only;omega, ?_⟩;have hs:=rE Za hI;rw[Ca Za,Ca Za,Ca (λe=>Bool.noConfusion (e.symm.trans (show _=true by assumption)))]at hs;exact hs
  refine cg ?_;refine⟨(), ?_, ?_⟩
  .rw[<- hI,Hv Za];rfl
  exact⟨Aa,Aa⟩
 rintro _ hj;refine Kc ?_;exact⟨Sb (tE Wd Za Za Wd hj).symm,Aa⟩
def bfh(n:Nat)(c:Bool)(f:Nat->Nat->PV)(hn:n<=8796093022208) :
 dn Ab 39 [.one (.p (.sl n 1 c f))] [] (.v (.one (.ref 0 n))) [(0, .arr true 1 9 n f)] []:=by
 refine Eg (nt:=8) func39 ?_;refine Rc ?_;refine db true rfl rfl rfl rfl rfl trivial ?_;refine cn ?_;refine iB (ι:=Bool) (λc=>⟨[(0,some (bu (.sl n 1 c f)))],[]⟩) (λ_=>True) ?_ λc _=>?_
 .rcases Mj n with hz|h0
  .subst hz
   refine Qf 0 rfl λad cap hcap=>?_;refine Rc ?_;(iterate 2 refine db true rfl rfl rfl rfl rfl trivial ?_);refine cn ?_;refine aj ad.isNone rfl ?_ ?_<;>intro hc
   .refine Rc ?_
    refine db true rfl rfl rfl rfl rfl trivial ?_;refine cn ?_;refine d9 2 0 true 1 9 f Zc rfl (Wa rfl (.inr rfl) (λh=>h) λi j hi _=>Ea hi (Ud i)) (.inr rfl) rfl ?_;refine Db ?_;exact⟨_,_,rfl,Aa,Ua,uu⟩
   refine dj ?_;exact⟨false,Aa,⟨⟨_,rfl,Fc.raw_sl hcap⟩,Aa⟩,Aa⟩
  refine Rc ?_;refine db true rfl rfl rfl rfl rfl trivial ?_;refine db true rfl rfl rfl rfl rfl h0 ?_;refine cn ?_;refine aj false rfl (λhc=>by cases hc) (λhc=>?_);refine dj ?_;exact⟨c,Aa,tt,Aa⟩
 refine Rc ?_;refine zw 0 rfl rfl rfl rfl rfl rfl trivial ?_;refine db true rfl rfl rfl rfl rfl trivial ?_;refine Yx 0 true rfl rfl rfl rfl rfl rfl ⟨Aa,rfl,rfl,rfl, .inl rfl,by show 0+n<=9223372036854775807;omega,by show(0+n)*16<=140737488355328;omega,λ_=>.inl rfl⟩ ?_;refine db true rfl rfl rfl rfl rfl trivial ?_;refine cn ?_;refine Db ?_;refine⟨_,_,rfl,Aa,Xa (by show HR.v (.one (.ref 0 (0+n)))=_;rw[Oe]),⟨⟨_,rfl, ?_⟩,Aa⟩⟩;exact⟨λh=>h,rfl,rfl,(Oe n).symm,λi j _ _=>Va (by simp[ek])⟩
def PY(l:List ByteArray)(h:l.length<=68719476736):dn Ab 39 [.one (.p (Ff 1 ku l))] [] (.v (.one (.ref 0 l.length))) [(0, .arr true 1 9 l.length (lf ku l))] []:=bfh l.length false (lf ku l) Za
def OX (c:Int) (hc:0<=c):a6 Ab 48 [dM c] (a7 [(Kg (c%12)).pc]):=by
 refine Nb (nt:=39) func48 ?_;refine Rc ?_;refine m9 0 ?_;refine jq ?_;refine Kb ?_ ?_<;>intro h0
 .refine Dd ?_;exact⟨Ob.of_eq (by rw[show Kg (c%12)=⟨1,0,Ye⟩ from by simp[Kg, *]];rfl),Aa⟩
 refine Eb ?_;refine Kb ?_ ?_<;>intro h1
 .refine Dd ?_;exact⟨Ob.of_eq (by rw[show Kg (c%12)=⟨1,1,Ye⟩ from by simp[Kg, *]];rfl),Aa⟩
 refine Eb ?_;refine Kb ?_ ?_<;>intro h2
 .refine Dd ?_;exact⟨Ob.of_eq (by rw[show Kg (c%12)=⟨1,2,Ye⟩ from by simp[Kg, *]];rfl),Aa⟩
 refine Eb ?_;refine Kb ?_ ?_<;>intro h3
 .refine Dd ?_;exact⟨Ob.of_eq (by rw[show Kg (c%12)=⟨0,0,Ye⟩ from by simp[Kg, *]];rfl),Aa⟩
 refine Eb ?_;refine Kb ?_ ?_<;>intro h4
 .refine Dd ?_;exact⟨Ob.of_eq (by rw[show Kg (c%12)=⟨2,0,⟨#[97]⟩⟩ from by simp[Kg, *]];rfl),Aa⟩
 refine Eb ?_;refine Kb ?_ ?_<;>intro h5
 .refine Dd ?_;exact⟨Ob.of_eq (by rw[show Kg (c%12)=⟨2,0,⟨#[98]⟩⟩ from by simp[Kg, *]];rfl),Aa⟩
 refine Eb ?_;refine Kb ?_ ?_<;>intro h6
 .refine Dd ?_;exact⟨Ob.of_eq (by rw[show Kg (c%12)=⟨2,0,Ye⟩ from by simp[Kg, *]];rfl),Aa⟩
 refine Eb ?_;refine Kb ?_ ?_<;>intro h7
 .refine Dd ?_;exact⟨Ob.of_eq (by rw[show Kg (c%12)=⟨3,1,Ye⟩ from by simp[Kg, *]];rfl),Aa⟩
 refine Eb ?_;refine Kb ?_ ?_<;>intro h8
 .refine Dd ?_;exact⟨Ob.of_eq (by rw[show Kg (c%12)=⟨1, -1,Ye⟩ from by simp[Kg, *]];rfl),Aa⟩
 refine Eb ?_;refine Kb ?_ ?_<;>intro h9
 .refine Dd ?_;exact⟨Ob.of_eq (by rw[show Kg (c%12)=⟨2,0,⟨#[97,98]⟩⟩ from by simp[Kg, *]];rfl),Aa⟩
 refine Eb ?_;refine Kb ?_ ?_<;>intro h10
 .refine Dd ?_;exact⟨Ob.of_eq (by rw[show Kg (c%12)=⟨3,2,Ye⟩ from by simp[Kg, *]];rfl),Aa⟩
 refine Eh ?_;exact⟨Ob.of_eq (by rw[show Kg (c%12)=⟨1,7,Ye⟩ from by simp[Kg, *]];rfl),Aa⟩
abbrev bto(v:Lb):List Value:=[.int .i64 v.kind, .int .i64 v.num, .string v.str]
end
abbrev GZ:PV:=.sl 0 3 true (lf Lb.c [])
def bu0(R:List Xb)(a:Nat):Nat->Nat->PV:=λi _=>if i<a then vals (zG R i)else GZ
def tL{l:List (List Lb)}:(ir l).length=l.length:=by simp[ir]
section
abbrev Xl:=Bool×Int×Int×Int
abbrev Xl.c(s:Xl):Nat->PV:=λj=>[.raw (.bool s.1), .raw (.int .i64 s.2.1), .raw (.int .i64 s.2.2.1), .raw (.int .i64 s.2.2.2)].getD j .any
abbrev Xl.pc(s:Xl):PC:=.agg [.raw (.bool s.1), .raw (.int .i64 s.2.1), .raw (.int .i64 s.2.2.1), .raw (.int .i64 s.2.2.2)]
abbrev bta(l:List Xl):PV:=Ff 4 Xl.c l
def St.r(s:St):Xl:=(s.1,(s.2.1:Int),(s.2.2.1:Int),(s.2.2.2:Int))
abbrev Sv(a:Int)(l:List Rw)(p m:List Fd)(s:Xl):Int×List Rw×Int:=ec a l p m s.1 s.2.1 s.2.2.1 s.2.2.2
def Tq (n:Int) (p m:List Fd):Int->List Rw->List Xl->Bool
 |_,l,[]=>kz n l
 |a,l,s::r=>if(Sv a l p m s).2.2=0 then Tq n p m (Sv a l p m s).1 (Sv a l p m s).2.1 r else false
def bu7(n:Int)(ps:List AS)(p m:List Fd)(sts:List Xl):Bool:=decide (Sd n ps=0)&&(decide (c8 n p m=0)&&Tq n p m n (ax (bf n ps)) sts)
structure Ws (n:Int) (ps:List AS) (p m:List Fd) (sts:List Xl) (x:Nat×Int×List Rw×Int):Prop where
 le:x.1<=sts.length
 ok:x.2.2.2=0->Tq n p m n (ax (bf n ps)) sts=Tq n p m x.2.1 x.2.2.1 (sts.drop x.1)
 no:¬x.2.2.2=0->Tq n p m n (ax (bf n ps)) sts=false
section
variable {n:Int}{ps:List AS}{p m:List Fd}{sts:List Xl}
def Ws.start:Ws n ps p m sts (0,n,ax (bf n ps),0):=⟨Zb _,λ_=>rfl,λh=>Ea rfl h⟩
section
variable {x:Nat×Int×List Rw×Int}
def Ws.step (h:Ws n ps p m sts x) (hi:x.1<sts.length) (h0:x.2.2.2=0):Ws n ps p m sts (x.1+1,(Sv x.2.1 x.2.2.1 p m (sts.getD x.1 default)).1,(Sv x.2.1 x.2.2.1 p m (sts.getD x.1 default)).2.1,(Sv x.2.1 x.2.2.1 p m (sts.getD x.1 default)).2.2):=by
 have e:sts.drop x.1=sts.getD x.1 default::sts.drop (x.1+1):=by
  rw[Ss hi,Oc,Hc hi];rfl
 have h1:=h.ok h0;rw[e,Tq]at h1;refine⟨hi,λh2=>?_,λh2=>?_⟩
 .rw[h1,Ba h2]
 rw[h1,Ca h2]
def Ws.fin (h:Ws n ps p m sts x) (hi:¬x.1<sts.length) (h0:x.2.2.2=0):Tq n p m n (ax (bf n ps)) sts=kz n x.2.2.1:=by
 rw[h.ok h0,List.drop_of_length_le Za,Tq]
end
end
def nZ(r:Rw):List Lb:=r.map λz=>⟨1,z,Ye⟩
def ZX(l:List Rw):List Xb:=(List.range l.length).map λ(i:Nat)=>⟨(i:Int)+1,nZ (l.getD i default)⟩
def EY(n:Int)(ps:List AS)(p m:List Fd):Int:=if Zd n ps p m≠0 then Zd n ps p m else if kz n (Ce n ps p m).2.1.2=true then 10 else 0
def btx(n:Int)(ps:List AS)(p m:List Fd):ac:=if EY n ps p m=0 then⟨⟨#[116]⟩,og.take n.toNat,ZX (Ce n ps p m).2.1.2⟩else T0
section
variable {n:Int}{ps:List AS}{p m:List Fd}
end
def bu2(n:Int)(a b:AS)(l:List Fd):Bool:=decide (br n l=0)&&(decide (a|||b=ak n)&&(decide (sub a (clo l (a&&&b)))||decide (sub b (clo l (a&&&b)))))
end
section
section
variable {α:Type}[DecidableEq α]{c:α->α->Int}
def YM (c:α->α->Int) (x:α):List α->List α
 | []=>[x]
 |y::l=>if c x y<0 then x::y::l else if c x y=0 then y::l else y::YM c x l
def bug(c:α->α->Int)(l:List α):List α:=l.foldr (YM c) []
end
def awR:List Xb:=[⟨1,[⟨1,0,Ye⟩,⟨1,1,Ye⟩,⟨1,5,Ye⟩]⟩,⟨2,[⟨1,6,Ye⟩,⟨1,1,Ye⟩,⟨1,2,Ye⟩]⟩]
def awT:ac:=⟨⟨#[116]⟩,og.take 3,awR⟩
end
section
def ni(l:List Xb)(v:List Lb):Bool:=l.any λr=>decide (r.vals=v)
def oj (s:AS):Nat->List Lb->List Lb
 |_,[]=>[]
 |a,v::l=>if bw s (a:Int)=true then v::oj s (a+1) l else oj s (a+1) l
def Wc(l:List Lb)(s:AS):List Lb:=oj s 0 l
section
variable {s:AS}
def IK:∀{l:List Lb} {a:Nat} {v:Lb},oj s a (l++[v])=if bw s ((a+l.length:Nat):Int)=true then oj s a l++[v]else oj s a l
 | [],a,v=>by
  simp only[Kn,oj,Nn,Fi]
 | x::l,a,v=>by
  have ih:oj s (a+1) (l++[v])=if bw s ((a+1+l.length:Nat):Int)=true then oj s (a+1) l++[v]else oj s (a+1) l:=IK
  simp only[Ql,oj,Zf];rw[ih,show a+1+l.length=a+(l.length+1) by omega];split<;>split<;>simp
variable {l:List Lb}
def zh {i:Nat} (hi:i<l.length) (h:bw s (i:Int)=true):Wc (l.take (i+1)) s=Wc (l.take i) s++[l.getD i default]:=by
 unfold Wc;rw[au hi,IK,Ae,Gi Za,Oe,Ba h]
def zd {i:Nat} (hi:i<l.length) (h:bw s (i:Int)=false):Wc (l.take (i+1)) s=Wc (l.take i) s:=by
 unfold Wc;rw[au hi,IK,Ae,Gi Za,Oe,Ca (by simp[h])]
def u6:∀{l:List Lb} {a:Nat} {v:Lb},v∈oj s a l->v∈l
 | x :: l,a,v,h=>by
  unfold oj at h;split at h
  .rcases Jd.1 h with rfl|h
   .simp
   exact Jh _ (u6 h)
  exact Jh _ (u6 h)
def mS:∀{l:List Lb} {a:Nat},(oj s a l).length<=l.length
 | [],_=>Yb _
 | x::l,a=>by
  have:(oj s (a+1) l).length<=l.length:=mS;unfold oj;split<;>simp only[Zf]<;>omega
def mE:(Wc l s).length<=l.length:=mS
def v7:pj l<->∀v∈l,v.ok:=by
 constructor
 .intro h v hv
  obtain⟨i,hi,e⟩:=Fg hv;have:=h i hi;rw[cq _ _ hi,e]at this;exact this
 intro h i hi;rw[cq _ _ hi];exact h _ (De hi)
def DD(h:pj l):pj (Wc l s):=v7.2 λv hv=>v7.1 h v (u6 hv)
def sv(a b:Xb)(s:AS):Bool:=decide (Wc a.vals s=Wc b.vals s)
def LO(t:ac)(q:AS)(r:Xb)(n:Int):Bool:=t.rows.any λx=>sv x r (q&&&ak n)
def BC(a b:List Xb):Bool:=a.all λr=>ni b r.vals
def Rt(a b:ac):Bool:=decide (a.attrs=b.attrs)&&(BC a.rows b.rows&&BC b.rows a.rows)
def D3(a b:ac)(r s:Xb)(i:Nat):Bool:=decide (j0 a.attrs (b.attrs.getD i default)<0)||decide (x4 (r.vals.getD (j0 a.attrs (b.attrs.getD i default)).toNat default) (s.vals.getD i default)=0)
def ZY(a b:ac)(r s:Xb):Bool:=(List.range b.attrs.length).all (D3 a b r s)
def bsy(a b:ac):Bool:=b.rows.all λs=>a.rows.any λr=>ZY a b r s
def Qn(t:ac)(d:Fd)(i k:Nat):Bool:=!sv (t.rows.getD i default) (t.rows.getD k default) d.lhs||sv (t.rows.getD i default) (t.rows.getD k default) d.rhs
def En(t:ac)(d:Fd):Bool:=(List.range t.rows.length).all λi=>(List.range i).all λk=>Qn t d i k
def aD(t:ac)(a b:Xb)(left:AS):Bool:=t.rows.any λx=>sv x a left&&sv x b (ak t.attrs.length&&&~~~left)
def Wn(t:ac)(d:Fd)(i k:Nat):Bool:=!sv (t.rows.getD i default) (t.rows.getD k default) d.lhs||aD t (t.rows.getD i default) (t.rows.getD k default) (d.lhs|||d.rhs)
def Cn(t:ac)(d:Fd):Bool:=(List.range t.rows.length).all λi=>(List.range t.rows.length).all λk=>Wn t d i k
end
end
def WL(n:Int):IntKind.wrap .u64 n=n%18446744073709551616:=by simp[IntKind.wrap,IntKind.bits,IntKind.signed]
def w8(n:Int):IntKind.wrap .u8 n=n%256:=by simp[IntKind.wrap,IntKind.bits,IntKind.signed]
def Wz(n:Int):Prop:=-9223372036854775808<=n/\n<=9223372036854775807
def cH (n:Int):uN n=((BitVec.ofInt 64 (n%18446744073709551616) ^^^ BitVec.ofInt 64 9223372036854775808).toNat:Int):=by
 unfold uN bq;rw[WL,WL];show((BitVec.ofInt 64 (n%18446744073709551616) ^^^ BitVec.ofInt 64 9223372036854775808).toNat:Int)%18446744073709551616=_;have:=(BitVec.ofInt 64 (n%18446744073709551616) ^^^ BitVec.ofInt 64 9223372036854775808).isLt;omega
def lO (n:Int):0<=uN n/\uN n<18446744073709551616:=by
 rw[cH];have:=(BitVec.ofInt 64 (n%18446744073709551616) ^^^ BitVec.ofInt 64 9223372036854775808).isLt;omega
def Y6 {n m:Int} (hn:Wz n) (hm:Wz m) (h:uN n=uN m):n=m:=by
 rw[cH,cH]at h;have h1:=Qi (Int.ofNat.inj h)
 have h2:BitVec.ofInt 64 (n%18446744073709551616)=BitVec.ofInt 64 (m%18446744073709551616):=by
  have:=Da (· ^^^ BitVec.ofInt 64 9223372036854775808) h1;simpa [BitVec.xor_assoc]using this
 have h3:=Da BitVec.toNat h2;rw[BitVec.toNat_ofInt,BitVec.toNat_ofInt]at h3;obtain⟨a1,a2⟩:=hn;obtain⟨b1,b2⟩:=hm;have e1:(n%18446744073709551616)%((2^64:Nat):Int)=n%18446744073709551616:=by omega
 have e2:(m%18446744073709551616)%((2^64:Nat):Int)=m%18446744073709551616:=by omega
 rw[e1,e2]at h3;omega
def DP (u:Int) (s:Nat) (hs:s<=64):Zu u s=u/(2^s)%256:=by
 unfold Zu;rw[w8,Gi hs];congr 1;rw[Int.fdiv_eq_ediv_of_nonneg _ (Int.pow_nonneg Zc)]
def gU {n m:Int} (hn:Wz n) (hm:Wz m) (h:yx n=yx m):n=m:=by
 refine Y6 hn hm ?_;have hu:=lO n;have hv:=lO m;unfold yx at h;generalize uN n=u at *;generalize uN m=v at *
 have hb:∀i,i<8->u/2^(56-8*i)%256=v/2^(56-8*i)%256:=λi hi=>by
  have h1:=Da (λl=>l.getD i 0) h;simp only[List.getD,Pe,Hi hi,Vf,Xh]at h1;rw[DP _ _ Za,DP _ _ Za]at h1;exact h1
 have h0:=hb 0 Za;have h1:=hb 1 Za;have h2:=hb 2 Za;have h3:=hb 3 Za;have h4:=hb 4 Za;have h5:=hb 5 Za;have h6:=hb 6 Za;have h7:=hb 7 Za;simp only[Nat.mul_zero,Ho,Zj,Nat.reduceMul,Nat.reduceSub,Int.reducePow,Int.pow_zero,Int.ediv_one]at h0 h1 h2 h3 h4 h5 h6 h7;clear hb h hn hm;have e0:u/72057594037927936=v/72057594037927936:=by omega
 have e1:u/281474976710656=v/281474976710656:=by omega
 have e2:u/1099511627776=v/1099511627776:=by omega
 have e3:u/4294967296=v/4294967296:=by omega
 have e4:u/16777216=v/16777216:=by omega
 have e5:u/65536=v/65536:=by omega
 have e6:u/256=v/256:=by omega
 omega
def b8(l:List Int):List UInt8:=l.map λn=>UInt8.ofNat n.toNat
def cT:∀{a b:List UInt8} {X Y:List Int},qa a++(0::1::X)=qa b++(0::1::Y)->a=b/\X=Y
 | [],[],X,Y,h=>by
  simp[qa]at h;exact⟨rfl,h⟩
 | [],y::b,X,Y,h=>by
  exfalso;simp only[qa,Dz,Lj,Kn]at h;unfold Vn at h;split at h
  .simp at h
  rename_i hy;simp at h;have:y.toNat=0:=by omega
  exact hy (UInt8.toNat_inj.1 this)
 | x::a,[],X,Y,h=>by
  exfalso;simp only[qa,Dz,Lj,Kn]at h;unfold Vn at h;split at h
  .simp at h
  rename_i hy;simp at h;have:x.toNat=0:=by omega
  exact hy (UInt8.toNat_inj.1 this)
 | x :: a,y::b,X,Y,h=>by
  have e1:∀(z:UInt8) (l:List UInt8) (W:List Int),qa (z::l)++W=Vn z++(qa l++W):=λz l W=>by simp[qa]
  rw[e1,e1]at h
  have key:x=y/\qa a++(0::1::X)=qa b++(0::1::Y):=by
   unfold Vn at h;split at h<;>split at h
   .rename_i h1 h2
    refine⟨h1.trans h2.symm, ?_⟩;simpa using h
   .rename_i h1 h2
    exfalso;simp at h;exact h2 (UInt8.toNat_inj.1 (by have:=h.1;show y.toNat=0;omega))
   .rename_i h1 h2
    exfalso;simp at h;exact h1 (UInt8.toNat_inj.1 (by have:=h.1;show x.toNat=0;omega))
   rename_i h1 h2;simp at h;exact⟨UInt8.toNat_inj.1 Za,by simpa using h.2⟩
  obtain⟨rfl,h2⟩:=key;obtain⟨rfl,h3⟩:=cT h2;exact⟨rfl,h3⟩
def pe(v:Lb):Prop:=cz v=true/\Wz v.num
def aW {v:Lb} (h:cz v=true):v.kind=0\/v.kind=1\/v.kind=2\/v.kind=3:=by
 unfold cz at h;split at h
 .exact .inl Gb
 split at h
 .exact .inr (.inl Gb)
 split at h
 .exact .inr (.inr (.inl Gb))
 simp only[Od,Ja]at h;exact .inr (.inr (.inr h.1.1))
def HD {a b:Lb} (h1:a.kind=b.kind) (h2:a.num=b.num) (h3:a.str=b.str):a=b:=by
 obtain⟨a1,a2,a3⟩:=a;obtain⟨b1,b2,b3⟩:=b;simp only at h1 h2 h3;subst h1 h2 h3;rfl
def T2 {a b:ByteArray} (h:bl a=bl b):a=b:=by
 obtain⟨⟨a⟩⟩:=a;obtain⟨⟨b⟩⟩:=b;have h:a=b:=h;subst h;rfl
def b2y{v w:Lb}(hv:pe v)(hw:pe w){X Y:List Int}(h:kp v++X=kp w++Y):v=w/\X=Y:=by
 obtain⟨hv,nv⟩:=hv;obtain⟨hw,nw⟩:=hw;have kv:=aW hv;have kw:=aW hw;unfold kp at h;rw[Ql,Ql,Yu]at h;obtain⟨h1,h2⟩:=h;rw[w8,w8]at h1;have hk:v.kind=w.kind:=by omega
 clear h1;unfold cz at hv hw;rw[<- hk]at h2 hw kw
 rcases kv with e|e|e|e<;>rw[e]at h2 hv hw<;>simp only[Int.reduceEq,Ma,Na,or_true,true_or,or_false,false_or,or_self,Kn,Od,Ja,Ba,true_and,decide_true,ite_true,ite_false]at h2 hv hw
 .exact⟨HD hk (hv.1.trans hw.1.symm) (hv.2.trans hw.2.symm),h2⟩
 .obtain ⟨h3,h4⟩:=List.append_inj h2 (by rw[LB,LB])
  exact⟨HD hk (gU nv nw h3) (hv.trans hw.symm),h4⟩
 .rw [Ug,Ug]at h2
  obtain⟨h3,h4⟩:=cT h2;exact⟨HD hk (hv.1.trans hw.1.symm) (T2 h3),h4⟩
 obtain⟨h3,h4⟩:=List.append_inj h2 (by rw[LB,LB]);exact⟨HD hk (gU nv nw h3) (hv.2.trans hw.2.symm),h4⟩
def Ms(l:List Int):Prop:=∀x∈l,0<=x/\x<256
def dQ:∀{a b:List Int},Ms a->Ms b->b8 a=b8 b->a=b
 | [],[],_,_,_=>rfl
 | [],_::_,_,_,h=>by simp[b8]at h
 |_::_,[],_,_,h=>by simp[b8]at h
 | x::a,y::b,ha,hb,h=>by
  simp only[b8,Wh,Yu]at h;have h1:=ha x Ec;have h2:=hb y Ec;have h3:=Da UInt8.toNat h.1;simp only[UInt8.toNat_ofNat']at h3;have e:x=y:=by omega
  rw[e,dQ (λz hz=>ha z (Jh _ hz)) (λz hz=>hb z (Jh _ hz)) h.2]
def bei {a b:List Int} (ha:Ms a) (hb:Ms b):Ms (a++b):=λx hx=>by
 rcases Af.1 hx with h|h
 .exact ha x h
 exact hb x h
def b9l(v:Lb):Ms (kp v):=by
 have h8:∀n:Int,0<=IntKind.wrap .u8 n/\IntKind.wrap .u8 n<256:=λn=>by rw[w8];omega
 unfold kp;intro x hx
 rcases Jd.1 hx with rfl|hx
 .exact h8 _
 split at hx
 .unfold yx at hx
  obtain⟨i,_,rfl⟩:=Ad.1 hx;exact h8 _
 split at hx
 .rcases Af.1 hx with h|h
  .unfold qa at h
   obtain⟨z,_,h⟩:=List.mem_flatMap.1 h;unfold Vn at h;split at h
   .simp at h;omega
   simp at h;have:=z.toNat_lt;omega
  simp at h;omega
 cases hx
def eN (s:AS):Nat->List Lb->List Int
 |_,[]=>[]
 |a,v::vs=>if s.getLsbD a=true then kp v++eN s (a+1) vs else eN s (a+1) vs
section
section
variable {R:List Xb}{ps:List AS}{cols:List (List Lb)}{s:AS}{n:Nat}
def eS:∀{l m:List Lb} {a:Nat},l.length=m.length->(oj s a l=oj s a m<->∀i,i<l.length->bw s ((a+i:Nat):Int)=true->l.getD i default=m.getD i default)
 | [],[],a,_=>⟨λ_ i hi _=>Ea hi (Ud i),λ_=>rfl⟩
 | [],_::_,_,h=>by simp at h
 |_::_,[],_,h=>by simp at h
 | v :: l,w::m,a,hl=>by
  have hl2:l.length=m.length:=by simpa using hl
  have ih:=eS (l:=l) (m:=m) (a:=a+1) hl2;unfold oj;by_cases hs:bw s (a:Int)=true
  .rw [Ba hs,Ba hs,Yu,ih]
   constructor
   .rintro ⟨h1,h2⟩ i hi hh
    cases i with
    |zero=>exact h1
    |succ i=>exact h2 i (by simpa using hi) (by rw[show a+1+i=a+(i+1) by omega];exact hh)
   intro h;refine⟨h 0 Ec hs,λi hi hh=>?_⟩;exact h (i+1) (by simpa using hi) (by rw[show a+(i+1)=a+1+i by omega];exact hh)
  rw[Ca hs,Ca hs,ih];constructor
  .intro h i hi hh
   cases i with
   |zero=>exact Ea hh hs
   |succ i=>exact h i (by simpa using hi) (by rw[show a+1+i=a+(i+1) by omega];exact hh)
  intro h i hi hh;exact h (i+1) (by simpa using hi) (by rw[show a+(i+1)=a+1+i by omega];exact hh)
def zo {l m:List Lb} (hl:l.length=m.length):Wc l s=Wc m s<->∀i:Nat,i<l.length->bw s (i:Int)=true->l.getD i default=m.getD i default:=by
 unfold Wc;rw[eS hl];constructor<;>intro h i hi hh
 .exact h i hi (by rw[Oe];exact hh)
 exact h i hi (by rw[Oe]at hh;exact hh)
def eM(R:List Xb)(ps:List AS)(vs:List Lb):Bool:=ps.all λs=>HG R s vs.length (uG vs s)
def bN (R:List Xb) (ps:List AS) (cols:List (List Lb)):Nat->List Lb->List (List Lb)
 |0,vs=>if eM R ps vs=true then[vs] else[]
 |d+1,vs=>if eM R ps vs=true then(cols.getD vs.length default).flatMap λv=>bN R ps cols d (vs++[v]) else[]
def btn(R:List Xb)(ps:List AS)(n:Nat):List (List Lb):=bN R ps (CN R n) n []
end
end
section
section
variable {n:Int}{ps:List AS}{p m:List Fd}
end
def sgB(n:Int)(c:AS)(z:Int):Int:=if bw c (z%n)=true then z%n else z
section
variable {n:Int}{P Q:AS}{p:List Fd}
def azk {a b:AS} {i:Int}:bw (a&&&b) i=(bw a i&&bw b i):=by
 unfold bw;rw[Hg];cases decide (0<=i/\i<32)<;>simp
end
end
section
section
variable {t:ac}{d:Fd}
def zr {R:List Xb} {a:Xb} (h:a∈R):∃i,i<R.length/\R.getD i default=a:=by
 obtain⟨i,hi,e⟩:=Fg h;exact⟨i,hi,by rw[cq _ _ hi,e]⟩
def H8 (h:En t d=true) {a b:Xb} (ha:a∈t.rows) (hb:b∈t.rows) (e:Wc a.vals d.lhs=Wc b.vals d.lhs):Wc a.vals d.rhs=Wc b.vals d.rhs:=by
 obtain⟨i,hi,rfl⟩:=zr ha;obtain⟨k,hk,rfl⟩:=zr hb
 have key:∀i k,i<t.rows.length->k<i->Wc (t.rows.getD i default).vals d.lhs=Wc (t.rows.getD k default).vals d.lhs->Wc (t.rows.getD i default).vals d.rhs=Wc (t.rows.getD k default).vals d.rhs:=λi k hi hk e=>by
  unfold En at h;have h1:=Ze.1 (Ze.1 h i (Fe.2 hi)) k (Fe.2 hk);unfold Qn sv at h1;rw[Fa e]at h1;simpa using h1
 rcases Cv i k with h1|h1|h1
 .exact(key k i hk h1 e.symm).symm
 .subst h1;rfl
 exact key i k hi h1 e
def Q4 (h:Cn t d=true) {a b:Xb} (ha:a∈t.rows) (hb:b∈t.rows) (e:Wc a.vals d.lhs=Wc b.vals d.lhs):∃x∈t.rows,Wc x.vals (d.lhs|||d.rhs)=Wc a.vals (d.lhs|||d.rhs)/\Wc x.vals (ak t.attrs.length&&&~~~(d.lhs|||d.rhs))=Wc b.vals (ak t.attrs.length&&&~~~(d.lhs|||d.rhs)):=by
 obtain⟨i,hi,rfl⟩:=zr ha;obtain⟨k,hk,rfl⟩:=zr hb;unfold Cn at h;have h1:=Ze.1 (Ze.1 h i (Fe.2 hi)) k (Fe.2 hk);unfold Wn sv at h1;rw[Fa e]at h1;have h1:aD t (t.rows.getD i default) (t.rows.getD k default) (d.lhs|||d.rhs)=true:=by simpa using h1
 unfold aD at h1;obtain⟨x,hx,h2⟩:=Yf.1 h1;rw[Od]at h2;unfold sv at h2;exact⟨x,hx,Ga h2.1,Ga h2.2⟩
end
def azj {n i:Nat} (hn:n<=16) (hi:i<n):bw (ak (n:Int)) (i:Int)=true:=by
 rw[j6 Za];unfold ak;rw[Gi Za,oe _ _ Za];simpa using hi
def axq {n i:Nat} {s:AS} (hn:n<=16) (hi:i<n) (h:¬bw s (i:Int)=true):bw (ak (n:Int)&&&~~~s) (i:Int)=true:=by
 have h1:=azj hn hi;rw[azk,h1,Aj];rw[j6 Za]at h ⊢;rw[Jl];simp only[h,Ls,Bool.and_true];simp;omega
section
variable {n:Int}{ps:List AS}{p m:List Fd}
def O2(hc:Zd n ps p m=0)(hl:Te n ps p m=true):LR n.toNat p m (bf n ps) (dp n):=by
 obtain⟨hv,hb⟩:=yg hc;obtain⟨h0,h8,h64,_⟩:=jl hv
 rcases SK (m:=m) h64 hb with⟨e,_⟩|⟨sts',lend,e,h1,_⟩
 .rw [Uw hv hb]at hc
  unfold Ce at hc;rw[e]at hc;cases hc
 unfold Te Ce at hl;rw[hc,e,Fa rfl,Aj]at hl;have hl:(lend.any λr=>decide (r=dp n))=true:=hl;rw[FF,Ia,h1]at hl;exact hl
end
def Vy(n:Nat)(w:List Lb)(f:Nat->Xb)(z:Int):Lb:=if z<(n:Int)then w.getD z.toNat default else(f (z/n-1).toNat).vals.getD (z%n).toNat default
section
variable {w:List Lb}
def xU {n:Nat} {f:Nat->Xb} {j:Nat} (hj:j<n):Vy n w f (j:Int)=w.getD j default:=by
 unfold Vy;rw[Ba Za,Qe]
def b1b {n:Nat} {f:Nat->Xb} {i j:Nat} (hj:j<n):Vy n w f ((n:Int)+(i:Int)*(n:Int)+(j:Int))=(f i).vals.getD j default:=by
 unfold Vy;have h0:0<=(i:Int)*(n:Int):=Int.mul_nonneg Za Za;rw[Ca Za];have e:(n:Int)+(i:Int)*(n:Int)+(j:Int)=(j:Int)+((i:Int)+1)*(n:Int):=by rw[Int.add_mul,Int.one_mul];omega
 rw[e,Int.add_mul_ediv_right _ _ Za,Int.add_mul_emod_self_right,Int.ediv_eq_zero_of_lt Za Za,Int.emod_eq_of_lt Za Za,Qe];have e2:((0:Int)+((i:Int)+1)-1).toNat=i:=by omega
 rw[e2]
def bf6{t:ac}{p m:List Fd}(hn:t.attrs.length<=16)(hw:∀r∈t.rows,r.vals.length=t.attrs.length)(hF:∀d∈p,En t d=true)(hM:∀d∈m,Cn t d=true)(σ:Int->Lb) :
 Pr t.attrs.length p m (λx y=>σ x=σ y) (λr=>r.length=t.attrs.length/\∃x∈t.rows,∀i,i<t.attrs.length->σ (r.getD i default)=x.vals.getD i default) where
 refl x:=rfl
 symm h:=h.symm
 trans h k:=h.trans k
 len h:=h.1
 cong {r r'} h hl he:=by
  obtain⟨h1,x,hx,h2⟩:=h;exact⟨hl.trans h1,x,hx,λi hi=>(he i Za).symm.trans (h2 i hi)⟩
 fd {d} hd {a b} ha hb hag:=by
  obtain⟨hal,xa,hxa,ha⟩:=ha;obtain⟨hbl,xb,hxb,hb⟩:=hb;have hla:=hw xa hxa;have hlb:=hw xb hxb
  have h1:Wc xa.vals d.lhs=Wc xb.vals d.lhs:=(zo (hla.trans hlb.symm)).2 λi hi hh=>by
   rw[<- ha i Za,<- hb i Za];exact hag i Za hh
  have h2:=(zo (hla.trans hlb.symm)).1 (H8 (hF d hd) hxa hxb h1);intro i hi hh;show σ (a.getD i default)=σ (b.getD i default);rw[ha i Za,hb i Za];exact h2 i Za hh
 mv {d} hd {a b} ha hb hag:=by
  obtain⟨hal,xa,hxa,ha⟩:=ha;obtain⟨hbl,xb,hxb,hb⟩:=hb;have hla:=hw xa hxa;have hlb:=hw xb hxb
  have h1:Wc xa.vals d.lhs=Wc xb.vals d.lhs:=(zo (hla.trans hlb.symm)).2 λi hi hh=>by
   rw[<- ha i Za,<- hb i Za];exact hag i Za hh
  obtain⟨x,hx,h2,h3⟩:=Q4 (hM d hd) hxa hxb h1;have hlx:=hw x hx;have h2:=(zo (hlx.trans hla.symm)).1 h2;have h3:=(zo (hlx.trans hlb.symm)).1 h3;refine⟨(lg _ _ _).trans hbl,x,hx,λi hi=>?_⟩
  have e:(dz a b (d.lhs|||d.rhs)).getD i default=if bw (d.lhs|||d.rhs) (i:Int)=true then a.getD i default else b.getD i default:=by
   unfold dz;rw[Oc,Pe,Hi Za];rfl
  rw[e];by_cases hh:bw (d.lhs|||d.rhs) (i:Int)=true
  .rw [Ba hh,ha i hi]
   exact(h2 i Za hh).symm
  rw[Ca hh,hb i hi];exact(h3 i Za (axq hn hi hh)).symm
def b6q{t:ac}{ps:List AS}{p m:List Fd}(hn:t.attrs.length<=16)(hw:∀r∈t.rows,r.vals.length=t.attrs.length)(hc:Zd t.attrs.length ps p m=0)(hl:Te t.attrs.length ps p m=true)(hF:∀d∈p,En t d=true)(hM:∀d∈m,Cn t d=true)(hwl:w.length=t.attrs.length)(hall:∀s∈ps,∃r∈t.rows,Wc r.vals s=Wc w s):∃r∈t.rows,r.vals=w:=by
 have hLR:=O2 hc hl
 have hch:∀i,∃r:Xb,i<ps.length->r∈t.rows/\Wc r.vals (ps.getD i default)=Wc w (ps.getD i default):=λi=>by
  by_cases hi:i<ps.length
  .obtain ⟨r,hr,e⟩:=hall (ps.getD i default) (by rw[cq _ _ hi];exact De hi)
   exact⟨r,λ_=>⟨hr,e⟩⟩
  exact⟨default,λh=>Ea h hi⟩
 obtain⟨f,hf⟩:=Classical.axiomOfChoice hch
 obtain ⟨_,x,hx,h2⟩:=hLR _ _ (bf6 hn hw hF hM (Vy t.attrs.length w f)) (λr hr=>by
  unfold bf at hr;obtain⟨i,hi,rfl⟩:=Ad.1 hr;have hi:=Fe.1 hi;obtain⟨hfr,hfe⟩:=hf i hi;have hlf:=hw _ hfr;refine⟨BE _ _ _,f i,hfr,λj hj=>?_⟩;rw[BD (by simpa using hj)];unfold Qj;by_cases hh:bw (ps.getD i default) (j:Int)=true
  .rw [Ba hh,xU hj]
   exact((zo (hlf.trans hwl.symm)).1 hfe j Za hh).symm
  rw[Ca hh]
  exact b1b hj)
 refine⟨x,hx, ?_⟩;have hlx:=hw x hx;refine Ez (hlx.trans hwl.symm) λi h3 h4=>?_;have:=h2 i Za;rw[b5e Uh,xU Za,cq _ _ h3,cq _ _ h4]at this;exact this.symm
end
end
section
section
variable {b:AS}
def Nx{a:AS}(h:∀i,i<32->a.getLsbD i=b.getLsbD i):a=b:=Tl h
def L3{s t:AS}:s&&&t=0<->∀i,i<32->s.getLsbD i=true->t.getLsbD i=false:=by
 constructor
 .intro h i hi hs
  have:=Da (λx:AS=>x.getLsbD i) h;simp only[Hg,hs,Aj]at this;simpa using this
 intro h;apply Nx;intro i hi;have:=h i hi;rw[Hg];cases hs:s.getLsbD i<;>simp_all
def U6 {s:AS} (h:s≠0):∃i,i<32/\s.getLsbD i=true:=by
 apply La;intro hn;refine h (Nx λi hi=>?_)
 cases hs:s.getLsbD i with
 |false=>simp
 |true=>exact Ea ⟨i,hi,hs⟩ hn
def gP{s:AS}{i:Nat}(h:s.getLsbD i=true):i<32:=BitVec.lt_of_getLsbD h
def ow{s t:AS}{i:Nat}(hi:i<32):(s&&&~~~t).getLsbD i=(s.getLsbD i&&!t.getLsbD i):=by simp[hi]
def Uz(a:Nat):AS:=1#32<<<a
def fc(m:Fd)(b:AS):Bool:=decide (b&&&m.lhs=0)&&(decide (b&&&m.rhs≠0)&&decide (b&&&~~~m.rhs≠0))
def Li(m:Fd)(b:AS):AS:=if fc m b=true then b&&&m.rhs else b
def Cj(m:Fd)(b:AS):List AS:=if fc m b=true then[b&&&~~~m.rhs] else[]
def Xe(m:Fd)(l:List AS)(i:Nat):List AS:=(l.take i).map (Li m)++l.drop i++(l.take i).flatMap (Cj m)
def Bi(m:Fd)(l:List AS):List AS:=l.map (Li m)++l.flatMap (Cj m)
def df(ms:List Fd)(l:List AS):List AS:=ms.foldl (λl m=>Bi m l) l
def qe:List Fd->List AS->Bool
 | [],_=>false
 |m::ms,l=>l.any (fc m)||qe ms (Bi m l)
def Ep (ms:List Fd):Nat->List AS->List AS
 |0,l=>l
 |f+1,l=>if qe ms l=true then Ep ms f (df ms l)else df ms l
def Fh:List AS->Nat
 | []=>0
 |b::l=>b.toNat*b.toNat+Fh l
def XI:∀(l k:List AS),Fh (l++k)=Fh l+Fh k
 | [],k=>by simp[Fh]
 |b::l,k=>by simp[Fh,XI l k];omega
def qW (b r:AS):(b&&&r).toNat+(b&&&~~~r).toNat=b.toNat:=by
 have h:(b&&&r)&&&(b&&&~~~r)=0#32:=L3.2 λi hi hs=>by
  rw[ow hi];rw[Hg,Od]at hs;simp[hs.1,hs.2]
 have e:(b&&&r)+(b&&&~~~r)=b:=by
  rw[BitVec.add_eq_or_of_and_eq_zero _ _ h];apply Nx;intro i hi;rw[Rl,ow hi,Hg];cases b.getLsbD i<;>cases r.getLsbD i<;>rfl
 rw[<- BitVec.toNat_add_of_and_eq_zero h,e]
def kF{m:Fd}:fc m b=true<->b&&&m.lhs=0/\b&&&m.rhs≠0/\b&&&~~~m.rhs≠0:=by simp[fc]
def b5w {x y z:Nat} (h:x+y=z) (hx:0<x) (hy:0<y):x*x+y*y<z*z:=by
 subst h;rw[Mf,Nat.mul_add,Nat.mul_add];have:0<x*y:=Nat.mul_pos hx hy;have:0<y*x:=Nat.mul_pos hy hx;omega
def GK(h:b≠0):0<b.toNat:=Nat.pos_of_ne_zero λe=>h (Qi e)
def SP(m:Fd):∀(l:List AS),Fh (l.map (Li m))+Fh (l.flatMap (Cj m))+(if l.any (fc m)=true then 1 else 0)<=Fh l
 | []=>by simp[Fh]
 | b :: l=>by
  have ih:=SP m l;rw[Wh,Lj,XI,List.any_cons];simp only[Fh];by_cases h:fc m b=true
  .obtain ⟨_,h2,h3⟩:=kF.1 h
   have:=b5w (qW b m.rhs) (GK h2) (GK h3);simp only[Li,Cj,h,Ma,Fh,Bool.true_or];omega
  rw[Hz]at h;simp only[Li,Cj,h,Fh,Bool.false_or,Nj,Na];omega
def Z9 (m:Fd) (l:List AS):Fh (Bi m l)+(if l.any (fc m)=true then 1 else 0)<=Fh l:=by
 unfold Bi;rw[XI];exact SP m l
def iR:∀(ms:List Fd) (l:List AS),Fh (df ms l)+(if qe ms l=true then 1 else 0)<=Fh l
 | [],l=>by simp[df,qe]
 | m::ms,l=>by
  have h1:=Z9 m l;have h2:=iR ms (Bi m l);show Fh (df ms (Bi m l))+_<=_;simp only[qe];by_cases h3:l.any (fc m)=true<;>by_cases h4:qe ms (Bi m l)=true<;>simp only[h3,h4,Bool.true_or,Bool.or_true,Bool.or_false,Ma,Nj,Na]at h1 h2 ⊢<;>omega
structure Rp (ms:List Fd) (rest:AS) (bs:List AS):Prop where
 nz:∀b∈bs,b≠0
 cnt:∀a,a<32->bs.countP (λb=>b.getLsbD a)=if rest.getLsbD a=true then 1 else 0
 ind:∀G:AS->Prop,G rest->(∀m∈ms,∀b,G b->fc m b=true->G (b&&&m.rhs)/\G (b&&&~~~m.rhs))->∀b∈bs,G b
variable {bs:List AS}{ms:List Fd}{rest:AS}
theorem Rp.rd (h:Rp ms rest bs) {m:Fd} (hm:m∈ms):Rp ms rest (Bi m bs):=by
 have hmem:∀{b:AS},b∈Bi m bs->∃b0∈bs,(fc m b0=false/\b=b0)\/(fc m b0=true/\(b=b0&&&m.rhs\/b=b0&&&~~~m.rhs)):=by
  intro b hb;unfold Bi at hb
  rcases Af.1 hb with hb|hb
  .obtain ⟨b0,h0,rfl⟩:=Ad.1 hb
   refine⟨b0,h0, ?_⟩;cases hs:fc m b0<;>simp[Li,hs]
  obtain⟨b0,h0,hb⟩:=List.mem_flatMap.1 hb;refine⟨b0,h0, ?_⟩;cases hs:fc m b0
  .simp[Cj,hs]at hb
  simp[Cj,hs]at hb;exact .inr ⟨rfl, .inr hb⟩
 refine⟨λb hb=>?_,λa ha=>?_,λG h0 hG b hb=>?_⟩
 .obtain ⟨b0,h0,⟨_,rfl⟩|⟨hs,hb⟩⟩:=hmem hb
  .exact h.nz _ h0
  obtain⟨_,h2,h3⟩:=kF.1 hs
  rcases hb with rfl|rfl
  .exact h2
  exact h3
 .rw [<- h.cnt a ha]
  have:∀l:List AS,(l.map (Li m)).countP (λb=>b.getLsbD a)+(l.flatMap (Cj m)).countP (λb=>b.getLsbD a)=l.countP (λb=>b.getLsbD a):=by
   intro l
   induction l with
   |nil=>rfl
   | cons b l ih =>
    rw[Wh,Lj,List.countP_append,Lo,Lo,<- ih];cases hs:fc m b
    .simp[Li,Cj,hs];omega
    simp only[Li,Cj,hs,Ma,Lo,List.countP_nil,ow ha,Hg];cases b.getLsbD a<;>cases m.rhs.getLsbD a<;>simp<;>omega
  unfold Bi;rw[List.countP_append];exact this bs
 obtain⟨b0,h1,⟨_,rfl⟩|⟨hs,hb⟩⟩:=hmem hb
 .exact h.ind G h0 hG _ h1
 obtain⟨g1,g2⟩:=hG m hm b0 (h.ind G h0 hG _ h1) hs
 rcases hb with rfl|rfl
 .exact g1
 exact g2
def kg(rest:AS):List AS:=if rest=0 then[] else[rest]
theorem Rp.start (ms:List Fd) (rest:AS):Rp ms rest (kg rest):=by
 unfold kg;by_cases h:rest=0
 .subst h
  simp only[Ma];exact⟨λ_ h=>by(cases h),λa ha=>by simp,λ_ _ _ _ h=>by cases h⟩
 rw[Ca h];exact⟨λb hb=>by(simp at hb;subst hb;exact h),λa ha=>by simp[Lo],λG h0 _ b hb=>by(simp at hb;subst hb;exact h0)⟩
def b1s (rest:AS):Fh (kg rest)<18446744073709551616:=by
 unfold kg;split
 .simp[Fh]
 simp only[Fh];have h:=rest.isLt;have:=Nat.mul_le_mul (Iq (show rest.toNat<4294967295+1 from h)) (Iq (show rest.toNat<4294967295+1 from h));omega
def blks(ms:List Fd)(rest:AS):List AS:=Ep ms 18446744073709551616 (kg rest)
def avr {p:AS->Bool} {l:List AS} (h:l.countP p<=1) {a:AS} (ha:a∈l) (hb:b∈l) (pa:p a=true) (pb:p b=true):a=b:=by
 rw[List.countP_eq_length_filter]at h;have h1:a∈l.filter p:=Jo.2 ⟨ha,pa⟩;have h2:b∈l.filter p:=Jo.2 ⟨hb,pb⟩
 cases hl:l.filter p with
 |nil=>rw[hl]at h1;cases h1
 | cons x r =>
  rw[hl]at h h1 h2
  cases r with
  |nil=>simp at h1 h2;rw[h1,h2]
  |cons=>simp at h
theorem Rp.one (h:Rp ms rest bs) {b':AS} (hb:b∈bs) (hb':b'∈bs) {a:Nat} (h1:b.getLsbD a=true) (h2:b'.getLsbD a=true):b=b':=by
 refine avr (p:=λb=>b.getLsbD a) ?_ hb hb' h1 h2;rw[h.cnt a (gP h1)];split<;>omega
theorem Rp.sub (h:Rp ms rest bs) (hb:b∈bs):Go.Hx.sub b rest:=ci.2 λa ha hba=>by
 have h1:=h.cnt a ha;have h2:0<bs.countP (λb=>b.getLsbD a):=List.countP_pos_iff.2 ⟨b,hb,hba⟩
 cases hr:rest.getLsbD a with
 |true=>rfl
 |false=>rw[hr]at h1;simp only[Nj,Na]at h1;omega
end
end
section
def Dl(f:Fd):List Fd:=(am f.rhs).map λa=>⟨f.lhs,Uz a⟩
def Zw(fs ms:List Fd):List Fd:=ms++fs.flatMap Dl
def sh(T:List AS)(r:AS):List AS:=if r∈T then T else T++[r]
def gK{T:List AS}{r z:AS}:z∈sh T r<->z∈T\/z=r:=by
 unfold sh;split
 .rename_i h
  constructor
  .exact .inl
  rintro(h2|rfl)
  .exact h2
  exact h
 simp
def zj {T:List AS} {r:AS} (h:T.Nodup):(sh T r).Nodup:=by
 unfold sh;split
 .exact h
 rename_i hr;rw[List.nodup_append];exact⟨h,by simp,λa ha b hb=>by simp at hb;subst hb;rintro rfl;exact hr ha⟩
def BA(s:AS)(o:List AS)(T:List AS):List AS:=T.foldl (λo r=>sh o (r&&&~~~s)) o
def tw(T:List AS)(s:AS):List AS:=BA s [] T
def PJ{s:AS}:∀{T o:List AS},(o.Nodup->(BA s o T).Nodup)/\∀z,z∈BA s o T<->z∈o\/∃r∈T,z=r&&&~~~s
 | [],o=>⟨λh=>h,λz=>by simp[BA]⟩
 | r :: T,o=>by
  obtain⟨h1,h2⟩:=PJ (s:=s) (T:=T) (o:=sh o (r&&&~~~s));refine⟨λh=>h1 (zj h),λz=>?_⟩;show z∈BA s (sh o (r&&&~~~s)) T<->_;rw[h2 z,gK];simp only[Jd];constructor
  .rintro ((h|h)|⟨q,hq,h⟩)
   .exact .inl h
   .exact .inr ⟨r, .inl rfl,h⟩
   exact .inr ⟨q, .inr hq,h⟩
  rintro(h|⟨q,rfl|hq,h⟩)
  .exact .inl (.inl h)
  .exact .inl (.inr h)
  exact .inr ⟨q,hq,h⟩
def HJ {T:List AS} {s z:AS}:z∈tw T s<->∃r∈T,z=r&&&~~~s:=by
 have:=(PJ (s:=s) (T:=T) (o:=[])).2 z;simpa [tw]using this
def NV(T:List AS)(s:AS):(tw T s).Nodup:=(PJ (s:=s) (T:=T) (o:=[])).1 List.nodup_nil
def Xn(d:Fd)(r k:AS):AS:=(r&&&(d.lhs|||d.rhs))|||(k&&&~~~(d.lhs|||d.rhs))
def Wo(d:Fd)(r k:AS):Bool:=decide ((r ^^^ k)&&&d.lhs=0)
def b42 {d:Fd} {r k:AS} {i:Nat} (hi:i<32):(Xn d r k).getLsbD i=(if d.lhs.getLsbD i||d.rhs.getLsbD i then r.getLsbD i else k.getLsbD i):=by
 unfold Xn;rw[Rl,ow hi,Hg,Rl];cases d.lhs.getLsbD i<;>cases d.rhs.getLsbD i<;>simp
structure E1 (fs ms:List Fd) (T:List AS):Prop where
 fd:∀d∈fs,∀r∈T,∀k∈T,Wo d r k=true->(r ^^^ k)&&&d.rhs=0
 mv:∀d∈ms,∀r∈T,∀k∈T,Wo d r k=true->Xn d r k∈T
def B1(fs:List Fd)(bs:List AS)(a:Nat):Prop:=Uz a∈bs/\∃f∈fs,f.rhs.getLsbD a=true/\f.lhs.getLsbD a=false
structure JT (fs:List Fd) (bs:List AS) (rest:AS) (T:List AS):Prop where
 z:(0:AS)∈T
 r:∀r∈T,sub r rest/\∀b∈bs,b&&&r=0\/sub b r
 top:∃L∈T,(∀r∈T,sub r L)/\∀a,a<32->rest.getLsbD a=true->L.getLsbD a=false->B1 fs bs a
section
variable {fs ms:List Fd}{bs:List AS}{rest:AS}{T:List AS}
def bss(T:List AS)(b:AS):Prop:=∀r∈T,∀k∈T,((r&&&b)|||(k&&&~~~b))∈T
structure btk (fs ms:List Fd) (bs:List AS) (rest:AS) (T:List AS):Prop where
 j:JT fs bs rest T
 c:E1 fs ms T
def qB(T:List AS)(L x rest y:AS):Prop:=y≠0/\sub y rest/\(L&&&~~~(x|||y))∈T
end
end
section
def np:List AS->Nat
 | []=>0
 |b::l=>b.toNat+np l
def GJ:∀(l k:List AS),np (l++k)=np l+np k
 | [],k=>by simp[np]
 |b::l,k=>by simp[np,GJ l k];omega
def Xm(l:List AS):Prop:=np l<4294967296/\∀b∈l,b≠0
section
variable {l:List AS}
def qJ(h:Xm l):l.length<=4294967296:=by
 have:∀l:List AS,(∀b∈l,b≠0)->l.length<=np l:=by
  intro l
  induction l with
  |nil=>intro _;simp[np]
  | cons b l ih =>
   intro h;have h1:=ih λx hx=>h x (by simp[hx]);have h2:=GK (h b Ec);simp only[Zf,np];omega
 have h1:=this l h.2;have:=h.1;omega
def J7(m:Fd)(l:List AS):np (Bi m l)=np l:=by
 have:∀l:List AS,np (l.map (Li m))+np (l.flatMap (Cj m))=np l:=by
  intro l
  induction l with
  |nil=>rfl
  | cons b l ih =>
   rw[Wh,Lj,GJ];simp only[np];by_cases h:fc m b=true
   .have:=qW b m.rhs
    simp only[Li,Cj,h,Ma,np];omega
   rw[Hz]at h;simp only[Li,Cj,h,np,Nj,Na];omega
 unfold Bi;rw[GJ];exact this l
variable {m:Fd}
def AP(h:Xm l):Xm (Bi m l):=by
 refine⟨by rw[J7];exact h.1,λb hb=>?_⟩;unfold Bi at hb
 rcases Af.1 hb with hb|hb
 .obtain ⟨b0,h0,rfl⟩:=Ad.1 hb
  unfold Li;split
  .rename_i hs;exact(kF.1 hs).2.1
  exact h.2 _ h0
 obtain⟨b0,h0,hb⟩:=List.mem_flatMap.1 hb;unfold Cj at hb;split at hb
 .rename_i hs
  simp at hb;subst hb;exact(kF.1 hs).2.2
 cases hb
def UU (rest:AS):Xm (kg rest):=by
 unfold kg;split
 .exact⟨by simp[np],λ_ h=>by cases h⟩
 rename_i h;exact⟨by simp only[np];have:=rest.isLt;omega,λb hb=>by simp at hb;subst hb;exact h⟩
def lE{rest:AS}(h:¬rest=0):kg rest=[]++[rest]:=by rw[kg,Ca h];rfl
def eE{rest:AS}(h:rest=0):kg rest=[]:=by rw[kg,Ba h]
def ZJ(m:Fd)(l:List AS):Xe m l 0=l:=by simp[Xe]
def fB(m:Fd)(l:List AS):Xe m l l.length=Bi m l:=by simp[Xe,Bi]
def v8(m:Fd)(l:List AS)(i:Nat):((l.take i).map (Li m)).length=min i l.length:=by simp
variable {i:Nat}
def bd0 (h:i<l.length):(Xe m l i).getD i default=l.getD i default:=by
 have e:((l.take i).map (Li m)).length=i:=by rw[v8];omega
 unfold Xe;rw[Ug,Oc,Jk (by rw[e];omega),e,Dq,Ul (by rw[Ck];omega),Qo,Fi,<- Oc]
def Bm {a:Nat} (hia:i<=a) (h:a<l.length):(Xe m l i).getD a default=l.getD a default:=by
 have e:((l.take i).map (Li m)).length=i:=by rw[v8];omega
 unfold Xe;rw[Ug,Oc,Jk (by rw[e];omega),e,Ul (by rw[Ck];omega),Qo,show i+(a-i)=a by omega,<- Oc]
def TQ (m:Fd) (l:List AS) (i:Nat):l.length<=(Xe m l i).length:=by
 unfold Xe;rw[Uc,Uc,v8,Ck];omega
def ZU (h:i<l.length):l.drop i=l.getD i default::l.drop (i+1):=by
 rw[Ss h];congr 1;simp[Oc,Hc h]
def qk (h:i<l.length) (hs:fc m (l.getD i default)=false):Xe m l (i+1)=Xe m l i:=by
 unfold Xe;rw[au h,Mi,Ro,ZU h];simp only[Wh,List.map_nil,Lj,Dz,Li,Cj,hs,Nj,Na,Mg,Ug,Ql,Kn]
def RC (h:i<l.length) (hs:fc m (l.getD i default)=true):Xe m l (i+1)=(Xe m l i).set i (l.getD i default&&&m.rhs)++[l.getD i default&&&~~~m.rhs]:=by
 have e:((l.take i).map (Li m)).length=i:=by rw[v8];omega
 unfold Xe;rw[au h,Mi,Ro,ZU h];simp only[Wh,List.map_nil,Lj,Dz,Li,Cj,hs,Ma,Mg];generalize hA:(l.take i).map (Li m)=A at e ⊢;generalize (l.take i).flatMap (Cj m)=B;generalize l.drop (i+1)=D;subst e;rw[Ug A,Ug A,Ug A,List.set_append_right _ _ (Yb _),Dq,Ug A];simp
def A4(m:Fd)(l:List AS):∀i,(Xe m l i).length<=(Bi m l).length:=by
 intro i;by_cases hi:i<l.length
 .have:∀k,i+k<=l.length->(Xe m l i).length<=(Xe m l (i+k)).length:=by
   intro k
   induction k with
   |zero=>intro _;exact Yb _
   | succ k ih =>
    intro hk;have h1:=ih Za;refine Nd h1 ?_;cases hs:fc m (l.getD (i+k) default)
    .rw[show i+(k+1)=i+k+1 by omega,qk Za hs];exact Yb _
    rw[show i+(k+1)=i+k+1 by omega,RC Za hs,Uc,Ni];omega
  have h2:=this (l.length-i) Za;rw[show i+(l.length-i)=l.length by omega,fB]at h2;exact h2
 unfold Xe Bi;rw[Oz Za,Hv Za];simp
def Lq(l:List AS)(i:Nat):Nat->Nat->PV:=λk c=>if k<i then .any else sC (l.getD k default) c
def bbp (l:List AS) (i:Nat):Lq l i i 0=Ag (l.getD i default):=by
 unfold Lq;rw[Ca (Pl i)]
def zE {cl:Bool} {n:Nat} (hn:n=l.length):Fc (.sl n 1 cl (Lq l i)) (.sl l.length 1 false (Lq l (i+1))):=by
 subst hn;refine Wa rfl (.inl rfl) (λh=>by cases h) λk c hk hc=>?_;unfold Lq;by_cases h1:k<i
 .rw[Ba h1,Ba (show k<i+1 by omega)];exact Ra
 rw[Ca h1];by_cases h2:k<i+1
 .rw[Ba h2];exact Fc.any_of
 rw[Ca h2];exact Ra
def YH {L:List AS} {k:Nat} {v:PV} (hil:i<L.length) (hk:k=i:=by rfl):Fc (.sl L.length 1 false (er (lf sC (Xe m L i)) k 0 [v])) (.sl L.length 1 false (Lq L (i+1))):=by
 subst hk;refine Wa rfl (.inl rfl) (λh=>h) λa c ha hc=>?_;obtain rfl:c=0:=by omega
 unfold Lq;by_cases h:a<k+1
 .rw[Ba h];exact Fc.any_of
 rw[Ca h];unfold er lf;rw[Ca Za,Bm Za ha];exact Ra
def b1u{A B:List AS}{a:Nat}(h:a<A.length):(A++B).getD a default=A.getD a default:=by simp[Oc,Ul h]
def az6{A:List AS}{x:AS}:(A++[x]).getD A.length default=x:=by simp[Oc]
def y7{wr wr':Bool}{e:TypeId}{L:List AS}{k:Nat}{u:Int}{g:Nat->Nat->PV}(hil:i<L.length)(hs:fc m (L.getD i default)=true)(hk:k=i)(hu:u=Hb (L.getD i default&&&m.rhs))(hg:Fc (g 0 0) (Ag (L.getD i default&&&~~~m.rhs)))(hw:wr'=true->wr=true:=by exactλh=>h):
 Ic (.arr wr 1 e ((Xe m L i).length+1) (ek (Xe m L i).length (er (lf sC (Xe m L i)) k 0 [.raw (.int .u32 u)]) g)) (.arr wr' 1 e (Xe m L (i+1)).length (lf sC (Xe m L (i+1)))):=by
 subst hk hu;have hl:=TQ m L k;rw[RC hil hs];refine⟨hw,rfl,rfl,by rw[Uc,Ni];rfl,λa j ha hj=>?_⟩;obtain rfl:j=0:=by omega
 unfold ek;generalize L.getD k default&&&m.rhs=X;generalize L.getD k default&&&~~~m.rhs=Y at hg ⊢;generalize Xe m L k=A at hl ha ⊢;by_cases h:a<A.length
 .rw [Ba h]
  refine Va ?_;show er (lf sC A) k 0 [.raw (.int .u32 (Hb X))] a 0=sC ((A.set k X++[Y]).getD a default) 0;rw[b1u (by rw[Ni];exact h)];unfold er lf;by_cases h2:a=k
  .subst h2
   rw[Ba ⟨rfl,Yb _,by simp⟩,j2 h];rfl
  rw[Ca Za,Gc h2]
 obtain rfl:a=A.length:=by omega
 rw[Ca h,Dq];show Fc (g 0 0) (sC ((A.set k X++[Y]).getD A.length default) 0);have:=az6 (A:=A.set k X) (x:=Y);rw[Ni]at this;rw[this];exact hg
variable {ms:List Fd}
def VE {j:Nat} (h:j<ms.length):df (ms.take (j+1)) l=Bi (ms.getD j default) (df (ms.take j) l):=by
 unfold df;rw[au h,Oi];rfl
def NQ:∀(ms:List Fd) (m:Fd) (l:List AS),qe (ms++[m]) l=(qe ms l||(df ms l).any (fc m))
 | [],m,l=>by simp[qe,df]
 | k::ms,m,l=>by
  simp only[Ql,qe];rw[NQ ms m (Bi k l),Bool.or_assoc];rfl
def KT {j:Nat} (h:j<ms.length):qe (ms.take (j+1)) l=(qe (ms.take j) l||(df (ms.take j) l).any (fc (ms.getD j default))):=by
 rw[au h,NQ]
def iE (h:Xm l):∀{ms:List Fd},Xm (df ms l):=by
 intro ms
 induction ms generalizing l with
 |nil=>exact h
 |cons m ms ih=>exact ih (AP h)
structure JF (ms:List Fd) (R:List AS) (x:Nat×List AS×Bool):Prop where
 ok:Xm x.2.1
 t:x.2.2=true->Ep ms x.1 x.2.1=R/\Fh x.2.1<x.1
 f:x.2.2=false->x.2.1=R
def b70(ms:List Fd)(rest:AS):JF ms (blks ms rest) (18446744073709551616,kg rest,true):=⟨UU rest,λ_=>⟨rfl,b1s rest⟩,λh=>by cases h⟩
def bff{R:List AS}{f:Nat}(h:JF ms R (f,l,true)):JF ms R (f-1,df ms l,qe ms l)/\0<f:=by
 obtain⟨h1,h2⟩:=h.t rfl;have h2:Fh l<f:=h2;obtain⟨g,rfl⟩:∃g,f=g+1:=⟨f-1,by omega⟩;have h3:=iR ms l;refine⟨⟨iE h.ok,λhc=>?_,λhc=>?_⟩,by omega⟩
 .have hc:qe ms l=true:=hc
  have h1:Ep ms (g+1) l=R:=h1;unfold Ep at h1;rw[Ba hc]at h1 h3;exact⟨h1,by show Fh (df ms l)<g;omega⟩
 have hc:qe ms l=false:=hc;have h1:Ep ms (g+1) l=R:=h1;unfold Ep at h1;rw[hc]at h1;exact h1
def Th(n:Int)(l m:List Fd)(s:AS):Int:=if c8 n l m=0 then(if s>>>n.toNat=0 then 0 else 1)else c8 n l m
def HN{n:Int}{l m:List Fd}{s:AS}(h:¬c8 n l m=0):Th n l m s=c8 n l m:=Ca h
def TN{n:Int}{l m:List Fd}{s:AS}(h:c8 n l m=0)(h2:¬s>>>n.toNat=0):Th n l m s=1:=by unfold Th;rw[Ba h,Ca h2]
def TG{n:Int}{l m:List Fd}{s:AS}(h:c8 n l m=0)(h2:s>>>n.toNat=0):Th n l m s=0:=by unfold Th;rw[Ba h,Ba h2]
def vD{n:Int}{l m:List Fd}{s:AS}(h:Th n l m s=0):c8 n l m=0/\s>>>n.toNat=0:=by
 unfold Th at h;split at h
 .split at h
  .exact⟨by assumption,by assumption⟩
  cases h
 exact Ea h Gb
def wQ(f:Fd):(Dl f).length<=32:=by unfold Dl;rw[Yd];exact ot _
def md(fs ms:List Fd)(i k:Nat):List Fd:=ms++(fs.take i).flatMap Dl++(Dl (fs.getD i default)).take k
def IU(fs ms:List Fd):md fs ms 0 0=ms:=by simp[md]
variable {fs:List Fd}
def b0g (h:i<fs.length):md fs ms (i+1) 0=md fs ms i (Dl (fs.getD i default)).length:=by
 unfold md;rw[au h,Ro,Id];simp
def b47(fs ms:List Fd):md fs ms fs.length 0=Zw fs ms:=by simp[md,Zw]
def b00 {k:Nat} (h:k<(Dl (fs.getD i default)).length):md fs ms i (k+1)=md fs ms i k++[(Dl (fs.getD i default)).getD k default]:=by
 unfold md;rw[au h,<- Ug]
def b6a{k:Nat}:(md fs ms i k).length<=ms.length+32*(i+1):=by
 have:∀l:List Fd,(l.flatMap Dl).length<=32*l.length:=by
  intro l
  induction l with
  |nil=>simp
  | cons f l ih =>
   rw[Lj,Uc,Zf];have:=wQ f;omega
 have h1:=this (fs.take i);have h2:=wQ (fs.getD i default);unfold md;rw[Uc,Uc,Ae];rw[Ae]at h1;omega
end
end
section
open Go.RowKit
section
variable {ro:Option Nat}{P:Program}{nt:Nat}{st:Qb}{Q:Exit->Qb->Prop}
def wz{w0:World}{cc:Pc}{a:Act}{w:World}(Db:ah w0 nt cc st.den a w){d:Nat}{x:HR}(hx:ap cc st.den.o x (a.tmps.getD d undef)):ah w0 nt cc (Qb.den ⟨(d,some x)::st.t,st.o⟩) a w:=by
 refine⟨Db.defers,Db.size,Db.below,λk y hy=>?_,Db.objs,Db.inj,Db.imm,Db.sep,Db.was,Db.frm,Db.fsep,Db.fixed⟩;simp only[Qb.den]at hy;rw[b9]at hy;dsimp only at hy;split at hy
 .rename_i hk
  subst hk;simp only[Bb]at hy;subst hy;exact hx
 exact Db.tmps k y hy
section
variable {f:Nat->Nat->PV}
def b6m {c:Code} (d:Nat) {id n n' s:Nat} {wr:Bool} {e:TypeId} (hd:bo st.t d=some (.v (.one (.ref id n)))) (ho:bo st.o id=some (.arr wr s e n' f)) (hn:n'=n) (h:HW (ro:=ro) P nt c ⟨(d,some (.v (.one (.win id n 0 n))))::st.t,st.o⟩ Q):HW (ro:=ro) P nt c st Q:=by
 subst hn;refine Cu st d _ (λw0 m0 a w hr=>?_) h;obtain⟨cc,hold,Db⟩:=hr;refine⟨cc,hold,Db, ?_⟩;have hu:bc cc st.den.o (.ref id n') (a.tmps.getD d undef):=Db.tmps d _ hd;refine⟨hu.1,hu.2.1,λob s2 e2 n2 ho2 hd2=>⟨(hu.2.2 _ _ _ _ ho2 hd2).1,λhk=>?_⟩⟩;have he:=(hu.2.2 _ _ _ _ ho2 hd2).2 hk;obtain rfl:ob=.arr wr s e n' f:=Option.some.inj (ho2.symm.trans ho);simp only[a8.dim,Bb,Tc]at hd2;obtain⟨rfl,rfl,rfl⟩:=hd2;obtain⟨ad,cap,hv,hc1,hc2⟩:=zm (Db.objs _ _ ho2);exact⟨ad,ad,cap,hv,by rw[he,hv];rfl,by omega,hc1,hc2,λ_=>by cases ad<;>simp[ph]⟩
def Y8{c:Code}(d dh:Nat){id n n' n0 k s:Nat}{e:TypeId}(hd:bo st.t d=some (.v (.one (.ref id n))))(hh:bo st.t dh=some (.v (.one (.win id k 0 n0))))(ho:bo st.o id=some (.arr true s e n' f))(hn:n'=n)(hk:k=n)(hne:Nat.beq d dh=false)(hA:∀ad cap,n+1<=cap->HW (ro:=ro) P nt c ⟨(d,some (.v (.one (.pin id n ad cap))))::(dh,some (bu (.raw (.slice ad n0 cap))))::st.t,st.o⟩ Q)(hB:HW (ro:=ro) P nt c ⟨(d,some (bu (.sl n s true f)))::(dh,some (bu (.sl n0 s false f)))::st.t,(id,none)::st.o⟩ Q):HW (ro:=ro) P nt c st Q:=by
 subst hn hk;intro w0 m0 a w hr;obtain⟨cc,hold,Db⟩:=hr;have hu:bc cc st.den.o (.ref id k) (a.tmps.getD d undef):=Db.tmps d _ hd;have hv:bc cc st.den.o (.win id k 0 n0) (a.tmps.getD dh undef):=Db.tmps dh _ hh;obtain⟨ad,ad',cap,q1,q2,q3,q4,q5,q6⟩:=Ky hv ho rfl;have hu1:=(hu.2.2 _ _ _ _ ho rfl).2 rfl;by_cases hc:k+1<=cap
 .obtain rfl:ad'=ad:=by
   rw[q6 Za];cases ad<;>simp[ph]
  refine hA ad' cap hc w0 m0 a w ⟨cc,hold, ?_⟩;have h1:ah w0 nt cc (Qb.den ⟨(dh,some (bu (.raw (.slice ad' n0 cap))))::st.t,st.o⟩) a w:=wz Db ⟨by simpa using q2,rfl⟩;refine wz (st:=⟨(dh,some (bu (.raw (.slice ad' n0 cap))))::st.t,st.o⟩) h1 ⟨hu1.trans q1,hu.2.1,hu.2.2⟩
 obtain rfl:cap=k:=by omega
 have hfr:=Db.freeze (id:=id) ho;rw[<- w9]at hfr;refine hB w0 m0 a w ⟨{ old:=cc.old,imm:=Pb cc w id,tab:=vt Db ho,own:=cc.own,blk:=cc.blk,rows:=cc.rows },hold, ?_⟩;have hfa:=s8 Db ho;have h1:=wz (st:=⟨st.t,(id,none)::st.o⟩) (d:=dh) (x:=bu (.sl n0 s false λa b=>f (0+a) b)) hfr (ax1 Db ho hv);have e0:(λa b=>f (0+a) b)=f:=by funext a b;rw[Oe]
 rw[e0]at h1;refine wz (st:=⟨(dh,some (bu (.sl n0 s false f)))::st.t,(id,none)::st.o⟩) h1 ?_;rw[hu1];obtain⟨A,C,r1,r2,r3,r4,r5⟩:=hfa;refine⟨A,C,r1,r2,r3,λ_=>?_,r5⟩;rw[q1]at r1;simp only[Ka,true_and]at r1;exact r1.2.symm
def b3l {c:Code} (d dh:Nat) {id n n' n0 s cap:Nat} {ad:Option Addr} {e:TypeId} (hd:bo st.t d=some (.v (.one (.pin id n ad cap)))) (hh:bo st.t dh=some (bu (.raw (.slice ad n0 cap)))) (ho:bo st.o id=some (.arr true s e n' f)) (hn:n'=n) (hle:n0<=n) (hne:Nat.beq d dh=false) (h:HW (ro:=ro) P nt c ⟨(d,some (.v (.one (.ref id n))))::(dh,some (.v (.one (.win id n 0 n0))))::st.t,st.o⟩ Q):HW (ro:=ro) P nt c st Q:=by
 subst hn;intro w0 m0 a w hr;obtain⟨cc,hold,Db⟩:=hr;have hu:bc cc st.den.o (.pin id n' ad cap) (a.tmps.getD d undef):=Db.tmps d _ hd;have hv:bc cc st.den.o (.p (.raw (.slice ad n0 cap))) (a.tmps.getD dh undef):=Db.tmps dh _ hh;obtain⟨hv1,_⟩:=hv;have hu1:=(hu.2.2 _ _ _ _ ho rfl).2 rfl;refine h w0 m0 a w ⟨cc,hold, ?_⟩
 have h1:ah w0 nt cc (Qb.den ⟨(dh,some (.v (.one (.win id n' 0 n0))))::st.t,st.o⟩) a w:=by
  refine wz Db ⟨by rw[hv1];rfl,hu.2.1,λob s2 e2 n2 ho2 hd2=>⟨(hu.2.2 _ _ _ _ ho2 hd2).1,λhk=>?_⟩⟩;obtain rfl:ob=.arr true s e n' f:=Option.some.inj (ho2.symm.trans ho);simp only[a8.dim,Bb,Tc]at hd2;obtain⟨rfl,rfl,rfl⟩:=hd2;obtain⟨ad2,cap2,g1,g2,g3⟩:=zm (Db.objs _ _ ho2);have hown:cc.own id=.slice ad n' cap:=hu1.symm.trans hu.1;rw[hown]at g1;simp only[Ka,true_and]at g1;obtain⟨rfl,rfl⟩:=g1;exact⟨ad,ad,cap,hown,hv1,by omega,g2,g3,λ_=>by cases ad<;>simp[ph]⟩
 exact wz (st:=⟨(dh,some (.v (.one (.win id n' 0 n0))))::st.t,st.o⟩) h1 ⟨by rw[hu.1];rfl,hu.2.1,hu.2.2⟩
end
end
end
end Go.Hx

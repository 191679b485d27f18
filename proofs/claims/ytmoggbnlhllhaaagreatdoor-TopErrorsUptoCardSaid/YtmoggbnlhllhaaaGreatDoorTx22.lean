/- A part of the proof: Jn1 Jo1 Jc1 Jn2 Hx31. -/
import Derived.Shelf.SlSortCmp.Insertion
import Derived.Test.YtmoggbnlhllhaaaGreatDoorTx21
set_option linter.all false
namespace Go.Hx
section
def byC (b:Int):Nat->PV
 |0=>.raw (.int .u8 b)
 |_=>.any
abbrev byl(l:List Int):PV:=psl 1 byC l
def uN(n:Int):Int:=d6 .xor .u64 (IntKind.wrap .u64 n) 9223372036854775808
def byK(u:Int)(s:Nat):Int:=IntKind.wrap .u8 (u.fdiv (2^(min s 64)))
def uv(n:Int):List Int:=(List.range 8).map fun i=>byK (uN n) (56-8*i)
def zm(x:UInt8):List Int:=if x=0 then[0,255] else[(x.toNat:Int)]
def og(l:List UInt8):List Int:=l.flatMap zm
def ll(v:Val):List Int:=IntKind.wrap .u8 v.kind::(if v.kind=1\/v.kind=3 then uv v.num else if v.kind=2 then og (bl v.str)++[0,1] else[])
def s5(v:Val):ByteArray:=if cj v=true then strOfNums (ll v)else emp
def av9(v:Val):Int:=if cj v=true then 0 else 1
def kc (s:AS):Nat->List Val->ByteArray
 |_,[]=>emp
 |a,v::vs=>if s.getLsbD a=true then s5 v++kc s (a+1) vs else kc s (a+1) vs
def pe(l:List Val)(s:AS):ByteArray:=kc s 0 l
def x5(n:Int):(uv n).length=8:=by simp[uv]
def akw (l:List UInt8):(og l).length<=2*l.length:=by
 induction l with
 |nil=>simp[og]
 | cons x l ih =>
  simp only[og,bmk,biq,bjv]at ih ⊢;have:(zm x).length<=2:=by unfold zm;split<;>simp
  omega
section
variable {v:Val}
def a5g:(s5 v).size<=403:=by
 unfold s5;split
 · rename_i h
   have hs:=a2u h;rw[strOfNums_size,ll,bjv];split
   · rw[x5];omega
   split
   · have:=akw (bl v.str)
     rw[wv]at this;rw[biq];simp;omega
   simp
 exact bio _
def a8v(a b:ByteArray):(a++b).size=a.size+b.size:=ByteArray.size_append
def af1 {s:AS}:∀{l:List Val} {a:Nat},(kc s a l).size<=403*l.length
 | [],_=>bio _
 | v::l,a=>by
  have h1:=a5g (v:=v);have h2:(kc s (a+1) l).size<=403*l.length:=af1;unfold kc;rw[bjv];split
  · rw[a8v];omega
  omega
def b1r(a:ByteArray):a++emp=a:=ByteArray.append_empty
def b3p(a:ByteArray):emp++a=a:=ByteArray.empty_append
def aei {s:AS}:∀{l:List Val} {a:Nat} {v:Val},kc s a (l++[v])=if s.getLsbD (a+l.length)=true then kc s a l++s5 v else kc s a l
 | [],a,v=>by
  simp only[bls,kc,bmc,bkh];split
  · rw[b1r,b3p]
  rfl
 | x::l,a,v=>by
  have ih:kc s (a+1) (l++[v])=if s.getLsbD (a+1+l.length)=true then kc s (a+1) l++s5 v else kc s (a+1) l:=aei
  simp only[bku,kc,bjv];rw[ih,show a+1+l.length=a+(l.length+1) by omega];split<;>split<;>simp[ByteArray.append_assoc]
def tj(n:Int)(i:Nat):List Int:=(List.range i).map fun i=>byK (uN n) (56-8*i)
def asn (n:Int) (i:Nat):tj n (i+1)=tj n i++[byK (uN n) (56-8*i)]:=by
 unfold tj;rw[bjj,bju];rfl
def aiq(n:Int):tj n 8=uv n:=rfl
def ag4{l:List Int}{n:Int}{i:Nat}:l++tj n (i+1)=(l++tj n i)++[byK (uN n) (56-8*i)]:=by rw[asn,bjy]
abbrev kB(v:Val):Int:=IntKind.wrap .u8 v.kind
def rj (h:v.kind=1\/v.kind=3):ll v=[kB v]++uv v.num:=by
 unfold ll;rw[if_pos h];rfl
def sw(v:Val)(i:Nat):List Int:=kB v::og ((bl v.str).take i)
def afk {i:Nat} (hi:i<v.str.size) (h:c5 v.str i=0):sw v (i+1)=(sw v i++[c5 v.str i])++[255]:=by
 have hl:i<(bl v.str).length:=by rw[wv];exact hi
 unfold sw og;rw[ar hl,List.flatMap_append]
 have e:c5 v.str i=(((bl v.str).getD i default).toNat:Int):=by
  rw[ah _ _ hl];unfold c5;rw[bir,bik hl];rfl
 have h0:(bl v.str).getD i default=0:=by
  rw[e]at h;exact UInt8.toNat_inj.1 (by simpa using h)
 rw[e,h0];simp[zm]
def aft {i:Nat} (hi:i<v.str.size) (h:¬c5 v.str i=0):sw v (i+1)=sw v i++[c5 v.str i]:=by
 have hl:i<(bl v.str).length:=by rw[wv];exact hi
 unfold sw og;rw[ar hl,List.flatMap_append]
 have e:c5 v.str i=(((bl v.str).getD i default).toNat:Int):=by
  rw[ah _ _ hl];unfold c5;rw[bir,bik hl];rfl
 have h0:¬(bl v.str).getD i default=0:=fun h0=>by
  rw[e,h0]at h;exact h rfl
 rw[e];simp only[bmk,List.flatMap_nil,zm,if_neg h0,bjn,bku]
def b3o {i:Nat}:(sw v i).length<=1+2*v.str.size:=by
 have h:=akw ((bl v.str).take i);have h2:((bl v.str).take i).length<=v.str.size:=by rw[bjc,wv];omega
 simp only[sw,bjv];omega
def qu (h:v.kind=2):ll v=sw v v.str.size++[0,1]:=by
 unfold ll sw;rw[if_neg bmq,if_pos h,bln (by rw[wv];omega)];rfl
def qz (h1:¬v.kind=1) (h3:¬v.kind=3) (h2:¬v.kind=2):ll v=[kB v]:=by
 unfold ll;rw[if_neg bmq,if_neg h2]
def adj(h:cj v=true):s5 v=strOfNums (ll v):=if_pos h
def b0w(h:cj v=false):s5 v=emp:=if_neg (by simp[h])
def b1y(h:cj v=true):av9 v=0:=if_pos h
def b3a(h:cj v=false):av9 v=1:=if_neg (by simp[h])
def b26 (l:List Int):ac8 l.length (lf byC l)=strOfNums l:=by
 unfold ac8;congr 1;refine bkn bmu fun i h1 h2=>?_;simp[afv,lf,byC,List.getD,h2]
def ate{l:List Val}{s:AS}:(pe l s).size<=403*l.length:=af1
def ae8{α:Type}[Inhabited α]{wr wr':Bool}{e:TypeId}{c:α->Nat->PV}{l l':List α}{x y:α}{g g':Nat->Nat->PV}(h:l'=(l++[x])++[y])(hg:CoP (g 0 0) (c x 0))(hg':CoP (g' 0 0) (c y 0))(hw:wr'=true->wr=true:=by exact fun h=>h) :
 CoO (.arr wr 1 e (l.length+1+1) (fg (l.length+1) (fg l.length (lf c l) g) g')) (.arr wr' 1 e l'.length (lf c l')):=by
 subst h;refine⟨hw,rfl,rfl,by simp,fun i j hi hj=>?_⟩;obtain rfl:j=0:=by omega
 unfold fg lf;by_cases h1:i<l.length
 · rw [if_pos bmq,if_pos h1]
   refine CoP.of_eq ?_;simp[List.getD,List.getElem?_append,h1,show i<l.length+1 by omega]
 by_cases h2:i=l.length
 · subst h2
   rw[if_pos bmq,if_neg bmq,Nat.sub_self];simpa [List.getD]using hg
 obtain rfl:i=l.length+1:=by omega
 rw[if_neg bmq,Nat.sub_self];simpa [List.getD]using hg'
def a2w {α:Type} [Inhabited α] {wr wr':Bool} {e:TypeId} {c:α->Nat->PV} {l l':List α} {x y:α} {g:Nat->Nat->PV} (h:l'=l++[x,y]) (hg:CoP (g 0 0) (c x 0)) (hg':CoP (g 1 0) (c y 0)) (hw:wr'=true->wr=true:=by exact fun h=>h) :
 CoO (.arr wr 1 e (l.length+2) (fg l.length (lf c l) g)) (.arr wr' 1 e l'.length (lf c l')):=by
 subst h;refine aag [x,y] hw rfl fun i j hi hj=>?_;obtain rfl:j=0:=by omega
 have hi:i<2:=hi
 rcases(by omega:i=0\/i=1)with rfl|rfl
 · exact hg
 exact hg'
end
end
section
open Go.Proofs Go.RowKit Go.Sort
structure Tot {α:Type} (c:α->α->Int):Prop where
 anti:∀a b,c b a=- c a b
 zero:∀a b,c a b=0<->a=b
 tr:∀a b d,c a b<0->c b d<0->c a d<0
section
variable {α:Type}{c:α->α->Int}
theorem Tot.self(h:Tot c)(a:α):c a a=0:=(h.zero a a).2 rfl
theorem Tot.tri (h:Tot c) {a b:α} (hab:a≠b):c a b<0\/c b a<0:=by
 have h1:=h.anti a b;have h2:c a b≠0:=fun e=>hab ((h.zero a b).1 e);omega
theorem Tot.swo (h:Tot c):SWO (ltOf c) where
 irrefl x:=by unfold ltOf;rw[h.self];rfl
 trans x y z h1 h2:=by
  unfold ltOf at *;exact decide_eq_true (h.tr x y z (of_decide_eq_true h1) (of_decide_eq_true h2))
 ntrans x y z h1 h2:=by
  unfold ltOf at *;refine decide_eq_false fun hxz=>?_;have h1:=of_decide_eq_false h1;have h2:=of_decide_eq_false h2;have ha:=h.anti x y;by_cases e:x=y
  · subst e;exact h2 hxz
  have:c x y≠0:=fun e2=>e ((h.zero x y).1 e2);exact h2 (h.tr y x z bmq hxz)
theorem Tot.eq (h:Tot c) (x y:α) (h1:ltOf c x y=false) (h2:ltOf c y x=false):x=y:=by
 unfold ltOf at *;have h1:=of_decide_eq_false h1;have h2:=of_decide_eq_false h2;have ha:=h.anti x y;exact(h.zero x y).1 bmq
abbrev Asc(c:α->α->Int)(l:List α):Prop:=l.Pairwise fun a b=>c a b<0
theorem Tot.ext (h:Tot c):∀{l m:List α},Asc c l->Asc c m->(∀x,x∈l<->x∈m)->l=m
 | [],[],_,_,_=>rfl
 | [],y::m,_,_,e=>by have:=(e y).2 bmu;cases this
 |x::l,[],_,_,e=>by have:=(e x).1 bmu;cases this
 | x :: l,y::m,h1,h2,e=>by
  have h1':=bj9.1 h1;have h2':=bj9.1 h2
  have hxy:x=y:=by
   apply Classical.byContradiction;intro hne
   have hx:x∈m:=by
    have:=(e x).1 bmu
    rcases biv.1 this with e2|e2
    · exact absurd e2 hne
    exact e2
   have hy:y∈l:=by
    have:=(e y).2 bmu
    rcases biv.1 this with e2|e2
    · exact absurd e2.symm hne
    exact e2
   have a1:=h2'.1 x hx;have a2:=h1'.1 y hy;have a3:=h.anti x y;omega
  subst hxy;refine congrArg (x::·) (Tot.ext h h1'.2 h2'.2 fun z=>⟨fun hz=>?_,fun hz=>?_⟩)
  · have:=(e z).1 (by simp[hz])
    rcases biv.1 this with rfl|e2
    · have:=h1'.1 z hz;rw[h.self]at this;omega
    exact e2
  have:=(e z).2 (by simp[hz])
  rcases biv.1 this with rfl|e2
  · have:=h2'.1 z hz;rw[h.self]at this;omega
  exact e2
def b4v(c:α->α->Int)(l:List α):List α:=l.mergeSort fun x y=>!(ltOf c) y x
theorem Tot.srt (h:Tot c) (l:List α):(b4v c l).Pairwise fun a b=>¬c b a<0:=by
 have:=List.pairwise_mergeSort (le:=fun x y:α=>!(ltOf c) y x) (fun a b d h1 h2=>by
  simp only[bjq]at *
  exact h.swo.ntrans _ _ _ h2 h1) (fun a b=>by
  simp only[bjx,bjq,ltOf,decide_eq_false_iff_not];have:=h.anti a b
  omega) l
 refine this.imp fun {a b} hab=>?_;simpa [ltOf]using hab
end
end
section
structure CpJ (l:List Val) (k p q:Nat) (m:List Val):Prop where
 len:m.length=l.length
 kq:k<q
 pq:p<q
 ql:q<=l.length
 pre:m.take p=j6 (l.take q)
 high:∀j,q-1<=j->m.getD j default=l.getD j default
section
variable {l:List Val}
theorem CpJ.start {k:Nat} (h1:1<=k) (hk:k<l.length) (h:∀j,0<j->j<k->¬l.getD j default=l.getD (j-1) default) (hd:l.getD k default=l.getD (k-1) default):CpJ l k k (k+1) l :=
 ⟨rfl,by omega,by omega,by omega,by rw[jj bmq hk,if_pos hd.symm,bjn,su bmq h],fun _ _=>rfl⟩
theorem CpJ.skip {k p q:Nat} {m:List Val} (h:CpJ l k p q m) (hq:q<l.length) (he:m.getD q default=m.getD (q-1) default):CpJ l k p (q+1) m:=by
 have hk:=h.kq;refine⟨h.len,by omega,by have:=h.pq;omega,hq, ?_,fun j hj=>h.high j bmq⟩;rw[h.high q bmq,h.high (q-1) bmq]at he;rw[jj bmq hq,if_pos he.symm,bjn,h.pre]
theorem CpJ.keep {k p q:Nat} {m:List Val} (h:CpJ l k p q m) (hq:q<l.length) (he:¬m.getD q default=m.getD (q-1) default):CpJ l k (p+1) (q+1) (m.set p (m.getD q default)):=by
 have hk:=h.kq;have hp:=h.pq;have hl:=h.len;refine⟨by simp[hl],by omega,by omega,hq, ?_,fun j hj=>by rw[getD_set_ne' bmq];exact h.high j bmq⟩;have e:=h.high q bmq;rw[e,h.high (q-1) bmq]at he;rw[jj bmq hq,if_neg (fun e=>he e.symm),<- h.pre,ar (by simp[hl];omega),lm bmq,e];congr 1;rw[List.take_set,bm4 bn4]
end
end
section
def bf7(R:List Row)(a:Nat):List Val:=R.map fun r=>r.vals.getD a default
def axj(R:List Row)(a:Nat):List Val:=j6 (b4v zu (bf7 R a))
def az6(R:List Row)(n:Nat):List (List Val):=(List.range n).map (axj R)
def bg5(R:List Row)(n a:Nat):List (List Val):=(List.range n).map fun i=>if i<a then axj R i else[]
def vlC(l:List Val):Nat->PV:=fun _=>vals l
abbrev bgc(l:List (List Val)):PV:=psl 1 vlC l
def aou(R:List Row)(s:AS)(k:Nat)(e:ByteArray):Bool:=R.any fun r=>decide (pe (r.vals.take k) s=e)
def baa (R:List Row) (s:AS) (k:Nat):MK->Option PV
 | .s b=>if aou R s k b=true then some (.raw (.bool true))else none
 | .i _ _=>none
def mpC(N:Nat)(R:List Row)(s:AS)(k:Nat):PV:=mpP .str N (baa R s k)
def lvF(R:List Row)(s:AS):Nat->Nat->PV:=fun k _=>mpC R.length R s k
def lvC(R:List Row)(n:Nat)(s:AS):Nat->PV:=fun _=>.sl (n+1) 1 false (lvF R s)
def lvT(R:List Row)(s:AS)(a:Nat):Nat->Nat->PV:=fun k _=>if k<a then mpC R.length R s k else .raw (.map none)
def bch(R:List Row)(vs:List Val)(m:Nat)(s:AS):Bool:=decide (1000<m)||!aou R s vs.length (pe vs s)
def ayo(R:List Row)(ps:List AS)(vs:List Val)(m:Nat):Bool:=ps.any (bch R vs m)
def aup (R:List Row) (ps:List AS) (cols:List (List Val)):Nat->List Val->List (List Val)->List (List Val)
 |0,vs,acc=>if ayo R ps vs acc.length=true then acc else acc++[vs]
 |d+1,vs,acc=>if ayo R ps vs acc.length=true then acc else(cols.getD vs.length default).foldl (fun acc v=>aup R ps cols d (vs++[v]) acc) acc
def ayj(R:List Row)(ps:List AS)(n:Nat):List (List Val):=aup R ps (az6 R n) n [] []
def b5x(l:List (List Val)):List Row:=(List.range l.length).map fun(i:Nat)=>⟨(i:Int)+1,l.getD i []⟩
def bbu (t:Tbl) (ps:List AS):Int :=
 if dg t≠0 then dg t else if lvE t.attrs.length ps≠0 then lvE t.attrs.length ps else if 1000<(ayj t.rows ps t.attrs.length).length then 3 else 0
def bfn(t:Tbl)(ps:List AS):Tbl:=if bbu t ps=0 then⟨t.name,t.attrs,b5x (ayj t.rows ps t.attrs.length)⟩else T0
def bi2 (R:List Row) (ps:List AS) (cols:List (List Val)) (d:Nat) (vs:List Val) (acc:List (List Val)) (i:Nat):List (List Val) :=
 ((cols.getD vs.length default).take i).foldl (fun acc v=>aup R ps cols d (vs++[v]) acc) acc
end
section
open Go.RowKit
def beg (id n s:Nat) (F:Nat->Nat->PV):List HC->List HC->Prop
 | [],[]=>True
 |x::xs,y::ys=>(y=x\/(x=.one (.ref id n)/\y=.one (.p (.sl n s false F))))/\beg id n s F xs ys
 |_,_=>False
def vo(i0:Nat)(h:HV)(g:Nat->Nat->PV):Nat->Nat->HV:=fun i j=>if i=i0 then h else .p (g i j)
section
variable {f':Nat->Nat->PV}
def abz{nt:Nat}{st:HSt}{w0:World}{m0:Old}{a:Act}{w:World}(x i0 id:Nat)(wr:Bool){n n2 s':Nat}{e2:TypeId}{g:Nat->Nat->PV}(s:Nat)(e:TypeId)(f:Nat->Nat->PV)(hs:0<s)(hb:b6 st.o x=some (.arr true 1 e2 n2 g))(hi:i0<n2)(hl:g i0 0=.sl n s' true f')(hco:CoP (.sl n s' true f') (.sl n s true f))(hwr:wr=false\/n=0)(hn:jx id st=true)(hne:Nat.beq x id=false)(hr:Rel w0 m0 nt st.den a w):Rel w0 m0 nt (HSt.den ⟨st.t,(x,some (.arrh 1 e2 n2 [id] (vo i0 (.ref id n) g)))::(id,some (.arr wr s e n f))::st.o⟩) a w:=by
 obtain⟨hnm,hno⟩:=dp hn;obtain⟨cc,hold,hrr⟩:=hr;have hbi:x≠id:=by rintro rfl;simp at hne
 obtain⟨p0,p1,p2⟩:=hrr.objs x _ hb
 obtain ⟨p3,xs,p4,p5⟩:cc.blk x=dx (cc.own x)/\∃xs,w.ownsRow 0 e2 1 (cc.own x) n2 xs/\∀i j,i<n2->j<1->∃u,xs[i*1+j]? = some u/\aq cc.imm (g i j) u:=by
  rcases p2 with p2|⟨p2|p2,_⟩
  · exact p2
  · cases p2
  omega
 obtain⟨u,hu,hur⟩:=p5 i0 0 hi bmq;rw[hl]at hur;have hx:aq cc.imm (.sl n s true f) u:=hco _ _ hur;have hnm':n<=maxLen:=by obtain⟨ad,cap,_,q1,q2,_⟩:=hx;omega
 have hfresh:=hrr.fresh id hnm hno (.arr wr s e n f) w u noB (Grw.refl w none) (fun b hb=>hb.elim) ⟨hs,hnm', .inr ⟨hwr,by simp,by simpa using hx⟩⟩;rw[<- j3]at hfresh
 have hb':(HSt.den ⟨st.t,(id,some (.arr wr s e n f))::st.o⟩).o x=some (.arr true 1 e2 n2 g):=by
  simp only[HSt.den,ay,hbi,if_false];exact hb
 have hevo:∀(c1:Ctx),c1.own=(fun k=>if k=id then u else cc.own k)->Evo { old:=cc.old,imm:=cc.imm,tab:=cc.tab,own:=fun k=>if k=id then u else cc.own k,blk:=fun k=>if k=id then noB else cc.blk k,rows:=cc.rows } (HSt.den ⟨st.t,(id,some (.arr wr s e n f))::st.o⟩).o c1 ((HSt.den ⟨st.t,(id,some (.arr wr s e n f))::st.o⟩).setO x (some (.arrh 1 e2 n2 [id] (vo i0 (.ref id n) g)))).o x:=fun c1 h1 =>
  .inr (.inr ⟨_, .arrh 1 e2 n2 [id] (vo i0 (.ref id n) g),1,e2,n2,n2,hb',rfl,by simp[S.setO],rfl,bil _,fun _=>by rw[h1],fun _ _ _ _ _ _ _ hb=>by cases hb⟩)
 have hown:(fun k=>if k=x then(fun k=>if k=id then u else cc.own k) x else(fun k=>if k=id then u else cc.own k) k)=fun k=>if k=id then u else cc.own k:=by
  funext k;by_cases hk:k=x
  · subst hk;simp
  simp[hk]
 have hw:=hfresh.write x _ hb' (.arrh 1 e2 n2 [id] (vo i0 (.ref id n) g)) w ((fun k=>if k=id then u else cc.own k) x) ((fun k=>if k=id then noB else cc.blk k) x) none (Grw.refl w _) (fun _ e=>by cases e) (hevo _ (by exact hown)) (fun b hb=>.inl hb) (by
  refine⟨by omega,p1,fun i j k hi hj hk=>?_, .inl ⟨by simpa [hbi]using p3,xs,by simpa [hbi]using p4,fun i j hi' hj=>?_⟩⟩
  · unfold vo at hk
    split at hk
    · have hk:k=id:=hk
      rw[hk];exact bjb.2 rfl
    exact hk.elim
  obtain⟨u',hu',hr'⟩:=p5 i j hi' hj;refine⟨u',hu', ?_⟩;obtain rfl:j=0:=by omega
  unfold vo;by_cases hk:i=i0
  · subst hk
    rw[if_pos rfl];rw[hu]at hu';simp only[bij]at hu';subst hu';refine⟨aq.oneCell hx,fun l2=>by simp[S.setO,HSt.den,ay,Ne.symm hbi],fun ob1 s1 e1 n1 ho hd1=>?_⟩;simp only[S.setO,HSt.den,ay,Ne.symm hbi,if_false,if_true,bij]at ho;subst ho;simp only[ae.dim,bij,bim]at hd1;obtain⟨rfl,rfl,rfl⟩:=hd1;exact⟨bil _,fun _=>by simp[Ne.symm hbi]⟩
  rw[if_neg hk]
  exact hr')
 have e:HSt.den ⟨st.t,(x,some (.arrh 1 e2 n2 [id] (vo i0 (.ref id n) g)))::(id,some (.arr wr s e n f))::st.o⟩=(HSt.den ⟨st.t,(id,some (.arr wr s e n f))::st.o⟩).setO x (some (.arrh 1 e2 n2 [id] (vo i0 (.ref id n) g))):=by
  unfold HSt.den S.setO;simp only[S.mk.injEq,true_and];funext k;simp only[ay]
 rw[e];exact⟨_,(by exact hold),hw⟩
def ahs {nt:Nat} {st:HSt} {Q:HSt->Prop} (d id:Nat) (wr:Bool) {n s':Nat} (s:Nat) (e:TypeId) (f:Nat->Nat->PV) (hs:0<s) (hd:b6 st.t d=some (bo (.sl n s' true f'))) (hco:CoP (.sl n s' true f') (.sl n s true f)) (hwr:wr=false\/n=0) (hn:jx id st=true) (h:HE nt ⟨(d,some (.v (.one (.ref id n))))::st.t,(id,some (.arr wr s e n f))::st.o⟩ Q):HE nt st Q:=by
 obtain⟨hnm,hno⟩:=dp hn;refine aaj ⟨st.t,(id,some (.arr wr s e n f))::st.o⟩ d (.v (.one (.ref id n))) (fun w0 m0 a w hr=>?_) h;obtain⟨cc,hold,hrr⟩:=hr;have hx:aq cc.imm (.sl n s true f) (a.tmps.getD d undef):=hco _ _ (hrr.tmps d _ hd);have hnm':n<=maxLen:=by obtain⟨ad,cap,_,q1,q2,_⟩:=hx;omega
 have hfresh:=hrr.fresh id hnm hno (.arr wr s e n f) w (a.tmps.getD d undef) noB (Grw.refl w none) (fun b hb=>hb.elim)
  ⟨hs,hnm', .inr ⟨hwr,by simp,by simpa using hx⟩⟩
 refine⟨_, ?_,by rw[j3];exact hfresh, ?_⟩
 · exact hold
 rw[j3];refine⟨aq.oneCell hx,fun l=>by simp[S.setO],fun ob1 s1 e1 n1 ho hd1=>?_⟩;simp only[S.setO,if_true,bij]at ho;subst ho;simp only[ae.dim,bij,bim]at hd1;obtain⟨rfl,rfl,rfl⟩:=hd1;exact⟨bil _,fun _=>by simp⟩
end
end
end Go.Hx

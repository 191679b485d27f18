/- A part of the proof: Jn1 Jc1 Jn2 Ch22 Ch25 Cc4 Hx31. -/
import Derived.Test.YtmoggbnlhllhaaaGreatDoorUx21
set_option linter.all false
namespace Go.Hx
section
def byC (b:Int):Nat->PV
 |0=>.raw (.int .u8 b)
 |_=>.any
abbrev byl(l:List Int):PV:=psl 1 byC l
def uN(n:Int):Int:=cu .xor .u64 (IntKind.wrap .u64 n) 9223372036854775808
def byK(u:Int)(s:Nat):Int:=IntKind.wrap .u8 (u.fdiv (2^(min s 64)))
def a5m(n:Int):List Int:=(List.range 8).map fun i=>byK (uN n) (56-8*i)
def aip(x:UInt8):List Int:=if x=0 then[0,255] else[(x.toNat:Int)]
def a9e(l:List UInt8):List Int:=l.flatMap aip
def tk(v:Val):List Int:=IntKind.wrap .u8 v.kind::(if v.kind=1\/v.kind=3 then a5m v.num else if v.kind=2 then a9e (bl v.str)++[0,1] else[])
def tc(v:Val):ByteArray:=if d8 v=true then strOfNums (tk v)else emp
def ayz(v:Val):Int:=if d8 v=true then 0 else 1
def tn (s:AS):Nat->List Val->ByteArray
 |_,[]=>emp
 |a,v::vs=>if s.getLsbD a=true then tc v++tn s (a+1) vs else tn s (a+1) vs
def uc(l:List Val)(s:AS):ByteArray:=tn s 0 l
def ayj(n:Int):(a5m n).length=8:=by simp[a5m]
def als (l:List UInt8):(a9e l).length<=2*l.length:=by
 induction l with
 |nil=>simp[a9e]
 | cons x l ih =>
  simp only[a9e,List.flatMap_cons,bm2,bna]at ih ⊢;have:(aip x).length<=2:=by unfold aip;split<;>simp
  omega
section
variable {v:Val}
def a4s:(tc v).size<=403:=by
 unfold tc;split
 · rename_i h
   have hs:=a2g h;rw[strOfNums_size,tk,bna];split
   · rw[ayj];omega
   split
   · have:=als (bl v.str)
     rw[y5]at this;rw[bm2];simp;omega
   simp
 exact bm3 _
def a9s(a b:ByteArray):(a++b).size=a.size+b.size:=ByteArray.size_append
def aga {s:AS}:∀{l:List Val} {a:Nat},(tn s a l).size<=403*l.length
 | [],_=>bm3 _
 | v::l,a=>by
  have h1:=a4s (v:=v);have h2:(tn s (a+1) l).size<=403*l.length:=aga;unfold tn;rw[bna];split
  · rw[a9s];omega
  omega
def b6y(a:ByteArray):a++emp=a:=ByteArray.append_empty
def b5z(a:ByteArray):emp++a=a:=ByteArray.empty_append
def agi {s:AS}:∀{l:List Val} {a:Nat} {v:Val},tn s a (l++[v])=if s.getLsbD (a+l.length)=true then tn s a l++tc v else tn s a l
 | [],a,v=>by
  simp only[List.nil_append,tn,bor,bnt];split
  · rw[b6y,b5z]
  rfl
 | x::l,a,v=>by
  have ih:tn s (a+1) (l++[v])=if s.getLsbD (a+1+l.length)=true then tn s (a+1) l++tc v else tn s (a+1) l:=agi
  simp only[bog,tn,bna];rw[ih,show a+1+l.length=a+(l.length+1) by omega];split<;>split<;>simp[ByteArray.append_assoc]
def ur(n:Int)(i:Nat):List Int:=(List.range i).map fun i=>byK (uN n) (56-8*i)
def av2 (n:Int) (i:Nat):ur n (i+1)=ur n i++[byK (uN n) (56-8*i)]:=by
 unfold ur;rw[bmk,bn7];rfl
def am6(n:Int):ur n 8=a5m n:=rfl
def aj0{l:List Int}{n:Int}{i:Nat}:l++ur n (i+1)=(l++ur n i)++[byK (uN n) (56-8*i)]:=by rw[av2,bn6]
abbrev kB(v:Val):Int:=IntKind.wrap .u8 v.kind
def sj (h:v.kind=1\/v.kind=3):tk v=[kB v]++a5m v.num:=by
 unfold tk;rw[if_pos h];rfl
def vd(v:Val)(i:Nat):List Int:=kB v::a9e ((bl v.str).take i)
def ah6 {i:Nat} (hi:i<v.str.size) (h:ce v.str i=0):vd v (i+1)=(vd v i++[ce v.str i])++[255]:=by
 have hl:i<(bl v.str).length:=by rw[y5];exact hi
 unfold vd a9e;rw[ax hl,bon]
 have e:ce v.str i=(((bl v.str).getD i default).toNat:Int):=by
  rw[al _ _ hl];unfold ce;rw[bm7,blz hl];rfl
 have h0:(bl v.str).getD i default=0:=by
  rw[e]at h;exact UInt8.toNat_inj.1 (by simpa using h)
 rw[e,h0];simp[aip]
def ah2 {i:Nat} (hi:i<v.str.size) (h:¬ce v.str i=0):vd v (i+1)=vd v i++[ce v.str i]:=by
 have hl:i<(bl v.str).length:=by rw[y5];exact hi
 unfold vd a9e;rw[ax hl,bon]
 have e:ce v.str i=(((bl v.str).getD i default).toNat:Int):=by
  rw[al _ _ hl];unfold ce;rw[bm7,blz hl];rfl
 have h0:¬(bl v.str).getD i default=0:=fun h0=>by
  rw[e,h0]at h;exact h rfl
 rw[e];simp only[List.flatMap_cons,List.flatMap_nil,aip,if_neg h0,bmv,bog]
def b3i {i:Nat}:(vd v i).length<=1+2*v.str.size:=by
 have h:=als ((bl v.str).take i);have h2:((bl v.str).take i).length<=v.str.size:=by rw[bmw,y5];omega
 simp only[vd,bna];omega
def ss (h:v.kind=2):tk v=vd v v.str.size++[0,1]:=by
 unfold tk vd;rw[if_neg bpw,if_pos h,bo8 (by rw[y5];omega)];rfl
def t6 (h1:¬v.kind=1) (h3:¬v.kind=3) (h2:¬v.kind=2):tk v=[kB v]:=by
 unfold tk;rw[if_neg bpw,if_neg h2]
def apf(h:d8 v=true):tc v=strOfNums (tk v):=if_pos h
def b3k(h:d8 v=false):tc v=emp:=if_neg (by simp[h])
def b42(h:d8 v=true):ayz v=0:=if_pos h
def b6p(h:d8 v=false):ayz v=1:=if_neg (by simp[h])
def b28 (l:List Int):adk l.length (lf byC l)=strOfNums l:=by
 unfold adk;congr 1;refine bnz bpz fun i h1 h2=>?_;simp[ah4,lf,byC,List.getD,h2]
def at7{l:List Val}{s:AS}:(uc l s).size<=403*l.length:=aga
def ag0{α:Type}[Inhabited α]{wr wr':Bool}{e:TypeId}{c:α->Nat->PV}{l l':List α}{x y:α}{g g':Nat->Nat->PV}(h:l'=(l++[x])++[y])(hg:CoP (g 0 0) (c x 0))(hg':CoP (g' 0 0) (c y 0))(hw:wr'=true->wr=true:=by exact fun h=>h) :
 CoO (.arr wr 1 e (l.length+1+1) (f3 (l.length+1) (f3 l.length (lf c l) g) g')) (.arr wr' 1 e l'.length (lf c l')):=by
 subst h;refine⟨hw,rfl,rfl,by simp,fun i j hi hj=>?_⟩;obtain rfl:j=0:=by omega
 unfold f3 lf;by_cases h1:i<l.length
 · rw [if_pos bpw,if_pos h1]
   refine CoP.of_eq ?_;simp[List.getD,List.getElem?_append,h1,show i<l.length+1 by omega]
 by_cases h2:i=l.length
 · subst h2
   rw[if_pos bpw,if_neg bpw,Nat.sub_self];simpa [List.getD]using hg
 obtain rfl:i=l.length+1:=by omega
 rw[if_neg bpw,Nat.sub_self];simpa [List.getD]using hg'
def a3k {α:Type} [Inhabited α] {wr wr':Bool} {e:TypeId} {c:α->Nat->PV} {l l':List α} {x y:α} {g:Nat->Nat->PV} (h:l'=l++[x,y]) (hg:CoP (g 0 0) (c x 0)) (hg':CoP (g 1 0) (c y 0)) (hw:wr'=true->wr=true:=by exact fun h=>h) :
 CoO (.arr wr 1 e (l.length+2) (f3 l.length (lf c l) g)) (.arr wr' 1 e l'.length (lf c l')):=by
 subst h;refine a1t [x,y] hw rfl fun i j hi hj=>?_;obtain rfl:j=0:=by omega
 have hi:i<2:=hi
 rcases(by omega:i=0\/i=1)with rfl|rfl
 · exact hg
 exact hg'
end
end
section
structure CpJ (l:List Val) (k p q:Nat) (m:List Val):Prop where
 len:m.length=l.length
 kq:k<q
 pq:p<q
 ql:q<=l.length
 pre:m.take p=jg (l.take q)
 high:∀j,q-1<=j->m.getD j default=l.getD j default
section
variable {l:List Val}
theorem CpJ.start {k:Nat} (h1:1<=k) (hk:k<l.length) (h:∀j,0<j->j<k->¬l.getD j default=l.getD (j-1) default) (hd:l.getD k default=l.getD (k-1) default):CpJ l k k (k+1) l :=
 ⟨rfl,by omega,by omega,by omega,by rw[jp bpw hk,if_pos hd.symm,bmv,uz bpw h],fun _ _=>rfl⟩
theorem CpJ.skip {k p q:Nat} {m:List Val} (h:CpJ l k p q m) (hq:q<l.length) (he:m.getD q default=m.getD (q-1) default):CpJ l k p (q+1) m:=by
 have hk:=h.kq;refine⟨h.len,by omega,by have:=h.pq;omega,hq, ?_,fun j hj=>h.high j bpw⟩;rw[h.high q bpw,h.high (q-1) bpw]at he;rw[jp bpw hq,if_pos he.symm,bmv,h.pre]
theorem CpJ.keep {k p q:Nat} {m:List Val} (h:CpJ l k p q m) (hq:q<l.length) (he:¬m.getD q default=m.getD (q-1) default):CpJ l k (p+1) (q+1) (m.set p (m.getD q default)):=by
 have hk:=h.kq;have hp:=h.pq;have hl:=h.len;refine⟨by simp[hl],by omega,by omega,hq, ?_,fun j hj=>by rw[getD_set_ne' bpw];exact h.high j bpw⟩;have e:=h.high q bpw;rw[e,h.high (q-1) bpw]at he;rw[jp bpw hq,if_neg (fun e=>he e.symm),<- h.pre,ax (by simp[hl];omega),md bpw,e];congr 1;rw[List.take_set,bpm bqa]
end
end
section
def bgz(R:List Row)(a:Nat):List Val:=R.map fun r=>r.vals.getD a default
def b07(R:List Row)(a:Nat):List Val:=jg (b8i j9 (bgz R a))
def b0m(R:List Row)(n:Nat):List (List Val):=(List.range n).map (b07 R)
def bj5(R:List Row)(n a:Nat):List (List Val):=(List.range n).map fun i=>if i<a then b07 R i else[]
def vlC(l:List Val):Nat->PV:=fun _=>vals l
abbrev biu(l:List (List Val)):PV:=psl 1 vlC l
def as4(R:List Row)(s:AS)(k:Nat)(e:ByteArray):Bool:=R.any fun r=>decide (uc (r.vals.take k) s=e)
def bfk (R:List Row) (s:AS) (k:Nat):MK->Option PV
 | .s b=>if as4 R s k b=true then some (.raw (.bool true))else none
 | .i _ _=>none
def mpC(N:Nat)(R:List Row)(s:AS)(k:Nat):PV:=mpP .str N (bfk R s k)
def lvF(R:List Row)(s:AS):Nat->Nat->PV:=fun k _=>mpC R.length R s k
def lvC(R:List Row)(n:Nat)(s:AS):Nat->PV:=fun _=>.sl (n+1) 1 false (lvF R s)
def lvT(R:List Row)(s:AS)(a:Nat):Nat->Nat->PV:=fun k _=>if k<a then mpC R.length R s k else .raw (.map none)
def bdo(R:List Row)(vs:List Val)(m:Nat)(s:AS):Bool:=decide (1000<m)||!as4 R s vs.length (uc vs s)
def b0s(R:List Row)(ps:List AS)(vs:List Val)(m:Nat):Bool:=ps.any (bdo R vs m)
def axd (R:List Row) (ps:List AS) (cols:List (List Val)):Nat->List Val->List (List Val)->List (List Val)
 |0,vs,acc=>if b0s R ps vs acc.length=true then acc else acc++[vs]
 |d+1,vs,acc=>if b0s R ps vs acc.length=true then acc else(cols.getD vs.length default).foldl (fun acc v=>axd R ps cols d (vs++[v]) acc) acc
def b19(R:List Row)(ps:List AS)(n:Nat):List (List Val):=axd R ps (b0m R n) n [] []
def bbp(l:List (List Val)):List Row:=(List.range l.length).map fun(i:Nat)=>⟨(i:Int)+1,l.getD i []⟩
def bg7 (t:Tbl) (ps:List AS):Int :=
 if du t≠0 then du t else if lvE t.attrs.length ps≠0 then lvE t.attrs.length ps else if 1000<(b19 t.rows ps t.attrs.length).length then 3 else 0
def biz(t:Tbl)(ps:List AS):Tbl:=if bg7 t ps=0 then⟨t.name,t.attrs,bbp (b19 t.rows ps t.attrs.length)⟩else T0
def blf (R:List Row) (ps:List AS) (cols:List (List Val)) (d:Nat) (vs:List Val) (acc:List (List Val)) (i:Nat):List (List Val) :=
 ((cols.getD vs.length default).take i).foldl (fun acc v=>axd R ps cols d (vs++[v]) acc) acc
end
section
structure Rcp where
 n:BitVec 8
 f:List Dp
 m:List Dp
 p:List (BitVec 8)
deriving Inhabited
def Rcp.num(d:Rcp)(k:Nat):Int:=1+((d.n.toNat%k:Nat):Int)
abbrev Rcp.pc(d:Rcp):PC:=.agg [.raw (.int .u8 (d.n.toNat:Int)),dpl d.f,dpl d.m,psl 1 u8C d.p]
def u8S(n:Int)(b:BitVec 8):AS:=b.setWidth 32&&&ah n
end
section
def stQ(x y:St):Bool:=(x.1==y.1)&&(decide ((x.2.1:Int)=(y.2.1:Int))&&(decide ((x.2.2.1:Int)=(y.2.2.1:Int))&&decide ((x.2.2.2:Int)=(y.2.2.2:Int))))
end
section
open Go.Proofs
abbrev Rcp.fs(d:Rcp)(k:Nat):List Fd:=d.f.map (Dp.fd (d.num k))
abbrev Rcp.ms(d:Rcp)(k:Nat):List Fd:=d.m.map (Dp.fd (d.num k))
abbrev Rcp.ps(d:Rcp)(k:Nat):List AS:=d.p.map (u8S (d.num k))
abbrev Rcp.t0(d:Rcp)(k:Nat):List Rw:=dv (my (d.num k) (d.ps k))
section
variable {n:Int}{p m:List Fd}{l0 l:List Rw}
end
end
section
open Go.RowKit
def bht (id n s:Nat) (F:Nat->Nat->PV):List HC->List HC->Prop
 | [],[]=>True
 |x::xs,y::ys=>(y=x\/(x=.one (.ref id n)/\y=.one (.p (.sl n s false F))))/\bht id n s F xs ys
 |_,_=>False
def x7(i0:Nat)(h:HV)(g:Nat->Nat->PV):Nat->Nat->HV:=fun i j=>if i=i0 then h else .p (g i j)
section
variable {f':Nat->Nat->PV}
def ael{nt:Nat}{st:HSt}{w0:World}{m0:Old}{a:Act}{w:World}(x i0 id:Nat)(wr:Bool){n n2 s':Nat}{e2:TypeId}{g:Nat->Nat->PV}(s:Nat)(e:TypeId)(f:Nat->Nat->PV)(hs:0<s)(hb:b6 st.o x=some (.arr true 1 e2 n2 g))(hi:i0<n2)(hl:g i0 0=.sl n s' true f')(hco:CoP (.sl n s' true f') (.sl n s true f))(hwr:wr=false\/n=0)(hn:jz id st=true)(hne:Nat.beq x id=false)(hr:Rel w0 m0 nt st.den a w):Rel w0 m0 nt (HSt.den ⟨st.t,(x,some (.arrh 1 e2 n2 [id] (x7 i0 (.ref id n) g)))::(id,some (.arr wr s e n f))::st.o⟩) a w:=by
 obtain⟨hnm,hno⟩:=ed hn;obtain⟨cc,hold,hrr⟩:=hr;have hbi:x≠id:=by rintro rfl;simp at hne
 obtain⟨p0,p1,p2⟩:=hrr.objs x _ hb
 obtain ⟨p3,xs,p4,p5⟩:cc.blk x=ep (cc.own x)/\∃xs,w.ownsRow 0 e2 1 (cc.own x) n2 xs/\∀i j,i<n2->j<1->∃u,xs[i*1+j]? = some u/\aq cc.imm (g i j) u:=by
  rcases p2 with p2|⟨p2|p2,_⟩
  · exact p2
  · cases p2
  omega
 obtain⟨u,hu,hur⟩:=p5 i0 0 hi bpw;rw[hl]at hur;have hx:aq cc.imm (.sl n s true f) u:=hco _ _ hur;have hnm':n<=maxLen:=by obtain⟨ad,cap,_,q1,q2,_⟩:=hx;omega
 have hfresh:=hrr.fresh id hnm hno (.arr wr s e n f) w u noB (Grw.refl w none) (fun b hb=>hb.elim) ⟨hs,hnm', .inr ⟨hwr,by simp,by simpa using hx⟩⟩;rw[<- ig]at hfresh
 have hb':(HSt.den ⟨st.t,(id,some (.arr wr s e n f))::st.o⟩).o x=some (.arr true 1 e2 n2 g):=by
  simp only[HSt.den,az,hbi,if_false];exact hb
 have hevo:∀(c1:Ctx),c1.own=(fun k=>if k=id then u else cc.own k)->Evo { old:=cc.old,imm:=cc.imm,tab:=cc.tab,own:=fun k=>if k=id then u else cc.own k,blk:=fun k=>if k=id then noB else cc.blk k,rows:=cc.rows } (HSt.den ⟨st.t,(id,some (.arr wr s e n f))::st.o⟩).o c1 ((HSt.den ⟨st.t,(id,some (.arr wr s e n f))::st.o⟩).setO x (some (.arrh 1 e2 n2 [id] (x7 i0 (.ref id n) g)))).o x:=fun c1 h1 =>
  .inr (.inr ⟨_, .arrh 1 e2 n2 [id] (x7 i0 (.ref id n) g),1,e2,n2,n2,hb',rfl,by simp[S.setO],rfl,bm1 _,fun _=>by rw[h1],fun _ _ _ _ _ _ _ hb=>by cases hb⟩)
 have hown:(fun k=>if k=x then(fun k=>if k=id then u else cc.own k) x else(fun k=>if k=id then u else cc.own k) k)=fun k=>if k=id then u else cc.own k:=by
  funext k;by_cases hk:k=x
  · subst hk;simp
  simp[hk]
 have hw:=hfresh.write x _ hb' (.arrh 1 e2 n2 [id] (x7 i0 (.ref id n) g)) w ((fun k=>if k=id then u else cc.own k) x) ((fun k=>if k=id then noB else cc.blk k) x) none (Grw.refl w _) (fun _ e=>by cases e) (hevo _ (by exact hown)) (fun b hb=>.inl hb) (by
  refine⟨by omega,p1,fun i j k hi hj hk=>?_, .inl ⟨by simpa [hbi]using p3,xs,by simpa [hbi]using p4,fun i j hi' hj=>?_⟩⟩
  · unfold x7 at hk
    split at hk
    · have hk:k=id:=hk
      rw[hk];exact bmu.2 rfl
    exact hk.elim
  obtain⟨u',hu',hr'⟩:=p5 i j hi' hj;refine⟨u',hu', ?_⟩;obtain rfl:j=0:=by omega
  unfold x7;by_cases hk:i=i0
  · subst hk
    rw[if_pos rfl];rw[hu]at hu';simp only[bly]at hu';subst hu';refine⟨aq.oneCell hx,fun l2=>by simp[S.setO,HSt.den,az,Ne.symm hbi],fun ob1 s1 e1 n1 ho hd1=>?_⟩;simp only[S.setO,HSt.den,az,Ne.symm hbi,if_false,if_true,bly]at ho;subst ho;simp only[aa.dim,bly,bm4]at hd1;obtain⟨rfl,rfl,rfl⟩:=hd1;exact⟨bm1 _,fun _=>by simp[Ne.symm hbi]⟩
  rw[if_neg hk]
  exact hr')
 have e:HSt.den ⟨st.t,(x,some (.arrh 1 e2 n2 [id] (x7 i0 (.ref id n) g)))::(id,some (.arr wr s e n f))::st.o⟩=(HSt.den ⟨st.t,(id,some (.arr wr s e n f))::st.o⟩).setO x (some (.arrh 1 e2 n2 [id] (x7 i0 (.ref id n) g))):=by
  unfold HSt.den S.setO;simp only[S.mk.injEq,true_and];funext k;simp only[az]
 rw[e];exact⟨_,(by exact hold),hw⟩
def ajq {nt:Nat} {st:HSt} {Q:HSt->Prop} (d id:Nat) (wr:Bool) {n s':Nat} (s:Nat) (e:TypeId) (f:Nat->Nat->PV) (hs:0<s) (hd:b6 st.t d=some (br (.sl n s' true f'))) (hco:CoP (.sl n s' true f') (.sl n s true f)) (hwr:wr=false\/n=0) (hn:jz id st=true) (h:HE nt ⟨(d,some (.v (.one (.ref id n))))::st.t,(id,some (.arr wr s e n f))::st.o⟩ Q):HE nt st Q:=by
 obtain⟨hnm,hno⟩:=ed hn;refine ahf ⟨st.t,(id,some (.arr wr s e n f))::st.o⟩ d (.v (.one (.ref id n))) (fun w0 m0 a w hr=>?_) h;obtain⟨cc,hold,hrr⟩:=hr;have hx:aq cc.imm (.sl n s true f) (a.tmps.getD d undef):=hco _ _ (hrr.tmps d _ hd);have hnm':n<=maxLen:=by obtain⟨ad,cap,_,q1,q2,_⟩:=hx;omega
 have hfresh:=hrr.fresh id hnm hno (.arr wr s e n f) w (a.tmps.getD d undef) noB (Grw.refl w none) (fun b hb=>hb.elim)
  ⟨hs,hnm', .inr ⟨hwr,by simp,by simpa using hx⟩⟩
 refine⟨_, ?_,by rw[ig];exact hfresh, ?_⟩
 · exact hold
 rw[ig];refine⟨aq.oneCell hx,fun l=>by simp[S.setO],fun ob1 s1 e1 n1 ho hd1=>?_⟩;simp only[S.setO,if_true,bly]at ho;subst ho;simp only[aa.dim,bly,bm4]at hd1;obtain⟨rfl,rfl,rfl⟩:=hd1;exact⟨bm1 _,fun _=>by simp⟩
end
end
end Go.Hx

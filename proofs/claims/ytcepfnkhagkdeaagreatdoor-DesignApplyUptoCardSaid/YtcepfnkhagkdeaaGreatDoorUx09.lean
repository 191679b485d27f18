/- A part of the proof: SrW Ty1 Cs10 V8 Cs11 Gr V9 Cs12 V10 Cs13 V11 Cs14 V12 Cs15 V13 Cs16 V14 Hx24 Cs17 V15 Cs18 V16 Cs19 V17 Hx20 Cs20 Cs21 V19 Cs22 Cs23. -/
import Derived.Shelf.SlSortCmp.NoneTotal
import Derived.Test.YtcepfnkhagkdeaaGreatDoorUx07
import Derived.Test.YtcepfnkhagkdeaaGreatDoorUx08
set_option linter.all false
open Go.Proofs.Tryz
set_option maxRecDepth 100000
set_option maxHeartbeats 1000000
namespace Go.Hx
section
open Go.Proofs Go.RowKit Go.Sort
section
variable {w:World}
def awo{w':World}(h:Below w.heap.size w w'):∃q os,w'=grow (w.drewN q) os:=by
 refine⟨w'.drawn-w.drawn,w'.heap.extract w.heap.size w'.heap.size, ?_⟩;have hd:=h.drawn;obtain⟨h1,h2,h3,h4,h5,_⟩:=h
 cases w with
 |mk hp tp dr os out =>
 cases w' with
 |mk hp' tp' dr' os' out' =>
 dsimp only at *;subst h1 h2 h3;unfold grow World.drewN;simp only[World.mk.injEq,true_and,and_true];refine⟨?_,by omega⟩;apply Array.ext_getElem?;intro k;rw[Array.getElem?_append];by_cases hk:k<hp.size
 .rw[Ba hk,h5 k hk]
 rw[Ca hk,Array.getElem?_extract];by_cases hk2:k<hp'.size
 .rw [Ba Za]
  congr 1;omega
 rw[Ca Za,Rs Za]
variable {os:Array Obj}{α:Type}{d:Array α}{enc:α->Value}
def vV [Inhabited α] {g m:Nat} {cur:Array Value} {e:TypeId} {fr:Nat×Nat} (h:w.heap[g]? = some (.cells cur e fr)):
 (sortWorld enc w g 0 m d os).heap[g]? = some (.cells (putCells enc 0 d cur) e fr):=by
 have hlt:=(Le.1 h).1;unfold sortWorld;rw[heap_grow_old _ _ (by simpa using hlt)];unfold putRow mapBlock;simp only[heap_ahead,Qs,Ma,h];rfl
def vu [Inhabited α] {g m:Nat} {b:Nat} (hb:b<w.heap.size) (hne:b≠g):(sortWorld enc w g 0 m d os).heap[b]? = w.heap[b]?:=by
 unfold sortWorld;rw[heap_grow_old _ _ (by simpa using hb)];unfold putRow mapBlock;simp only[heap_ahead,Qs,Ca (Ne.symm hne)]
def iW [Inhabited α] {g m:Nat}:Below 0 w (sortWorld enc w g 0 m d os) :=
 ⟨rfl,rfl,rfl,by unfold sortWorld;simp,λk hk=>Ea hk (Ud k),by unfold sortWorld grow;simp⟩
def TS[Inhabited α]{cur:Array Value}(h:d.size<=cur.size):(putCells enc 0 d cur).toList.take d.size=d.toList.map enc:=by
 apply No;intro k;rw[Ih,Pe,To,To];by_cases hk:k<d.size
 .rw [Ba hk]
  unfold putCells;rw[Array.getElem?_mapIdx,Km Za,Km hk];simp only[Vf,Oe,Ho];rw[Ba ⟨Zb _,hk⟩,getElem!_pos d k hk]
 rw[Ca hk,Rs Za];rfl
def ay5{P:Program}{ρ:Go.Shelf.Ren}[Inhabited α](L:SlLaysF.n6 P ρ)(enc:α->Value)(h1:∀x,(enc x).oneCell'=true)(cf:α->α->Int)(hO:SWO (ltOf cf))(hT:∀x y,(ltOf cf) x y=false->(ltOf cf) y x=false->x=y)(g:Nat)(caps:Nat->PV)(hg:∀args w,(callFunc g args).run P w=.ok (.enter g args) w)(hc:∀x y,a6 P g [.one (.raw (enc x)), .one (.raw (enc y))] (a7 [.one (.raw (.int .i64 (cf x y)))]))(id:Nat)(e:TypeId)(l:List α)(hsz:l.length<=8589934592):
 dn P (ρ.f 6) [.one (.ref id l.length), .one (.p (.fn g 0 caps))] [(id, .arr true 1 e l.length (lf (λx _=>.raw (enc x)) l))] (.tup [])
  [(id, .arr true 1 e l.length (lf (λx _=>.raw (enc x)) (l.mergeSort λx y=>!(ltOf cf) y x)))] [id]:=by
 intro w c us hM hus
 match us,hus with
 | [u,v],⟨hu,hv,_⟩ =>
  obtain⟨cs,rfl,hcl,_⟩:=hv;have hcs:cs=[]:=Vl hcl;subst hcs;have hl1:lk [(id,a8.arr true 1 e l.length (lf (λx _=>.raw (enc x)) l))] id=some (.arr true 1 e l.length (lf (λx _=>.raw (enc x)) l)):=by simp[lk]
  have hu2:=(hu.2.2 _ _ _ _ hl1 rfl).2 rfl;subst hu2;have hob:=hM.objs id _ hl1;obtain⟨h0,hmax,h5⟩:=hob;have hlen:(l.mergeSort λx y=>!(ltOf cf) y x).length=l.length:=Kz _
  have hev:∀f':Nat->Nat->PV,Vc c (lk [(id,a8.arr true 1 e l.length (lf (λx _=>.raw (enc x)) l))]) c (lk [(id,a8.arr true 1 e l.length f')]) id:=λf' =>
   .inr (.inr ⟨_, .arr true 1 e l.length f',1,e,l.length,l.length,hl1,rfl,by simp[lk],rfl,Yb _,λ_=>rfl,λ_ _ _ _ _ _ _ h=>by cases h⟩)
  rcases Mj l.length with hz|hpos
  ·
   have hl:l=[]:=Vl hz;subst hl
   have hform:∃ad cap,c.own id=.slice ad 0 cap:=by
    rcases h5 with⟨_,xs,h2,_⟩|⟨_,_,ad,cap,hv,_⟩
    .rcases h2.2 with⟨hv,_⟩|⟨g,cap,cur,hv,_⟩
     .exact⟨none,0,hv⟩
     exact⟨_,cap,hv⟩
    exact⟨ad,cap,hv⟩
   obtain⟨ad,cap,hown⟩:=hform;have hms:([]:List α).mergeSort (λx y=>!(ltOf cf) y x)=[]:=by simp
   rw[hown,hms];refine(AnyF.slices_SortFunc_none { L with } ad cap (.func (.func g) #[] #[]) w).mono ?_;rintro e' w' ⟨rfl,rfl⟩
   exact ⟨_,c,rfl,⟨[],rfl,Aa⟩,hM,Below.refl _ _,λ_ _ _=>⟨rfl,rfl⟩,λid0 ob b ho hb=>.inr ⟨id0,ob,ho,hb⟩,λid0 hid=>by
    rw[Bf.1 hid]
    exact Vc.refl _ _ _⟩
  obtain ⟨h6,xs,h2,h4⟩:c.blk id=fq (c.own id)/\∃xs,w.ownsRow 0 e 1 (c.own id) l.length xs/\∀i j,i<l.length->j<1->∃x,xs[i*1+j]? = some x/\aq c.imm (lf (λx _=>.raw (enc x)) l i j) x:=by
   rcases h5 with h5|⟨h6|h6,_⟩
   .exact h5
   .cases h6
   omega
  obtain⟨hxl,hrow⟩:=h2
  rcases hrow with⟨_,hz⟩|⟨b,cap,cur,hown,hbase,hheap,hnc,hcm,hcs,htake⟩
  .omega
  have hblk:c.blk id b:=by rw[h6,hown];rfl
  have hlt:b<w.heap.size:=(Le.1 hheap).1
  have hcell:∀j,(hj:j<l.length)->cur[j]? = some (enc l[j]):=λj hj=>by
   obtain⟨x,hx,hr⟩:=h4 j 0 hj Za;rw[Zj,Fi,<- htake,Ih,Ba Za,To]at hx;rw[hx];have hr:x=enc (l.getD j default)/\_:=hr;rw[hr.1,Oc,Hc hj];rfl
  have hH:Holds enc w b 0 l.toArray:=λj hj=>by
   have hj:j<l.length:=by simpa using hj
   rw[Oe];refine⟨?_,by simp[World.frozen?,hheap]⟩;have:l.toArray[j]! = l[j]:=by rw[getElem!_pos l.toArray j (by simpa using hj)];simp
   rw[this];simp[World.cell?,hheap,hcell j hj]
  have hcmp:CmpLays1 P g #[] enc cf b 0 l.toArray.size w:=by
   intro m os dk hdk x y
   have hcimm:∀b' ob,c.imm b'=some ob->(sortWorld enc w b 0 m dk os).heap[b']? = some ob:=λb' ob hb'=>by
    have hne:b'≠b:=λhe=>by
     have:=hM.sep id _ b hl1 hblk;rw[<- he,hb']at this;cases this
    have hw:=hM.imm b' ob hb';rw[vu (Le.1 hw).1 hne];exact hw
   have h:=hc x y (sortWorld enc w b 0 m dk os) c.imm [enc x,enc y] c.tab hcimm ⟨⟨rfl,h1 x⟩,⟨rfl,h1 y⟩,Aa⟩;refine h.mono ?_;rintro e' w' ⟨v,imm',rfl,hr,_,_,hb⟩;obtain⟨q,os',hq⟩:=awo hb;exact⟨by rw[hr.1],q,os',hq⟩
  have hS:=Any.slices_SortFunc_total L enc h1 cf hO g #[] b 0 cap l.toArray w hg hcmp hH hlt (by rw[Pi];omega) hT;rw[hown];refine Calls.mono hS ?_;rintro e' w' ⟨rfl,m,os,rfl⟩;generalize hSd:(l.mergeSort λx y=>!(ltOf cf) y x)=S at *
  refine ⟨_,c,rfl,⟨[],rfl,Aa⟩,⟨λid0 ob ho=>?_,λid0 id1 ob0 ob1 b' ho0 ho1 _ _=>(fu ho0).1.trans (fu ho1).1.symm,λb' ob hb'=>?_,λid0 ob b' ho hb'=>?_⟩,iW,
   λb' hb' hno=>⟨vu hb' (λhe=>hno id _ hl1 (by rw[he];exact hblk)),rfl⟩,λid0 ob b' ho hb'=>.inr ⟨id,_,hl1,by rw[<- (fu ho).1];exact hb'⟩,λid0 hid=>by
    rw[Bf.1 hid]
    exact hev _⟩
  .obtain ⟨rfl,rfl⟩:=fu ho
   refine⟨h0,hmax, .inl ⟨h6,S.map enc,⟨by simp[hlen], .inr ⟨b,cap,putCells enc 0 S.toArray cur,hown,hbase,vV hheap,hnc,hcm,by simpa [putCells]using hcs, ?_⟩⟩,λi j hi hj=>?_⟩⟩
   .have:=TS (enc:=enc) (d:=S.toArray) (cur:=cur) (by rw[Pi,hlen,hcs];omega)
    rw[Pi,hlen]at this;rw[Zj];exact this
   obtain rfl:j=0:=by omega
   have hi':i<S.length:=by rw[hlen];exact hi
   refine⟨enc S[i], ?_, ?_⟩
   .rw [Zj,Fi,Pe,Hc hi']
    rfl
   show aq c.imm (.raw (enc (S.getD i default))) _;rw[Oc,Hc hi'];exact⟨rfl,h1 _⟩
  .have hne:b'≠b:=λhe=>by
    have:=hM.sep id _ b hl1 hblk;rw[<- he,hb']at this;cases this
   have hw:=hM.imm b' ob hb';rw[vu (Le.1 hw).1 hne];exact hw
  have:=(fu ho).1;subst this;exact hM.sep id0 _ b' hl1 hb'
 | [],h=>exact h.elim
 | [_],⟨_,h⟩=>exact h.elim
 |_::_::_::_,⟨_,_,h⟩=>exact h.elim
def gB{a b:AS}:ltOf Ip a b=Oh a b:=b31
def b2r:SWO (ltOf Ip) where
 irrefl x:=by rw[gB];exact dE x
 trans x y z h k:=by rw[gB]at *;exact zF h k
 ntrans x y z h k:=by
  rw[gB]at *;rw[Ie,ne_eq,uh]at *;omega
def srt(l:List AS):List AS:=l.mergeSort λx y=>!Oh y x
def MR:goodFn Ab 208:=⟨Tryz.f208,func208,by kernel_rfl,by kernel_rfl⟩
def Ol{p:Prop}(h:p:=by kernel_rfl):p:=h
def uO (id:Nat) (caps:Nat->PV) (l:List AS) (hsz:l.length<=8589934592):dn Ab 208 [.one (.ref id l.length), .one (.p (.fn 209 0 caps))] [(id, .arr true 1 48 l.length (lf sC l))] (.tup [])
 [(id, .arr true 1 48 l.length (lf sC (srt l)))] [id]:=by
 have h:=ay5 Tryz.laysSort (λs:AS=>.int .u32 (Hb s)) (λ_=>rfl) Ip b2r (λx y h k=>by
  rw[gB]at h k;apply La;intro hne
  rcases II hne with h2|h2
  .rw[h]at h2;cases h2
  rw[k]at h2;cases h2) 209 caps (enters_of func209 Ol rfl) (λx y=>b4t x y) id 48 l hsz
 have e:(λx y:AS=>!(ltOf Ip) y x)=λx y=>!Oh y x:=by
  funext x y;rw[gB]
 rw[e]at h;exact h
def bek{l:List AS}{x:AS}:x∈srt l<->x∈l:=by unfold srt;exact List.mem_mergeSort
def EE(l:List AS):(srt l).length=l.length:=Kz _
def BK:∀{l:List AS} {p:Option AS},l.Pairwise (λa b=>Oh b a=false)->(∀x,p=some x->∀y∈l,Oh y x=false)->(lw p l).Pairwise (λa b=>Oh a b=true)/\∀x,p=some x->∀y∈lw p l,Oh x y=true
 | [],p,_,_=>⟨by simp[lw],λx _ y hy=>by simp[lw]at hy⟩
 | z :: l,p,h,hp=>by
  obtain⟨h1,h2⟩:=Hh.1 h;simp only[lw];split
  .rename_i e
   subst e;exact BK h2 λx hx y hy=>hp x hx y (Jh _ hy)
  rename_i hne
  obtain ⟨q1,q2⟩:=BK (p:=some z) h2 λx hx y hy=>by
   simp only[Bb]at hx;subst hx;exact h1 y hy
  refine⟨Hh.2 ⟨λy hy=>q2 z rfl y hy,q1⟩,λx hx y hy=>?_⟩
  have hxz:Oh x z=true:=by
   have h3:=hp x hx z Yh
   rcases II (a:=x) (b:=z) (λe=>hne (by rw[hx,e]))with h4|h4
   .exact h4
   rw[h3]at h4;cases h4
  rcases Jd.1 hy with rfl|hy
  .exact hxz
  exact zF hxz (q2 z rfl y hy)
def eF (l:List AS):iz (srt l)=ord l:=by
 refine J8 (BK ?_ λx hx=>by cases hx).1 λz=>by rw[sS,bek]
 have h:=Iv (le:=λx y:AS=>!Oh y x) (λa b c h k=>by
  simp only[Nh]at *;rw[Ie,ne_eq,uh]at *
  omega) (λa b=>by
  simp only[Kj,Nh];rw[Ie,Ie,ne_eq,ne_eq,uh,uh]
  omega) l
 refine h.imp λ{a b} hab=>?_;simpa using hab
end
end
abbrev dM(a:Int):PC:=.one (.raw (.int .u8 a))
abbrev pS(s:ByteArray):PC:=.one (.raw (.string s))
abbrev vU8(a:Int):HR:=bu (.raw (.int .u8 a))
abbrev vB(b:Bool):HR:=bu (.raw (.bool b))
abbrev vS(s:ByteArray):HR:=bu (.raw (.string s))
abbrev vP(x:PV):HR:=bu x
abbrev Lim:Nat:=68719476736
structure Lb where
 kind:Int
 num:Int
 str:ByteArray
instance:Inhabited Lb:=⟨⟨0,0,⟨#[]⟩⟩⟩
theorem Lb.eq_iff{a b:Lb}:a=b<->a.kind=b.kind/\a.num=b.num/\a.str=b.str:=by cases a;cases b;simp
instance:DecidableEq Lb:=λa b=>decidable_of_iff _ (Lb.eq_iff (a:=a) (b:=b)).symm
def Lb.c (v:Lb):Nat->PV
 |0=>.raw (.int .i64 v.kind)
 |1=>.raw (.int .i64 v.num)
 |2=>.raw (.string v.str)
 |_=>.any
abbrev vals(l:List Lb):PV:=Ff 3 Lb.c l
abbrev Lb.pc(v:Lb):PC:=.agg [v.c 0,v.c 1,v.c 2]
structure Xb where
 id:Int
 vals:List Lb
instance:Inhabited Xb:=⟨⟨0,[]⟩⟩
theorem Xb.eq_iff{a b:Xb}:a=b<->a.id=b.id/\a.vals=b.vals:=by cases a;cases b;simp
instance:DecidableEq Xb:=λa b=>decidable_of_iff _ (Xb.eq_iff (a:=a) (b:=b)).symm
def Xb.c (r:Xb):Nat->PV
 |0=>.raw (.int .i64 r.id)
 |1=>Hx.vals r.vals
 |_=>.any
abbrev rows(l:List Xb):PV:=Ff 2 Xb.c l
abbrev Xb.pc(r:Xb):PC:=.agg [r.c 0,r.c 1]
def ku (s:ByteArray):Nat->PV
 |0=>.raw (.string s)
 |_=>.any
instance:Inhabited ByteArray:=⟨⟨#[]⟩⟩
abbrev qv(l:List ByteArray):PV:=Ff 1 ku l
def SM (s:UInt8):Nat->PV
 |0=>.raw (.int .u8 (s.toNat:Int))
 |_=>.any
abbrev YL(l:List UInt8):PV:=Ff 1 SM l
def ZF (l:List UInt8):Nat->PV
 |0=>YL l
 |_=>.any
abbrev fY(l:List (List UInt8)):PV:=Ff 1 ZF l
structure ac where
 name:ByteArray
 attrs:List ByteArray
 rows:List Xb
instance:Inhabited ac:=⟨⟨⟨#[]⟩,[],[]⟩⟩
theorem ac.eq_iff{a b:ac}:a=b<->a.name=b.name/\a.attrs=b.attrs/\a.rows=b.rows:=by cases a;cases b;simp
instance:DecidableEq ac:=λa b=>decidable_of_iff _ (ac.eq_iff (a:=a) (b:=b)).symm
def ac.c (t:ac):Nat->PV
 |0=>.raw (.string t.name)
 |1=>qv t.attrs
 |2=>Hx.rows t.rows
 |_=>.any
abbrev jA(l:List ac):PV:=Ff 3 ac.c l
abbrev ac.pc(t:ac):PC:=.agg [t.c 0,t.c 1,t.c 2]
abbrev DB:=List ac
abbrev bua(d:DB):PC:=.agg [jA d]
structure Df where
 kind:Int
 name:ByteArray
 table:ac
 row:Xb
 attr:Int
 value:Lb
instance:Inhabited Df:=⟨⟨0,⟨#[]⟩,default,default,0,default⟩⟩
theorem Df.eq_iff{a b:Df}:a=b<->a.kind=b.kind/\a.name=b.name/\a.table=b.table/\a.row=b.row/\a.attr=b.attr/\a.value=b.value:=by cases a;cases b;simp
instance:DecidableEq Df:=λa b=>decidable_of_iff _ (Df.eq_iff (a:=a) (b:=b)).symm
def Df.c (x:Df):Nat->PV
 |0=>.raw (.int .i64 x.kind)
 |1=>.raw (.string x.name)
 |2=>x.table.c 0
 |3=>x.table.c 1
 |4=>x.table.c 2
 |5=>x.row.c 0
 |6=>x.row.c 1
 |7=>.raw (.int .i64 x.attr)
 |8=>x.value.c 0
 |9=>x.value.c 1
 |10=>x.value.c 2
 |_=>.any
abbrev BM(l:List Df):PV:=Ff 11 Df.c l
abbrev Df.pc(x:Df):PC:=.agg [x.c 0,x.c 1,x.c 2,x.c 3,x.c 4,x.c 5,x.c 6,x.c 7,x.c 8,x.c 9,x.c 10]
def uX (l:List Df):Nat->PV
 |0=>BM l
 |_=>.any
abbrev ZL(l:List (List Df)):PV:=Ff 1 uX l
structure jm where
 attrs:UInt8
 gap:UInt8
 rows:List (List UInt8)
instance:Inhabited jm:=⟨⟨0,0,[]⟩⟩
def jm.c (x:jm):Nat->PV
 |0=>.raw (.int .u8 (x.attrs.toNat:Int))
 |1=>.raw (.int .u8 (x.gap.toNat:Int))
 |2=>fY x.rows
 |_=>.any
abbrev jm.pc(x:jm):PC:=.agg [x.c 0,x.c 1,x.c 2]
structure Ok where
 kind:UInt8
 name:UInt8
 t:jm
 id:Int
 vals:List UInt8
 attr:Int
 value:UInt8
instance:Inhabited Ok:=⟨⟨0,0,default,0,[],0,0⟩⟩
def Ok.c (x:Ok):Nat->PV
 |0=>.raw (.int .u8 (x.kind.toNat:Int))
 |1=>.raw (.int .u8 (x.name.toNat:Int))
 |2=>x.t.c 0
 |3=>x.t.c 1
 |4=>x.t.c 2
 |5=>.raw (.int .i64 x.id)
 |6=>YL x.vals
 |7=>.raw (.int .i64 x.attr)
 |8=>.raw (.int .u8 (x.value.toNat:Int))
 |_=>.any
abbrev Ok.pc(x:Ok):PC:=.agg [x.c 0,x.c 1,x.c 2,x.c 3,x.c 4,x.c 5,x.c 6,x.c 7,x.c 8]
abbrev btc(l:List Ok):PV:=Ff 9 Ok.c l
structure Mk where
 done:List (List Df)
 undone:List (List Df)
 opn:Bool
 now:List Df
instance:Inhabited Mk:=⟨⟨[],[],false,[]⟩⟩
def Mk.c (x:Mk):Nat->PV
 |0=>ZL x.done
 |1=>ZL x.undone
 |2=>.raw (.bool x.opn)
 |3=>BM x.now
 |_=>.any
abbrev Mk.pc(x:Mk):PC:=.agg [x.c 0,x.c 1,x.c 2,x.c 3]
def cq{α:Type}[Inhabited α](l:List α)(i:Nat)(h:i<l.length):l.getD i default=l[i]:=by simp[List.getD,Hc h]
abbrev bx(a:PV):PV:=.vp 1 λj=>[a].getD j .any
def Sx(W:AS->AS->Bool)(l:List AS)(x:AS):Bool:=l.any λb=>decide (x≠b)&&W x b
def WC(W:AS->AS->Bool)(l:List AS):List AS:=(ord l).filter λx=>!Sx W (ord l) x
def Pq(a b:AS):Bool:=decide (sub a b)
def Ts(l:List AS):List AS:=WC Pq l
def okT(l:List AS)(i k:Nat):Bool:=(List.range k).all λj=>decide (j=i)||!Pq (l.getD i default) (l.getD j default)
def bsw(l:List AS)(i:Nat):List AS:=((ord l).take i).filter λx=>!Sx Pq (ord l) x
section
open Go.Proofs
def Ty:goodFn Ab 157:=Ib func157
def WA (l:List AS) (hl:l.length<=8589934592):a6 Ab 157 [pP (Cd l)] (a7 [pP (Cd (ord l))]):=by
 refine Nb (nt:=10) func157 ?_;refine Jb ?_;refine Ke mD (xE l.length false (lf sC l) Za) trivial ?_;refine Eb ?_;refine Ke MR (uO 0 _ l hl) uu ?_;refine Mc ?_;refine ke rfl rfl rfl rfl rfl rfl (Ib func210) ((b7d (srt l)).swap 900 0) (⟨Da (HV.ref 0) (EE l).symm,Aa⟩) ⟨⟨_,rfl,gn rfl (EE l).symm⟩,Aa⟩ rfl rfl ?_;refine Tf ?_;exact⟨Ob.one (Va (by rw[eF])),Aa⟩
def bdj (b x:AS) (g k:Nat) (caps:Nat->PV) (W:AS->AS->Bool) (hg:goodFn Ab g) (hW:∀x y,a6 Ab g (pA x::pA y::gu caps k 0) (a7 [pB (W x y)])):a6 Ab 187 [pA b,pP (bx (Ag x)),pP (bx (.fn g k caps))] (a7 [pB (decide (x≠b)&&W x b)]):=by
 refine Nb (nt:=14) func187 ?_;refine ce ?_;refine af rfl rfl ?_ ?_<;>intro r0
 ·
  have h0:=Ac (ct r0);(iterate 3 refine qy ?_ (hg:=(Lc r0)));refine rc rfl rfl rfl rfl rfl rfl hg (hW x b) Ta rfl (Lc r0) ?_;refine Tb ?_
  exact Nc rfl rfl rfl (⟨Vb (by simp_all [dm]),Aa⟩)
 have h0:=Bc (cu r0);(iterate 4 refine k9 (Vd r0) ?_);refine Tb ?_
 exact Nc rfl rfl rfl (⟨Vb (by simp_all [dm]),Aa⟩)
def S6 (x:AS) (l:List AS) (g k:Nat) (caps:Nat->PV) (W:AS->AS->Bool) (hg:goodFn Ab g) (hW:∀x y,a6 Ab g (pA x::pA y::gu caps k 0) (a7 [pB (W x y)])):a6 Ab 186 [pA x,pP (bx (Cd l)),pP (bx (.fn g k caps))] (a7 [pB (Sx W l x)]):=by
 refine Nb (nt:=8) func186 ?_;refine Rc ?_;refine m9 0 ?_;refine Tb ?_;refine eg 3 rfl rfl rfl ?_;refine Tb ?_;refine Fb (Ib func162) (PN l 187 2 (λi=>[bx (Ag x),bx (.fn g k caps)].getD i .any) (λb=>decide (x≠b)&&W x b) (Ib func187) (λb=>bdj b x g k caps W hg hW)) ?_;refine Tf ?_;exact Ta
def BN (l:List AS) (hl:l.length<=8589934592) (g k:Nat) (caps:Nat->PV) (W:AS->AS->Bool) (hg:goodFn Ab g) (hW:∀x y,a6 Ab g (pA x::pA y::gu caps k 0) (a7 [pB (W x y)])):a6 Ab 141 [pP (Cd l),pP (.fn g k caps)] (a7 [pP (Cd (WC W l))]):=by
 refine Nb (nt:=12) func141 ?_;refine Rc ?_;refine m9 2 ?_;refine Eb ?_;refine Fb Ty (WA l hl) ?_;refine m9 3 ?_;refine Tb ?_;refine eg 5 rfl rfl rfl ?_;refine eg 3 rfl rfl rfl ?_;refine Cb ?_;refine Ke mD (xE (ord l).length false (lf sC (ord l)) (Nd (ui l) Za)) trivial ?_;refine qy ?_;refine Ke gI ((PG (ord l) 186 2 (λi=>[bx (Cd (ord l)),bx (.fn g k caps)].getD i .any) (Sx W (ord l)) (Ib func186) (λx=>S6 x (ord l) g k caps W hg hW)).swap 900 0) uu ?_;refine Tf ?_;exact Ta
def M2 (a b:AS):a6 Ab 142 [pA a,pA b] (a7 [pB (Pq a b)]):=by
 refine Nb (nt:=9) func142 ?_;refine fy ?_;exact Nc rfl rfl rfl (⟨Vb (decide_eq_decide.2 pk),Aa⟩)
def dU (l:List AS) (hl:l.length<=8589934592):a6 Ab 88 [pP (Cd l)] (a7 [pP (Cd (Ts l))]):=by
 refine Nb (nt:=5) func88 ?_;refine Jb ?_;refine Fb (Ib func141) (BN l hl 142 0 _ Pq (Ib func142) (λa b=>M2 a b)) ?_;refine Tf ?_;exact Ta
end
section
def iu(l:List Fd):List Fd:=l.foldl (λo x=>if x∈o then o else o++[x]) []
section
variable {i:Nat}{l:List Fd}
def tV (hi:i<l.length):iu (l.take (i+1))=if l.getD i default∈iu (l.take i)then iu (l.take i)else iu (l.take i)++[l.getD i default]:=by
 unfold iu;rw[au hi,Oi];rfl
def cU{s:Fd}:(l.any λx=>decide (x=s))=decide (s∈l):=by
 rw[Ko,Yf,Ia];constructor
 .rintro ⟨x,hx,h⟩
  exact Ga h▸hx
 intro h;exact⟨s,h,Fa rfl⟩
def IE (hi:i<l.length) (h:((iu (l.take i)).any λx=>decide (x=l.getD i default))=false):iu (l.take (i+1))=iu (l.take i)++[l.getD i default]:=by
 rw[cU]at h;rw[tV hi,Ca (Qa h)]
def uE (hi:i<l.length) (h:((iu (l.take i)).any λx=>decide (x=l.getD i default))=true):iu (l.take (i+1))=iu (l.take i):=by
 rw[cU]at h;rw[tV hi,Ba (Ga h)]
def CU:∀(l o:List Fd),(l.foldl (λo x=>if x∈o then o else o++[x]) o).length<=o.length+l.length/\∀z,z∈l.foldl (λo x=>if x∈o then o else o++[x]) o<->z∈o\/z∈l
 | [],o=>⟨by simp,λz=>by simp⟩
 | x :: l,o=>by
  obtain⟨h1,h2⟩:=CU l (if x∈o then o else o++[x]);simp only[Im];refine⟨?_,λz=>?_⟩
  .refine Nd h1 ?_
   split<;>simp<;>omega
  rw[h2 z,Jd];split
  .rename_i hx
   constructor
   .rintro(h|h)<;>simp[h]
   rintro(h|rfl|h)
   .exact .inl h
   .exact .inl hx
   exact .inr h
  rw[Af,Bf];constructor
  .rintro((h|h)|h)<;>simp[h]
  rintro(h|h|h)<;>simp[h]
def CK (l:List Fd):(iu l).length<=l.length:=by
 have:=(CU l []).1;simpa [iu]using this
def bt1(l:List Fd)(i k:Nat):Bool:=(l.take k).any λx=>decide (x=l.getD i default)
def Xx(f:Fd):List Fd:=(am (f.rhs&&&~~~f.lhs)).map λa=>(⟨f.lhs,(1:AS)<<<a⟩:Fd)
def lc(l:List Fd):List Fd:=(l.map Xx).flatten
def pg(l:List Fd)(i k:Nat):List Fd:=lc (l.take i)++(Xx (l.getD i default)).take k
def kL(f:Fd):(Xx f).length=(am (f.rhs&&&~~~f.lhs)).length:=by unfold Xx;rw[Yd]
def ot(s:AS):(am s).length<=32:=by rw[<- uF];exact IP s
def AW(l:List Fd)(i:Nat):pg l i 0=lc (l.take i):=by unfold pg;rw[List.take_zero,Mg]
def FW {k:Nat} {m:List Nat} (hm:m=am ((l.getD i default).rhs&&&~~~(l.getD i default).lhs)) (hk:k<m.length):pg l i (k+1)=pg l i k++[⟨(l.getD i default).lhs,(1:AS)<<<m.getD k default⟩]:=by
 subst hm;unfold pg;generalize l.getD i default=x at *;rw[List.take_add_one,Ug];congr 1;congr 1;unfold Xx;rw[Pe,Hc hk,Oc,Hc hk];rfl
def lW (hi:i<l.length) {k:Nat} (hk:k=(am ((l.getD i default).rhs&&&~~~(l.getD i default).lhs)).length):pg l i k=lc (l.take (i+1)):=by
 subst hk;unfold pg lc;rw[<- kL,Id,au hi,Mi,List.flatten_append];simp
def nL (l:List Fd):(lc l).length<=32*l.length:=by
 induction l with
 |nil=>simp[lc]
 | cons x l ih =>
  have h:lc (x::l)=Xx x++lc l:=by simp[lc]
  have h2:=kL x;have h3:=ot (x.rhs&&&~~~x.lhs);rw[h,Uc,Zf];omega
def avg {k:Nat} (hi:i<=l.length):(pg l i k).length<=32*l.length+32:=by
 have h1:=nL (l.take i);have h2:=ot ((l.getD i default).rhs&&&~~~(l.getD i default).lhs);rw[Ae]at h1;unfold pg;rw[Uc,Ae,kL];omega
def YB(l:List Fd)(x:Fd)(a:Nat):Bool:=imp l ⟨x.lhs&&&~~~((1:AS)<<<a),x.rhs⟩
def kE (s:AS) (a:Nat):bq .andNot .u32 (Hb s) (IntKind.wrap .u32 (1*2^(min a 32)))=Hb (s&&&~~~((1:AS)<<<a)):=by
 rw[show IntKind.wrap .u32 (1*2^(min a 32))=Hb ((1:AS)<<<a) from Sz 1 a,k8]
def b9z(a:Nat):IntKind.wrap .u32 (1*2^(min a 32))=Hb ((1:AS)<<<a):=Sz 1 a
def me(l:List Fd)(i:Nat):List Fd:=l.take i++l.drop (i+1)
def Cw(l:List Fd)(i:Nat):Bool:=imp (me l i) (l.getD i default)
def n5(hi:i<l.length):(me l i).length=l.length-1:=by unfold me;rw[Uc,Ae,Ck];omega
end
end
section
open Go.Proofs Go.Lib Go.RowKit
set_option maxHeartbeats 4000000 in
set_option maxRecDepth 100000 in
def als(k:Nat)(hk:0<k)(hbig:k*8<=140737488355328)(w:World)(ad:Option Addr) :
 Calls Ab 268 #[.slice ad 0 0, .int .i64 k] w λe w'=>∃G ROW,e=.returned (.slice (some ⟨w.heap.size,0,none⟩) 0 G)/\G<=maxLen/\w'=w.drew.alloc (.cells ROW 52)/\ROW.size=G*2:=by
 obtain ⟨i0,z,hi0,hz0,hzs,hzb,hzc⟩:∃i0 z,Ab.info? 52=some i0/\i0.zero=some z/\i0.size=2/\i0.bytes=8/\z.cells.size=2:=by
  have h:(Ab.info? 52).map (λi=>(i.zero.map (λz=>z.cells.size),i.size,i.bytes))=some (some 2,2,8):=by kernel_rfl
  cases hq:Ab.info? 52 with
  |none=>rw[hq]at h;cases h
  | some i0 =>
   rw[hq]at h
   cases hz:i0.zero with
   |none=>simp[hz]at h
   |some z=>simp[hz]at h;exact⟨i0,z,rfl,hz,h.2.1,h.2.2,h.1⟩
 have hc:0+k<=maxLen:=by unfold maxLen;omega
 have hold:(Builtin.firstCells i0.size 0 (.slice ad 0 0)).run Ab w.drew=.ok (([]:List Value)).toArray w.drew:=by
  cases ad with
  |none=>exact run_firstCells_none w.drew _ _ _ _
  |some a=>exact run_firstCells_some w.drew _ 0 a 0 0 [] Ec (λj v hj=>by simp at hj)
 obtain⟨G,hG⟩:∃G,G=grownCap w (0+k) 0 52:=⟨_,rfl⟩;have hGn:0+k<=G:=by rw[hG];exact grownCap_ge w _ _ _
 have hGm:G<=maxLen:=by rw[hG];exact grownCap_le_maxLen w (0+k) 0 52 hc
 obtain⟨ROW,hROW⟩:∃ROW:Array Value,ROW=([]:List Value).toArray++Builtin.zeroCells z.cells k++Builtin.zeroCells z.cells (G-(0+k)):=⟨_,rfl⟩
 have hrz:(Builtin.append_ #[35,3] 35 #[.slice ad 0 0, .int .i64 (k:Int)]).run Ab w=.ok (.slice (some ⟨w.heap.size,0,none⟩) k G) (w.drew.alloc (.cells ROW 52)):=by
  have h:=Lib.run_append_grow_zeros w 35 3 35 52 i0 z .i64 .i64 underlying35 underlying3 hi0 hz0 ad 0 0 [] hold k hk Za Za (by unfold maxLen at hc;omega) (by rw[hzb];omega) (by rw[hzb,Oe];exact growslice_fits Za hbig);rw[<- hG,<- hROW]at h;rw[h];simp
 have hRs:ROW.size=G*2:=by
  rw[hROW];simp only[Bv,Pi,Nn,size_zeroCells,hzc];omega
 have mixed:=EF;have hcM:G<=9223372036854775807:=by unfold maxLen at hGm;omega
 have hk0:¬((k:Int)<0):=by omega
 have hk1:(0:Int)<(k:Int):=by omega
 have hw1:IntKind.i64.wrap (k:Int)=(k:Int):=by rw[IntKind.wrap_i64];omega
 clear hG hROW hold
 rcases ad with _|⟨ab,ao,asp⟩
 all_goals go_enter func268,Tryz.ntmps268
 all_goals go_wp2_with (at_builtin;refine Lib.wpList_append_run _ rfl _ _ _ _ rfl _ _ rfl rfl _ _ hrz ?_)
 all_goals go_ret
 all_goals first|exact⟨G,ROW,rfl,hGm,rfl,hRs⟩|exact⟨G,rfl,hGm,ROW,rfl,hRs⟩
def aly (w:World) (ad:Option Addr):Calls Ab 268 #[.slice ad 0 0, .int .i64 0] w λe w'=>e=.returned (.slice ad 0 0)/\w'=w:=by
 have mixed:=EF
 go_enter func268,Tryz.ntmps268
 go_wp2
 go_ret
 exact⟨rfl,rfl⟩
def K3(k a:Nat)(hk:k<=68719476736)(F:Nat->Nat->PV) :
 dn Ab 268 [.one (.p (io (.slice none 0 0))), .one (.p (.raw (.int .i64 k)))] [] (.v (.one (.ref a 0))) [(a, .arr true 2 52 0 F)] []:=by
 refine b2v Za λw ad=>?_
 rcases Mj k with rfl|hk0
 .refine (aly w ad).mono ?_
  rintro e w' ⟨rfl,rfl⟩;exact⟨_,rfl,Below.refl _ _, .inl rfl⟩
 refine(als k hk0 Za w ad).mono ?_;rintro e w' ⟨G,ROW,rfl,hG,rfl,hR⟩;refine⟨_,rfl,⟨rfl,rfl,rfl, ?_,λq hq=>F6 w.drew _ hq,Hm _⟩, .inr ⟨⟨by simp, .inr ⟨_,G,ROW,rfl,Zb _,heap_alloc_new w.drew _,Zb _,hG,hR,by simp⟩⟩,λg hg=>?_⟩⟩
 .show _<=(w.heap.push _).size
  rw[Array.size_push];omega
 have:w.heap.size=g:=by simpa [d5]using hg
 omega
end
section
open Go.Proofs
def MO(l:List Fd)(hl:l.length<=16777216):dn Ab 222 [.one (.p (Ub l))] [] (.v (.one (.ref 900 (iu l).length))) [(900, .arr true 2 52 (iu l).length (lf Fd.c (iu l)))] []:=by
 refine Eg (nt:=22) func222 ?_;refine ce ?_;refine cj 0 rfl λhn=>?_;refine Mb ?_;refine d9 3 900 true 2 52 (lf Fd.c []) Zc rfl Ya (.inr rfl) rfl ?_;refine bz (ka 6 (ka 7 kn)) km (λi=>⟨[(3,some (.v (.one (.ref 900 (iu (l.take i)).length)))),(8,some (vI i))],[(900,some (.arr true 2 52 (iu (l.take i)).length (lf Fd.c (iu (l.take i)))))]⟩) l.length kk ?_;rintro i hi;have hlen:=CK (l.take i);rw[Ae]at hlen;refine Eb ?_;refine Kb ?_ ?_<;>intro h0
 ·
  refine Jb ?_;refine m9 0 ?_;refine Mb ?_;refine Fb (Ib func247) (CY (iu (l.take i)) (l.getD i default)) ?_;refine Cb ?_;refine aj _ rfl ?_ ?_<;>intro r1
  ·
   have h1:=ct r1;have hc:=ct r1;refine Tb ?_;refine m9 1 ?_;refine Ed 2 true ?_;refine Mb ?_
   first | (refine Rb (i+1) ⟨⟨⟨_, rfl, (d6 (IE Za hc))⟩, tt⟩, ⟨⟨_, rfl, (j7 (IE Za hc) Ra Ra)⟩, trivial⟩⟩ ?_; show i+1<=_; omega)
         |(refine Rb (i+1) ⟨⟨⟨_,rfl,(dy (uE Za hc))⟩,tt⟩,⟨⟨_,rfl,(be (uE Za hc))⟩,Aa⟩⟩ ?_;show i+1<=_;omega)
  have h1:=cu r1;have hc:=cu r1;refine Eb ?_
  first | (refine Rb (i+1) ⟨⟨⟨_, rfl, (d6 (IE Za hc))⟩, tt⟩, ⟨⟨_, rfl, (j7 (IE Za hc) Ra Ra)⟩, trivial⟩⟩ ?_; show i+1<=_; omega)
        |(refine Rb (i+1) ⟨⟨⟨_,rfl,(dy (uE Za hc))⟩,tt⟩,⟨⟨_,rfl,(be (uE Za hc))⟩,Aa⟩⟩ ?_;show i+1<=_;omega)
 obtain rfl:i=l.length:=by omega
 refine Mb ?_;refine Db ?_;exact⟨_,_,rfl,Uf,Xa (by rw[Id];rfl),⟨⟨_,rfl,gn (by rw[Id]) (by rw[Id])⟩,Aa⟩⟩
def I1 (l:List Fd) (hl:l.length<=16777216):a6 Ab 222 [pP (Ub l)] (a7 [pP (Ub (iu l))]) :=
 dn.pure (args:=[pP (Ub l)]) (l:=[.one (.ref 900 (iu l).length)]) (MO l hl) rfl ⟨rfl,Aa⟩
end
def b4j {α:Type} [Inhabited α] {s n k':Nat} {k:Int} {cl:Bool} {c:α->Nat->PV} {l:List α} (h:k.toNat=k') (hk:k'<=l.length) :
 Fc (.sl (ep (bh n (some k)) none) s cl (tf (lf c l) none)) (Ff s c (l.take k')):=by
 subst h;exact vE hk
def b3e {α:Type} [Inhabited α] {s n k':Nat} {k:Int} {cl:Bool} {c:α->Nat->PV} {l:List α} (hn:n=l.length) (h:k.toNat=k'):Fc (.sl (ep n (some k)) s cl (tf (lf c l) (some k))) (Ff s c (l.drop k')):=by
 subst h hn;exact bdd
def fT{l:List Fd}{i:Nat}:[l.take i,l.drop (i+1)].flatten=me l i:=by simp[me]
def b9y {l:List Fd} {i:Nat} (hi:i<l.length) (hl:l.length<=16777216):[l.take i,l.drop (i+1)].flatten.length<=16777216:=by
 rw[fT,n5 hi];omega
def QZ {x:Fd} {b:Int} {s:AS} (h:b=Hb s):Ob (.agg [.raw (.int .u32 b), .raw (.int .u32 (Hb x.rhs))]) (Fd.pc ⟨s,x.rhs⟩):=by
 subst h;exact Sa
section
open Go.Proofs
def bM (l:List Fd):Nat->PV
 |0=>Ub l
 |_=>.any
abbrev sY(ls:List (List Fd)):PV:=Ff 1 bM ls
def b9i (ls:List (List Fd)) (h:ls.flatten.length<=16777216):a6 Ab 248 [pP (sY ls)] (a7 [pP (Ub ls.flatten)]):=by
 refine Nb (nt:=36) func248 ?_;refine ce ?_;refine cj 0 rfl (λhn=>?_);refine Mb ?_;refine bz (ka 0 (ka 9 (ka 10 kn))) km (λi=>⟨[(3,some (vI (ls.take i).flatten.length)),(11,some (vI i))],[]⟩) ls.length kk ?_;rintro i hi;refine Eb ?_;refine Kb ?_ ?_<;>intro h0
 ·
  have hts:(ls.take (i+1)).flatten.length=(ls.take i).flatten.length+(ls.getD ((i:Nat):Int).toNat default).length:=by rw[VB _ _ Za,Uc];rfl
  have hfl:(ls.take i).flatten.length+(ls.getD ((i:Nat):Int).toNat default).length<=ls.flatten.length:=WW ls i Za;refine iA ?_;refine Kb ?_ ?_<;>intro h1
  .exfalso;omega
  refine Eb ?_;refine Rb (i+1) kk ?_;show i+1<=_;omega
 obtain rfl:i=ls.length:=by omega
 have hfe:(ls.take ls.length).flatten.length=ls.flatten.length:=by rw[Id]
 refine Mc ?_;refine Ke (Ib func268) (K3 (ls.take ls.length).flatten.length 900 Za (lf Fd.c [])) trivial ?_;refine ce ?_;refine bz (ka 25 (ka 26 kn)) km (λi=>⟨[(6,some (.v (.one (.ref 900 (ls.take i).flatten.length)))),(27,some (vI i))],[(900,some (.arr true 2 52 (ls.take i).flatten.length (lf Fd.c (ls.take i).flatten)))]⟩) ls.length kk ?_;rintro i hi;refine Eb ?_;refine Kb ?_ ?_<;>intro h2
 ·
  have hts:(ls.take (i+1)).flatten.length=(ls.take i).flatten.length+(ls.getD ((i:Nat):Int).toNat default).length:=by rw[VB _ _ Za,Uc];rfl
  have hfl:(ls.take i).flatten.length+(ls.getD ((i:Nat):Int).toNat default).length<=ls.flatten.length:=WW ls i Za;refine fy ?_;refine Ed 0 true ?_;refine Mb ?_;refine Rb (i+1) ⟨⟨⟨_,rfl,(Xa (by rw[hts]))⟩,tt⟩,⟨⟨_,rfl,(by rw[VB _ _ Za];exact HH _ (λh=>h) rfl (λi j hi hj=>Ra))⟩,Aa⟩⟩ ?_;show i+1<=_;omega
 obtain rfl:i=ls.length:=by omega
 refine Mb ?_;refine Db ?_;rw[show ls.flatten=(ls.take ls.length).flatten by rw[Id]];exact f9 rfl rfl Ta
def BQ (l:List Fd) (i:Nat) (hi:i<l.length) (hl:l.length<=16777216):a6 Ab 224 [pP (Ub l),pI i] (a7 [pP (Ub (me l i))]):=by
 refine Nb (nt:=14) func224 ?_;refine Eb ?_;have hll:=b9y hi hl;refine Wb ?_;refine m9 0 ?_;refine Ke (Ib func248) (a6.eat (hcs:=[.one (.ref 0 2)]) (o1:=[(0, .arr true 1 35 2 (lf bM [l.take i,l.drop (i+1)]))]) (b9i [l.take i,l.drop (i+1)] hll) rfl (by(repeat' apply And.intro)<;>first|trivial|rfl) Ta) ⟨⟨_,rfl,⟨λh=>h,rfl,rfl,rfl,λi j hi hj=>(by have hi:i<2:=hi;have hj:j<1:=hj;obtain rfl:j=0:=Za;rcases(show i=0\/i=1 by omega)with rfl|rfl;exact b4j rfl Za;exact b3e rfl Za)⟩⟩,Aa⟩ ?_;refine Ef ?_;exact⟨Ob.one (Va (by rw[fT])),Aa⟩
def A7 (l:List Fd) (i:Nat) (hi:i<l.length) (hl:l.length<=16777216):a6 Ab 223 [pP (Ub l),pI i] (a7 [pB (Cw l i)]):=by
 refine Nb (nt:=13) func223 ?_;refine Wb ?_;refine Fb (Ib func224) (BQ l i hi hl) ?_;refine Mc ?_;refine Fb (Ib func246) (nN (me l i) (l.getD i default)) ?_;refine Ef ?_;exact Ta
def C4 (l:List Fd) (x:Fd) (a:Nat):a6 Ab 221 [pP (Ub l),x.pc,pI a] (a7 [pB (YB l x a)]):=by
 refine Nb (nt:=17) func221 ?_;refine Rc ?_;refine m9 0 ?_;refine jq ?_;refine rc rfl rfl rfl rfl rfl rfl (Ib func246) (nN l ⟨x.lhs&&&~~~((1:AS)<<<a),x.rhs⟩) (⟨Sa,QZ (kE _ _),Aa⟩) rfl rfl ?_;refine Ef ?_;exact Ta
end
section
def bs9(l:List Fd)(i k:Nat):List Fd:=lc (l.take i)++(gm ((l.getD i default).rhs&&&~~~(l.getD i default).lhs) k).map λa=>(⟨(l.getD i default).lhs,(1:AS)<<<a⟩:Fd)
def AC(x:Fd)(a:Nat):Fd:=⟨x.lhs&&&~~~((1:AS)<<<a),x.rhs⟩
def vr(i:Nat)(l:List Fd)(a:Nat):List Fd:=if bw (l.getD i default).lhs a&&YB l (l.getD i default) a then l.set i (AC (l.getD i default) a)else l
def sq(l:List Fd)(i k:Nat):List Fd:=((am (l.getD i default).lhs).take k).foldl (vr i) l
def Ys(l:List Fd)(i:Nat):List Fd:=(am (l.getD i default).lhs).foldl (vr i) l
def m8(l:List Fd)(i:Nat):List Fd:=(List.range i).foldl Ys l
section
variable {a i:Nat}{l:List Fd}
def fS:(vr i l a).length=l.length:=by
 unfold vr;split
 .rw[Ni]
 rfl
def QK:∀(m:List Nat) (l:List Fd),(m.foldl (vr i) l).length=l.length
 | [],l=>rfl
 |a::m,l=>by rw[Im,QK m,fS]
variable {k:Nat}
def lS:(sq l i k).length=l.length:=QK _ _
def b71:(Ys l i).length=l.length:=QK _ _
def qn:∀{i:Nat},(m8 l i).length=l.length
 |0=>rfl
 | i+1=>by
  unfold m8;rw[Ak,Oi];show(Ys ((List.range i).foldl Ys l) i).length=_;rw[b71];exact qn (i:=i)
def ayd (l:List Fd) (i:Nat):m8 l (i+1)=Ys (m8 l i) i:=by
 unfold m8;rw[Ak,Oi];rfl
def azp(l:List Fd)(i:Nat):sq l i 0=l:=by unfold sq;rw[List.take_zero];rfl
def b5k (hk:k=(am (l.getD i default).lhs).length):sq l i k=Ys l i:=by
 unfold sq Ys;rw[hk,Id]
def qF (hk:k<(am (l.getD i default).lhs).length):sq l i (k+1)=vr i (sq l i k) ((am (l.getD i default).lhs).getD k default):=by
 unfold sq;rw[au hk,Oi];rfl
def DU{x:Fd}(hi:i<l.length):(l.set i x).getD i default=x:=by simp[List.getD,hi]
def b66{b:Nat}(hi:i<l.length)(hb:b<32)(hne:b≠a):((vr i l a).getD i default).lhs.getLsbD b=(l.getD i default).lhs.getLsbD b:=by
 unfold vr;split
 .rw [DU hi]
  show((l.getD i default).lhs&&&~~~((1:AS)<<<a)).getLsbD b=_;rw[Hg,Jl,wu _ _ hb];simp[hb,hne]
 rfl
def jV {b:Nat} (hb:b<32):∀(m:List Nat) (l:List Fd),i<l.length->(∀a∈m,b≠a)->((m.foldl (vr i) l).getD i default).lhs.getLsbD b=(l.getD i default).lhs.getLsbD b
 | [],l,_,_=>rfl
 | a::m,l,hi,h=>by
  rw[Im,jV hb m _ (by rw[fS];exact hi) λc hc=>h c (Jh _ hc),b66 hi hb (h a Yh)]
def avj(s:AS):(am s).Pairwise (·<·):=List.Pairwise.filter _ List.pairwise_lt_range
def NS{m:List Nat}(hk:k<m.length):m.getD k default=m[k]:=by simp[List.getD,hk]
def b1p{m:List Nat}(hk:k<m.length):m.getD k default∈m:=by rw[NS hk];exact De hk
def b3c (hi:i<l.length) (hk:k<(am (l.getD i default).lhs).length):bw ((sq l i k).getD i default).lhs (((am (l.getD i default).lhs).getD k default:Nat):Int)=true:=by
 have hm:(am (l.getD i default).lhs).getD k default∈am (l.getD i default).lhs:=b1p hk;obtain⟨h1,h2⟩:=od.1 hm;rw[j6 h1];unfold sq;rw[jV h1 _ _ hi,h2];intro a ha;obtain⟨j,hj,rfl⟩:=Fg ha;rw[Ae]at hj;rw[List.getElem_take,NS hk];have:=Zk.1 (avj (l.getD i default).lhs) j k Za hk Za;exact Nat.ne_of_gt this
def dP(h:bw (l.getD i default).lhs a=true)(h2:YB l (l.getD i default) a=true):vr i l a=l.set i (AC (l.getD i default) a):=by unfold vr;rw[h,h2];rfl
def ZP(h2:YB l (l.getD i default) a=false):vr i l a=l:=by unfold vr;rw[h2];simp
def qR{wr wr':Bool}{n:Nat}{e:TypeId}{l':List Fd}{v:Int}(hl:l'=l.set i (AC (l.getD i default) a))(hv:v=Hb ((l.getD i default).lhs&&&~~~((1:AS)<<<a)))(hk:k=i)(hi:i<l.length)(hn:n=l.length)(hw:wr'=true->wr=true:=by exactλh=>h):
 Ic (.arr wr 2 e n (er (lf Fd.c l) k 0 [.raw (.int .u32 v)])) (.arr wr' 2 e n (lf Fd.c l')):=by
 subst hl hv hk hn;refine⟨hw,rfl,rfl,rfl,λr j hr hj=>Va ?_⟩;unfold er lf;by_cases h:r=k
 .subst h
  rw[DU hi]
  rcases(by omega:j=0\/j=1)with rfl|rfl
  .rw [Ba ⟨rfl,Yb _,by simp⟩]
   rfl
  rw[Ca Ec];rfl
 rw[Ca Za,Gc h]
def MQ{n:Nat}{cl:Bool}(h:n=l.length):Fc (.sl n 2 cl (lf Fd.c l)) (Ub l):=Wa h.symm (.inl rfl) (λh=>by cases h) λ_ _ _ _=>Ra
def vf:Nat->List Fd->Nat->List Fd
 |0,l,_=>l
 |f+1,l,i=>if i<l.length then(if Cw l i then vf f (me l i) i else vf f l (i+1))else l
def oQ (hi:i<l.length) (h:Cw l i=true):vf (l.length-i) l i=vf ((me l i).length-i) (me l i) i:=by
 rw[n5 hi,show l.length-i=(l.length-1-i)+1 by omega];show(if i<l.length then(if Cw l i then _ else _)else l)=_;rw[Ba hi,h];rfl
def YR (hi:i<l.length) (h:Cw l i=false):vf (l.length-i) l i=vf (l.length-(i+1)) l (i+1):=by
 rw[show l.length-i=(l.length-(i+1))+1 by omega];show(if i<l.length then(if Cw l i then _ else _)else l)=_;rw[Ba hi,h];rfl
def ayi(hi:¬i<l.length):vf (l.length-i) l i=l:=by rw[show l.length-i=0 by omega];rfl
def Jg(l:List Fd):List Fd:=iu (lc l)
def Gy(l:List Fd):List Fd:=iu (m8 (Jg l) (Jg l).length)
def lA(l:List Fd):List Fd:=vf (Gy l).length (Gy l) 0
def ER(l:List Fd):(Jg l).length<=32*l.length:=Nd (CK _) (nL l)
def VV(l:List Fd):(Gy l).length<=32*l.length:=Nd (CK _) (by rw[qn];exact ER l)
def bsv(t:AS)(l:List Fd):Prop:=∀x∈l,sub x.lhs t
end
end
section
open Go.Proofs
def ban (l:List Fd) (hl:l.length<=4096):dn Ab 220 [.one (.p (Ub l))] [] (.v (.one (.ref 900 (Jg l).length))) [(900, .arr true 2 52 (Jg l).length (lf Fd.c (Jg l)))] []:=by
 refine Eg (nt:=37) func220 ?_;refine ce ?_;refine cj 0 rfl λhn=>?_;refine Mb ?_;refine d9 3 901 true 2 52 (lf Fd.c []) Zc rfl Ya (.inr rfl) rfl ?_;refine bz (ka 8 (ka 9 kn)) km (λi=>⟨[(3,some (.v (.one (.ref 901 (lc (l.take i)).length)))),(10,some (vI i))],[(901,some (.arr true 2 52 (lc (l.take i)).length (lf Fd.c (lc (l.take i)))))]⟩) l.length kk ?_;rintro i hi;refine Eb ?_;refine Kb ?_ ?_<;>intro h0
 ·
  refine Jb ?_;refine m9 0 ?_;refine Cc ?_;refine rc rfl rfl rfl rfl rfl rfl Kx (Bw ((l.getD i default).rhs&&&~~~(l.getD i default).lhs)) (⟨Sb (k8 _ _),Aa⟩) rfl rfl ?_;refine Mc ?_;refine bz (ka 5 (ka 8 (ka 9 (ka 10 (ka 19 (ka 20 kn)))))) (kb 0 km) (λk=>⟨[(3,some (.v (.one (.ref 901 (pg l i k).length)))),(21,some (vI k))],[(901,some (.arr true 2 52 (pg l i k).length (lf Fd.c (pg l i k))))]⟩) ((am ((l.getD i default).rhs&&&~~~(l.getD i default).lhs)).length) ⟨⟨⟨_,rfl,(dy (AW l i))⟩,tt⟩,⟨⟨_,rfl,(be (AW l i))⟩,Aa⟩⟩ ?_;rintro k hk;have hml:=ot ((l.getD i default).rhs&&&~~~(l.getD i default).lhs);have hsl:=avg (l:=l) (i:=i) (k:=k) Za;refine Eb ?_;refine Kb ?_ ?_<;>intro h1
  .refine rp ?_;refine rq rfl rfl rfl rfl rfl ?_ (hp:=(Sl _));refine qy ?_;refine m9 1 ?_;refine Ed 2 true ?_;refine Jb ?_;exact Ld (k+1) ⟨⟨⟨_,rfl,(d6 (FW rfl Za))⟩,tt⟩,⟨⟨_,rfl,(j7 (FW rfl Za) Ra (Va (by exact Da (λz=>PV.raw (.int .u32 z)) (b9z _))))⟩,uu⟩⟩
  obtain rfl:k=(am ((l.getD i default).rhs&&&~~~(l.getD i default).lhs)).length:=by omega
  refine Eb ?_;exact Ld (i+1) ⟨⟨⟨_,rfl,(dy (lW Za rfl).symm)⟩,tt⟩,⟨⟨_,rfl,(be (lW Za rfl).symm)⟩,Aa⟩⟩
 obtain rfl:i=l.length:=by omega
 refine Cb ?_;refine b5 3 rfl rfl rfl ?_;refine Cb ?_;refine ke rfl rfl rfl rfl rfl rfl (Ib func222) (MO (lc l) (Nd (nL l) Za)) (⟨Va (by rw[Id];rfl),Aa⟩) trivial rfl rfl ?_;refine Cb ?_;refine Db ?_;exact⟨_,_,rfl,Uf,Ua,uu⟩
def rZ(l:List Fd)(hl:l.length<=4096):a6 Ab 185 [pP (Ub l)] (a7 [pP (Ub (lA l))]):=by
 refine Nb (nt:=60) func185 ?_;refine Jb ?_;refine Ke (Ib func220) (ban l hl) trivial ?_;refine Mc ?_;have hsl:=ER l;refine Mb ?_;refine bz (ka 3 (ka 11 kn)) km (λi=>⟨[(12,some (vI i))],[(900,some (.arr true 2 52 (Jg l).length (lf Fd.c (m8 (Jg l) i))))]⟩) ((Jg l).length) kk ?_;rintro i hi;have htl:=qn (l:=Jg l) (i:=i);refine Eb ?_;refine Kb ?_ ?_<;>intro h0
 ·
  refine jz ?_;refine Fb Kx (Bw ((m8 (Jg l) i).getD i default).lhs) ?_;refine Mc ?_;refine bz (ka 3 (ka 4 (ka 11 (ka 12 (ka 20 (ka 21 kn)))))) km (λk=>⟨[(22,some (vI k))],[(900,some (.arr true 2 52 (Jg l).length (lf Fd.c (sq (m8 (Jg l) i) i k))))]⟩) ((am ((m8 (Jg l) i).getD i default).lhs).length) ⟨tt,⟨⟨_,rfl,(gn (azp _ _) rfl)⟩,Aa⟩⟩ ?_;rintro k hk;have hml:=ot ((m8 (Jg l) i).getD i default).lhs;refine Eb ?_;refine Kb ?_ ?_<;>intro h1
  ·
   have hkl:(sq (m8 (Jg l) i) i k).length=(Jg l).length:=by rw[lS,qn]
   have hhas:=b3c (l:=(m8 (Jg l) i)) (i:=i) (k:=k) (by rw[qn];omega) Za;refine qh ?_;refine rc rfl rfl rfl rfl rfl rfl (Ib func221) (C4 (sq (m8 (Jg l) i) i k) ((sq (m8 (Jg l) i) i k).getD i default) ((am ((m8 (Jg l) i).getD i default).lhs).getD k default)) (⟨Ob.one (MQ (by rw[lS,qn])),Sa,Sa,Aa⟩) rfl rfl ?_;refine cn ?_;refine We ?_ ?_<;>intro h2
   ·
    refine Jb ?_;refine rq rfl rfl rfl rfl rfl ?_ (hp:=(Sl _));refine ce ?_
    first | (refine Rb (k+1) ⟨tt, ⟨⟨_, rfl, (qR (i := i) (a := (am ((m8 (Jg l) i).getD i default).lhs).getD k default) (l := (sq (m8 (Jg l) i) i k)) (by rw[qF Za, dP hhas Gb]) (kE _ _) Za Za hkl.symm)⟩, trivial⟩⟩ ?_; show k+1<=_; omega)
          |(refine Rb (k+1) ⟨tt,⟨⟨_,rfl,(gn (by rw[qF Za,ZP Gb]) rfl)⟩,Aa⟩⟩ ?_;show k+1<=_;omega)
   refine Eb ?_
   first | (refine Rb (k+1) ⟨tt, ⟨⟨_, rfl, (qR (i := i) (a := (am ((m8 (Jg l) i).getD i default).lhs).getD k default) (l := (sq (m8 (Jg l) i) i k)) (by rw[qF Za, dP hhas Gb]) (kE _ _) Za Za hkl.symm)⟩, trivial⟩⟩ ?_; show k+1<=_; omega)
         |(refine Rb (k+1) ⟨tt,⟨⟨_,rfl,(gn (by rw[qF Za,ZP Gb]) rfl)⟩,Aa⟩⟩ ?_;show k+1<=_;omega)
  obtain rfl:k=(am ((m8 (Jg l) i).getD i default).lhs).length:=by omega
  refine Eb ?_;exact Ld (i+1) ⟨tt,⟨⟨_,rfl,(gn (by rw[ayd,b5k rfl]) rfl)⟩,Aa⟩⟩
 obtain rfl:i=(Jg l).length:=by omega
 refine Cb ?_;refine b5 3 rfl rfl rfl ?_;refine Cb ?_;refine rc rfl rfl rfl rfl rfl rfl (Ib func222) (I1 (m8 (Jg l) (Jg l).length) (by rw[qn];omega)) (⟨Ob.one (MQ (by rw[qn])),Aa⟩) rfl rfl ?_;refine Mc ?_;have hrl:=VV l;refine Mc ?_;refine aa (ι:=List Fd×Nat) kn km (λx=>⟨[(3,some (bu (Ub x.1))),(7,some (vI x.2))],[]⟩) (λx=>vf (x.1.length-x.2) x.1 x.2=lA l/\x.2<=x.1.length/\x.1.length<=131072) (λx=>x.1.length-x.2) ((Gy l,0)) (⟨rfl,Zb _,by show(Gy l).length<=_;omega⟩) ⟨⟨zy,⟨_,rfl,(Hd rfl)⟩,Aa⟩,Aa⟩ ?_;rintro x ⟨hx,hx2,hx3⟩;refine Wb ?_;refine Kb ?_ ?_<;>intro h3
 ·
  refine Mb ?_;refine Fb (Ib func223) (A7 x.1 x.2 Za Za) ?_;refine cn ?_;refine aj _ rfl ?_ ?_<;>intro r4
  ·
   have h4:=r4;have hq:=r4;refine Tb ?_;refine Fb (Ib func224) (BQ x.1 x.2 Za Za) ?_;refine Cb ?_
   first | (refine ⟨(me x.1 x.2, x.2), ?_, ?_, ?_⟩
            .have ho:=n5 (l:=x.1) (i:=x.2) Za
             exact⟨by rw[<- hx,oQ Za hq],by dsimp only;omega,by dsimp only;omega⟩
            .have ho:=n5 (l:=x.1) (i:=x.2) Za
             dsimp only;omega
            exact⟨⟨zy,⟨_,rfl,(Hd Lh)⟩,Aa⟩,Aa⟩)
         |(refine Rb (x.1,x.2+1) ⟨⟨zy,⟨_,rfl,(Hd Lh)⟩,Aa⟩,Aa⟩ ?_;exact⟨by rw[<- hx,YR Za hq],by dsimp only;omega,by dsimp only;omega⟩)
  have h4:=r4;have hq:=r4;refine Eb ?_
  first | (refine ⟨(me x.1 x.2, x.2), ?_, ?_, ?_⟩
           .have ho:=n5 (l:=x.1) (i:=x.2) Za
            exact⟨by rw[<- hx,oQ Za hq],by dsimp only;omega,by dsimp only;omega⟩
           .have ho:=n5 (l:=x.1) (i:=x.2) Za
            dsimp only;omega
           exact⟨⟨zy,⟨_,rfl,(Hd Lh)⟩,Aa⟩,Aa⟩)
        |(refine Rb (x.1,x.2+1) ⟨⟨zy,⟨_,rfl,(Hd Lh)⟩,Aa⟩,Aa⟩ ?_;exact⟨by rw[<- hx,YR Za hq],by dsimp only;omega,by dsimp only;omega⟩)
 have hq:=h3;refine Eh ?_;exact⟨Ob.one (Va (by rw[<- hx,ayi Za])),Aa⟩
end
def Tn(n:Int)(l:List Fd):List Fd:=if br n l=0 then lA l else[]
def D6{n:Int}{l:List Fd}(h:br n l=0):Tn n l=lA l:=Ba h
def J5{n:Int}{l:List Fd}(h:¬br n l=0):Tn n l=[]:=Ca h
def nY{s:Nat}{cl:Bool}{f:Nat->Nat->PV}{L:List Fd}(h:L=[]):Fc (.sl 0 s cl f) (Ub L):=by subst h;exact Au
def Rv{s:Nat}{cl:Bool}{f:Nat->Nat->PV}{L:List AS}(h:L=[]):Fc (.sl 0 s cl f) (Cd L):=by subst h;exact Au
def bte(l:List Fd)(i k:Nat):List Fd:=(List.range k).foldl (vr i) l
section
open Go.Proofs
def B2 (n:Int) (l:List Fd):a6 Ab 138 [pI n,pP (Ub l)] (a7 [pP (Ub (Tn n l)),pI (br n l)]):=by
 refine Nb (nt:=15) func138 ?_;refine ce ?_;refine Fb Eu (Fu n l) ?_;refine Jb ?_;refine Sc ?_ ?_<;>intro h0
 .refine Eh ?_;exact⟨Ob.one (nY (J5 Gb)),Sa,Aa⟩
 refine Mc ?_;refine Fb (Ib func185) (rZ l (by have:=(iq Gb).2.2.1;omega)) ?_;refine Ef ?_;exact⟨Ob.one (Va (by rw[D6 Gb])),Sb Za,Aa⟩
end
section
def xV (a b:Nat):a&&&b=2*(a/2&&&b/2)+(a%2&&&b%2):=by
 have h1:=Nat.div_add_mod (a&&&b) 2
 have h2:(a&&&b)%2=a%2&&&b%2:=by
  have:=Nat.and_mod_two_pow (a:=a) (b:=b) (n:=1);simpa using this
 rw[Nat.and_div_two,h2]at h1;exact h1.symm
def YQ (a b:Nat):(a%2&&&b%2)=if a%2=1/\b%2=1 then 1 else 0:=by
 rcases Nat.mod_two_eq_zero_or_one a with h|h<;>rcases Nat.mod_two_eq_zero_or_one b with k|k<;>rw[h,k]<;>rfl
def OU {x s:Nat} (h:x&&&s=x):(x/2&&&s/2=x/2)/\(x%2=1->s%2=1):=by
 have h1:=xV x s;rw[h,YQ]at h1;split at h1<;>rename_i hc
 .exact⟨by omega,λ_=>hc.2⟩
 exact⟨by omega,λhx=>by omega⟩
def b3v:∀(x s z:Nat),x&&&s=x->z&&&s=z->z<x->z<=((x-1)&&&s):=by
 intro x
 induction x using Nat.strongRecOn with
 | _ x ih =>
  intro s z hx hz hlt;obtain⟨x1,x2⟩:=OU hx;obtain⟨z1,z2⟩:=OU hz;rw[xV (x-1) s,YQ]
  rcases Nat.mod_two_eq_zero_or_one x with hb|hb
  .have e1:(x-1)/2=x/2-1:=by omega
   have e2:(x-1)%2=1:=by omega
   have:=ih (x/2) Za (s/2) (z/2) x1 z1 Za;rw[e1,e2];by_cases hs:s%2=1
   .rw[Ba ⟨rfl,hs⟩];omega
   rw[Ca (λh=>hs h.2)];have:z%2=0:=by omega
   omega
  have e1:(x-1)/2=x/2:=by omega
  have e2:(x-1)%2=0:=by omega
  rw[e1,e2,x1,Ca Za];omega
section
variable {s z:AS}
def bA:sub z s<->z.toNat&&&s.toNat=z.toNat:=by
 rw[<- Ns,BitVec.toNat_inj,ci];constructor
 .intro h
  apply Tl;intro k hk;rw[Hg]
  cases hz:z.getLsbD k with
  |false=>rfl
  |true=>rw[h k hk hz];rfl
 intro h i _ hi;rw[<- h,Hg]at hi;simp at hi;exact hi.2
def bcy (h:sub z s):Kd z<=Kd s:=by
 unfold Kd;apply List.countP_mono_left;intro i hi hb;exact ci.1 h i (Fe.1 hi) hb
def Kr (s:AS):Nat->AS->List AS
 |0,_=>[]
 |n+1,x=>x::if x=0 then[]else Kr s n ((x-1)&&&s)
variable {x:AS}
def gF (h:x≠0):(x-1).toNat=x.toNat-1:=by
 have h0:x.toNat≠0:=λe=>h (Qi e);have:=x.isLt;rw[BitVec.toNat_sub];show(2^32-1+x.toNat)%2^32=_;omega
def fF:sub ((x-1)&&&s) s:=by
 rw[bA,Ns,Nat.and_assoc,Nat.and_self]
def s5 (h:x≠0):((x-1)&&&s).toNat<x.toNat:=by
 have h0:x.toNat≠0:=λe=>h (Qi e);rw[Ns,gF h];have:((x.toNat-1)&&&s.toNat)<=x.toNat-1:=Nat.and_le_left;omega
def fK (hx:sub x s) (hz:sub z s) (h:z.toNat<x.toNat):z.toNat<=((x-1)&&&s).toNat:=by
 have h0:x≠0:=λe=>by subst e;exact Ea h (Ud _)
 rw[Ns,gF h0];exact b3v _ _ _ (bA.1 hx) (bA.1 hz) h
def xS:∀(n:Nat) (x:AS),sub x s->x.toNat<n->∀z,z∈Kr s n x<->sub z s/\z.toNat<=x.toNat
 |0,x,_,h,z=>Ea h (Ud _)
 | n + 1,x,hx,h,z=>by
  unfold Kr;by_cases h0:x=0
  .rw [Ba h0,Bf]
   subst h0;constructor
   .rintro rfl;exact⟨hx,Yb _⟩
   rintro⟨_,h⟩;exact Qi (Nat.le_antisymm h (Zb _))
  rw[Ca h0,Jd,xS n _ fF (by have:=s5 (s:=s) h0;omega)];constructor
  .rintro (rfl|⟨h1,h2⟩)
   .exact⟨hx,Yb _⟩
   have:=s5 (s:=s) h0;exact⟨h1,by omega⟩
  rintro⟨h1,h2⟩;by_cases he:z=x
  .exact .inl he
  have hne:z.toNat≠x.toNat:=λe=>he (Qi e);exact .inr ⟨h1,fK hx h1 Za⟩
def Fr(s:AS):List AS:=ord (Kr s (s.toNat+1) s)
def sub_self(s:AS):sub s s:=by rw[bA,Nat.and_self]
def VC(h:sub z s):z.toNat<=s.toNat:=by rw[<- bA.1 h];exact Nat.and_le_right
def AF:z∈Fr s<->sub z s:=by
 unfold Fr;rw[zz,xS _ _ (sub_self s) (Nat.lt_succ_self _)];exact⟨λh=>h.1,λh=>⟨h,VC h⟩⟩
def b4i{l:List AS}(ho:yk l)(h:∀z,z∈l<->sub z s):l=Fr s:=LL ho (FJ _) λz=>by rw[h z];exact AF.symm
def c7(s:AS):List AS:=if 12<Kd s then[]else Fr s
def wE(h:(12:Int)<Kd s):c7 s=[]:=Ba Za
def pQ(h:¬(12:Int)<Kd s):c7 s=Fr s:=Ca Za
def Yw(s:AS)(y:List AS×AS):Prop:=sub y.2 s/\y.1.length+y.2.toNat<=s.toNat+1/\∀z,z∈y.1<->sub z s/\y.2.toNat<=z.toNat
def aV (s:AS):Yw s ([s],s):=⟨sub_self s,by simp only[Yk];omega,λz=>by
 rw[Bf];constructor
 .rintro rfl;exact⟨sub_self _,Yb _⟩
 rintro⟨h1,h2⟩;exact Qi (Nat.le_antisymm (VC h1) h2)⟩
def rU{y:List AS×AS}(h:Yw s y)(h0:y.2≠0):Yw s (y.1++[(y.2-1)&&&s],(y.2-1)&&&s):=by
 obtain⟨h1,h2,h3⟩:=h;have hl:=s5 (s:=s) h0;refine⟨fF,by simp only[Uc,Yk];omega,λz=>?_⟩;rw[Af,Bf,h3];constructor
 .rintro (⟨k1,k2⟩|rfl)
  .exact⟨k1,by dsimp only;omega⟩
  exact⟨fF,Yb _⟩
 rintro⟨k1,k2⟩;dsimp only at k2;by_cases hz:y.2.toNat<=z.toNat
 .exact .inl ⟨k1,hz⟩
 have:=fK h1 k1 Za;exact .inr (Qi Za)
def FT {y:List AS×AS} (h:Yw s y) (h0:y.2=0):ord y.1=Fr s:=b4i (FJ _) λz=>by
 rw[zz,h.2.2,h0];exact⟨λh=>h.1,λh=>⟨h,Zb _⟩⟩
def nxt(x s:Nat):Nat:=if x=s then s+1 else((2^64+x-s)&&&s)
def UpI (s:AS) (k:Nat) (y:List AS×Nat):Prop :=
 (y.2=s.toNat+1\/y.2&&&s.toNat=y.2)/\y.1.length<=k*4294967296+y.2/\yk y.1/\∀z,z∈y.1<->sub z s/\(Kd z<k\/Kd z=k/\z.toNat<y.2)
def UpK(s:AS)(k:Nat)(l:List AS):Prop:=l.length<=k*4294967296/\yk l/\∀z,z∈l<->sub z s/\Kd z<k
abbrev pU(n:Nat):PC:=.one (.raw (.int .u64 (n:Int)))
abbrev vU(n:Nat):HR:=bu (.raw (.int .u64 (n:Int)))
def FB(h:x≠0):bq .and .u32 (Hb x-1) (Hb s)=Hb ((x-1)&&&s):=by rw[WH h,jh]
def lj {α:Type} [Inhabited α] {wr wr':Bool} {e:TypeId} {c:α->Nat->PV} {x:α} {f:Nat->Nat->PV} (h:Fc (f 0 0) (c x 0)) (hw:wr'=true->wr=true:=by exactλh=>h):Ic (.arr wr 1 e 1 f) (.arr wr' 1 e [x].length (lf c [x])) :=
 ⟨hw,rfl,rfl,rfl,λi j hi hj=>by
  have hi:i<1:=hi;have hj:j<1:=hj;obtain rfl:j=0:=by omega
  obtain rfl:i=0:=by omega
  exact h⟩
end
end
section
open Go.Proofs
def DE:goodFn Ab 102:=Ib func102
def DN (s:AS):a6 Ab 102 [pA s] (a7 [pP (Cd (c7 s))]):=by
 refine Nb (nt:=23) func102 ?_;refine Wb ?_;refine Fb Hy (Qw s) ?_;refine Cb ?_;refine Kb ?_ ?_<;>intro h0
 .refine Kc ?_;exact⟨Ob.one (Rv (wE h0)),Aa⟩
 refine Mc ?_;refine m9 0 ?_;refine Cc ?_;refine aa (ι:=List AS×AS) (ka 0 kn) km (λy=>⟨[(3,some (.v (.one (.ref 0 y.1.length)))),(4,some (vA y.2))],[(0,some (.arr true 1 48 y.1.length (lf sC y.1)))]⟩) (λy=>Yw s y) (λy=>y.2.toNat) (([s],s)) (aV s) ⟨tt,⟨⟨_,rfl,(lj Ra)⟩,Aa⟩⟩ ?_;rintro y hy;have hlen:=hy.2.1;have hsl:=s.isLt;refine Mb ?_;refine Sc ?_ ?_<;>intro h1
 ·
  have hne:y.2≠0:=λe=>h1 (by rw[e];rfl);refine Eb ?_;refine rq rfl rfl rfl rfl rfl ?_ (hp:=(zB hne));refine Jb ?_;refine m9 1 ?_;refine Ed 2 true ?_;refine Cb ?_;refine⟨(y.1++[(y.2-1)&&&s],(y.2-1)&&&s), ?_, ?_, ?_⟩
  .exact rU hy hne
  .exact s5 hne
  exact⟨⟨⟨_,rfl,(d6 rfl)⟩,⟨_,rfl,(ed (FB hne))⟩,tt⟩,⟨⟨_,rfl,(cr rfl (Va (by rw[FB hne];rfl)))⟩,Aa⟩⟩
 have hz:y.2=0:=dm.1 h1;refine Cb ?_;refine b5 3 rfl rfl rfl ?_;refine Cb ?_;refine Fb Ty (WA y.1 Za) ?_;refine Tf ?_;exact⟨Ob.one (Va (by rw[pQ h0,FT hy hz])),Aa⟩
end
section
def ss(l:List Fd)(p x:AS):Bool:=decide (clo l x&&&p≠x)&&decide (clo l x&&&p≠p)
def zA(l:List Fd)(p:AS):Option AS:=(c7 p).find? (ss l p)
def KC(l:List Fd)(p x:AS):Fd:=⟨x,(clo l x&&&p)&&&~~~x⟩
def mo (l:List Fd) (p:AS):Fd:=match zA l p with
 |some x=>KC l p x
 |none=>⟨0,0⟩
def gv(l:List Fd)(p:AS):Bool:=(zA l p).isSome
def NO {α:Type} [Inhabited α] {q:α->Bool} {l:List α} {i:Nat} (hi:i<l.length) (hI:∀j,j<i->q (l.getD j default)=false) (h:q (l.getD i default)=true):l.find? q=some (l.getD i default):=by
 rw[List.find?_eq_some_iff_getElem];refine⟨h,i,hi,by simp[List.getD,hi],λj hj=>?_⟩;have:=hI j hj;rw[Oc,Hc Za,Xh]at this;simp[this]
def QP {α:Type} [Inhabited α] {q:α->Bool} {l:List α} (hI:∀j,j<l.length->q (l.getD j default)=false):l.find? q=none:=by
 rw[Oo];intro x hx;obtain⟨j,hj,rfl⟩:=Fg hx;have:=hI j hj;rw[Oc,Hc hj,Xh]at this;simp[this]
section
variable {l:List Fd}{p:AS}
def mQ {i:Nat} (hi:i<(c7 p).length) (hI:∀j,j<i->ss l p ((c7 p).getD j default)=false) (h:ss l p ((c7 p).getD i default)=true):mo l p=KC l p ((c7 p).getD i default)/\gv l p=true:=by
 have e:zA l p=some ((c7 p).getD i default):=NO hi hI h;unfold mo gv;rw[e];exact⟨rfl,rfl⟩
def UO (hI:∀j,j<(c7 p).length->ss l p ((c7 p).getD j default)=false):mo l p=⟨0,0⟩/\gv l p=false:=by
 have e:zA l p=none:=QP hI;unfold mo gv;rw[e];exact⟨rfl,rfl⟩
def iQ {x:AS} (h:bq .and .u32 (Hb (clo l x)) (Hb p)=Hb x):ss l p x=false:=by
 rw[jh,dm]at h;unfold ss;simp[h]
def TP {x:AS} (h:bq .and .u32 (Hb (clo l x)) (Hb p)=Hb p):ss l p x=false:=by
 rw[jh,dm]at h;unfold ss;simp[h]
def WO {x:AS} (h:¬bq .and .u32 (Hb (clo l x)) (Hb p)=Hb x) (k:¬bq .and .u32 (Hb (clo l x)) (Hb p)=Hb p):ss l p x=true:=by
 rw[jh,dm]at h k;unfold ss;simp[h,k]
def ba9 {i:Nat} {a b:PV} (hi:i<(c7 p).length) (hI:∀j,j<i->ss l p ((c7 p).getD j default)=false) (h:ss l p ((c7 p).getD i default)=true) (ha:a=Ag ((c7 p).getD i default)) (hb:b=.raw (.int .u32 (bq .andNot .u32 (bq .and .u32 (Hb (clo l ((c7 p).getD i default))) (Hb p)) (Hb ((c7 p).getD i default))))):Ob (.agg [a,b]) (mo l p).pc :=
 Ob.of_eq (by rw[(mQ hi hI h).1,ha,hb,jh,k8];rfl)
def b64(hI:∀j,j<(c7 p).length->ss l p ((c7 p).getD j default)=false):Ob (.agg [io (.int .u32 0),io (.int .u32 0)]) (mo l p).pc:=Ob.of_eq (by rw[(UO hI).1];rfl)
def tK {s:AS}:∀(n:Nat) (x:AS),(Kr s n x).length<=x.toNat+1
 |0,x=>Zb _
 | n+1,x=>by
  unfold Kr;by_cases h0:x=0
  .rw[Ba h0];simp
  rw[Ca h0,Zf];have h1:=tK (s:=s) n ((x-1)&&&s);have h2:=s5 (s:=s) h0;omega
def DF (s:AS):(c7 s).length<=4294967296:=by
 unfold c7 Fr;have h1:=tK (s:=s) (s.toNat+1) s;have h2:=ui (Kr s (s.toNat+1) s);have h3:=s.isLt;split
 .simp
 omega
end
end
section
open Go.Proofs
def MH:goodFn Ab 91:=Ib func91
def FG(l:List Fd)(p:AS):a6 Ab 91 [pP (Ub l),pA p] (a7 [(mo l p).pc,pB (gv l p)]):=by
 refine Nb (nt:=36) func91 ?_;refine Rc ?_;refine m9 0 ?_;refine Mb ?_;refine Fb DE (DN p) ?_;refine Mc ?_;refine aa (ι:=Nat) (ka 0 (ka 1 (ka 4 (ka 10 (ka 11 kn))))) (kb 0 km) (λi=>⟨[(12,some (vI i))],[]⟩) (λi=>i<=(c7 p).length/\(∀j,j<i->ss l p ((c7 p).getD j default)=false)) (λi=>(c7 p).length-i) (0) (⟨Zb _,aw⟩) kk ?_;rintro i ⟨hi,hI⟩;have hlen:=DF p;refine Eb ?_;refine Kb ?_ ?_<;>intro h0
 ·
  refine jq ?_;refine Fb uo (xx l ((c7 p).getD i default)) ?_;refine ce ?_;refine af rfl rfl ?_ ?_<;>intro r1
  ·
   have h1:=Ac (ct r1);(iterate 3 refine qy ?_ (hg:=(Lc r1)));refine Cb ?_;refine aj _ rfl ?_ ?_<;>intro r2
   .have h2:=Ac (ct (bp r1 r2));refine ce ?_;exact Nc rfl rfl rfl (⟨ba9 (i:=i) Za hI (WO h1 h2) rfl rfl,Vb (mQ (i:=i) Za hI (WO h1 h2)).2.symm,Aa⟩)
   have h2:=Bc (cu (bp r1 r2));refine Eb ?_;refine Rb (i+1) kk ?_;exact⟨by show i+1<=_;omega,al hI (by first|exact iQ h1|exact TP h2)⟩
  have h1:=Bc (cu r1);(iterate 3 refine k9 (Vd r1) ?_);refine Wb ?_;refine Rb (i+1) kk ?_
  exact⟨by show i+1<=_;omega,al hI (by first|exact iQ h1|exact TP h2)⟩
 refine Up ?_;exact⟨b64 (λj hj=>hI j Za),Vb (UO (λj hj=>hI j Za)).2.symm,Aa⟩
end
section
open Go.RowKit
section
variable {w0:World}{nt:Nat}{c:Pc}{s:S}{a:Act}{w:World}
def ah.short(h:ah w0 nt c s a w){id id' sz n m:Nat}{el:TypeId}{f:Nat->Nat->PV}(ho:s.o id=some (.arr true sz el n f))(hm:m<=n)(hnm:NM s id')(hno:s.o id'=none){u:Value}(hu:bc c s.o (.win id n 0 m) u) :
 ∃c',c'.old=c.old/\ah w0 nt c' ((s.setO id none).setO id' (some (.arr true sz el m f))) a w/\ap c' ((s.setO id none).setO id' (some (.arr true sz el m f))).o (.v (.one (.ref id' m))) u:=by
 have hne:id≠id':=λe=>by rw[<- e,ho]at hno;cases hno
 obtain⟨ad,ad',cap,q1,q2,q3,q4,q5,q6⟩:=Ky hu ho rfl;obtain⟨h0,h1,h5⟩:=h.objs id _ ho
 have hold:∀k ob,((s.setO id none).setO id' (some (.arr true sz el m f))).o k=some ob->k≠id'->s.o k=some ob/\k≠id:=λk ob hk hk'=>by
  simp only[S.setO,Ca hk']at hk;by_cases hki:k=id
  .subst hki;simp at hk
  rw[Ca hki]at hk;exact⟨hk,hki⟩
 obtain ⟨bk,hbk,hok⟩:∃bk:Nat->Prop,(∀b,bk b->c.blk id b)/\∀c':Pc,c'.imm=c.imm->c'.own id'=u->c'.blk id'=bk->∀o':av,eq 0 c' o' w id' (.arr true sz el m f):=by
  rcases h5 with⟨h6,xs,h2,h4⟩|⟨h6|h6,h7,h8⟩
  .obtain ⟨hxl,hrow⟩:=h2
   rcases hrow with⟨hv0,hz⟩|⟨g,cap',cur,hown,hbase,hheap,hnc,hcm,hcs,htake⟩
   .rw [hv0]at q1
    simp only[Ka]at q1;obtain⟨rfl,_,rfl⟩:=q1;obtain rfl:n=0:=by omega
    obtain rfl:m=0:=by omega
    refine⟨Cg,λb hb=>hb.elim,λc' e1 e2 e3 o'=>⟨h0,Zb _, .inr ⟨.inr rfl,e3, ?_⟩⟩⟩;rw[e2,q2];exact⟨ad',0,rfl,Yb _,Zb _,λ_=>rfl,λh=>Ea h (Pl 0)⟩
   rw[hown]at q1;simp only[Ka,true_and]at q1;obtain⟨rfl,rfl⟩:=q1;by_cases hcap:cap'=0
   .subst hcap
    obtain rfl:m=0:=by omega
    refine⟨Cg,λb hb=>hb.elim,λc' e1 e2 e3 o'=>⟨h0,Zb _, .inr ⟨.inr rfl,e3, ?_⟩⟩⟩;rw[e2,q2];exact⟨ad',0,rfl,Yb _,Zb _,λ_=>rfl,λh=>Ea h (Pl 0)⟩
   obtain rfl:=q6 Za;simp only[Vf,add_lit,Nat.zero_mul,Fi,Ho]at q2;have hmul:m*sz<=n*sz:=Ve _ hm;refine⟨fq u,λb hb=>by rw[h6,hown];rw[q2]at hb;exact hb,λc' e1 e2 e3 o'=>⟨h0,Nd hm h1, .inl ⟨by rw[e2,e3],xs.take (m*sz),⟨by rw[Ae,hxl,Gi hmul], .inr ⟨g,cap',cur,by rw[e2,q2],hbase,hheap,by omega,hcm,hcs, ?_⟩⟩,λi j hi hj=>?_⟩⟩⟩
   .rw[<- htake,List.take_take,Gi hmul]
   obtain⟨x,hx,hr⟩:=h4 i j Za hj;refine⟨x, ?_,by rw[e1];exact hr⟩;rw[Ih,Ba (lJ hi hj)];exact hx
  .cases h6
  subst h6;obtain rfl:m=0:=by omega
  refine⟨Cg,λb hb=>hb.elim,λc' e1 e2 e3 o'=>⟨h0,Zb _, .inr ⟨.inr rfl,e3, ?_⟩⟩⟩;obtain⟨ad2,cap2,r1,r2,r3,r4,_⟩:=h8;rw[q1]at r1;simp only[Ka,true_and]at r1;obtain⟨rfl,rfl⟩:=r1;obtain rfl:cap=0:=r4 rfl;rw[e2,q2];exact⟨ad',0,rfl,Yb _,Zb _,λ_=>rfl,λh=>Ea h (Pl 0)⟩
 have hevo:∀k,k≠id'->Vc c s.o { c with own:=λk=>if k=id' then u else c.own k,blk:=λk=>if k=id' then bk else c.blk k } ((s.setO id none).setO id' (some (.arr true sz el m f))).o k:=λk hk=>by
  by_cases hki:k=id
  .subst hki
   exact .inl (by simp[S.setO,hk])
  exact Vc.of_same (by simp[S.setO,hk,hki]) (by simp[hk])
 refine⟨{ c with own:=λk=>if k=id' then u else c.own k,blk:=λk=>if k=id' then bk else c.blk k },rfl,⟨h.defers,h.size,h.below,λd x hx=>?_,λk ob hk=>?_,λi i' obi obi' b hi hi' hb hb'=>?_,h.imm,λk ob b hk hb=>?_,h.was,h.frm,λk ob b hk hb=>?_,λk hk=>?_⟩, ?_⟩
 .exact(h.tmps d x hx).evo (Dc.le.refl c.imm) λk hkm=>hevo k (by rintro rfl;exact hnm.1 d x hx hkm)
 .by_cases hk':k=id'
  .subst hk'
   obtain rfl:ob=.arr true sz el m f:=by simpa [S.setO]using hk.symm
   refine hok _ ?_ ?_ ?_ _<;>first|rfl|exact Ba rfl
  obtain⟨hk1,hk2⟩:=hold k ob hk hk';exact(h.objs k ob hk1).keep (Dc.le.refl c.imm) (by simp[hk']) (by simp[hk']) (λj hj=>hevo j (by rintro rfl;exact hnm.2.1 k ob hk1 hj)) λb _=>rfl
 .have hone:∀k ob b,k≠id'->((s.setO id none).setO id' (some (.arr true sz el m f))).o k=some ob->c.blk k b->bk b->False:=λk ob b hk' hk hb hbb=>by
   obtain⟨hk1,hk2⟩:=hold k ob hk hk';exact hk2 (h.inj k id ob _ b hk1 ho hb (hbk b hbb))
  by_cases e1:i=id'
  .by_cases e2:i'=id'
   .rw[e1,e2]
   exact(hone i' obi' b e2 hi' (by simpa [e2]using hb') (by simpa [e1]using hb)).elim
  by_cases e2:i'=id'
  .exact(hone i obi b e1 hi (by simpa [e1]using hb) (by simpa [e2]using hb')).elim
  exact h.inj i i' obi obi' b (hold i obi hi e1).1 (hold i' obi' hi' e2).1 (by simpa [e1]using hb) (by simpa [e2]using hb')
 .by_cases hk':k=id'
  .exact h.sep id _ b ho (hbk b (by simpa [hk']using hb))
  exact h.sep k ob b (hold k ob hk hk').1 (by simpa [hk']using hb)
 .by_cases hk':k=id'
  .exact h.fsep id _ b ho (hbk b (by simpa [hk']using hb))
  exact h.fsep k ob b (hold k ob hk hk').1 (by simpa [hk']using hb)
 .exact(h.fixed k hk).trans (hevo k (by have:=hnm.2.2;omega))
 refine⟨hu.1,λl=>by simp[S.setO],λob2 s2 e2 n2 ho2 hd2=>?_⟩;simp only[S.setO,Ma,Bb]at ho2;subst ho2;simp only[a8.dim,Bb,Tc]at hd2;obtain⟨rfl,rfl,rfl⟩:=hd2;exact⟨Yb _,λ_=>by simp⟩
end
section
variable {ro:Option Nat}{P:Program}{nt:Nat}{st:Qb}{Q:Exit->Qb->Prop}
def yT {c:Code} (d id2:Nat) {id n n' i m s:Nat} {e:TypeId} {f:Nat->Nat->PV} (hd:bo st.t d=some (.v (.one (.win id n i m)))) (ho:bo st.o id=some (.arr true s e n' f)) (hn:n'=n) (hi:i=0) (hm:m<=n) (hnew:qb id2 st=true)
 (h:HW (ro:=ro) P nt c ⟨(d,some (.v (.one (.ref id2 m))))::st.t,(id2,some (.arr true s e m f))::(id,none)::st.o⟩ Q):HW (ro:=ro) P nt c st Q:=by
 subst hn hi;obtain⟨hnm,hno⟩:=jd hnew;refine Cu ⟨st.t,(id2,some (.arr true s e m f))::(id,none)::st.o⟩ d (.v (.one (.ref id2 m))) (λw0 m0 a w hr=>?_) h;obtain⟨cc,hold,Db⟩:=hr;obtain⟨c',e1,e2,e3⟩:=Db.short ho hm hnm hno (Db.tmps d _ hd)
 have e4:(Qb.den ⟨st.t,(id2,some (.arr true s e m f))::(id,none)::st.o⟩)=(st.den.setO id none).setO id2 (some (.arr true s e m f)):=by
  unfold Qb.den S.setO;simp[b9]
 exact⟨c',e1.trans hold,by rw[e4];exact e2,by rw[e4];exact e3⟩
def yc {c:Code} (d id2:Nat) {id n n' s:Nat} {e:TypeId} {f:Nat->Nat->PV} (hd:bo st.t d=some (.v (.one (.ref id n)))) (ho:bo st.o id=some (.arr true s e n' f)) (hn:n'=n) (hnew:qb id2 st=true)
 (h:HW (ro:=ro) P nt c ⟨(d,some (.v (.one (.ref id2 n))))::st.t,(id2,some (.arr true s e n f))::(id,none)::st.o⟩ Q):HW (ro:=ro) P nt c st Q:=by
 subst hn;obtain⟨hnm,hno⟩:=jd hnew;refine Cu ⟨st.t,(id2,some (.arr true s e n' f))::(id,none)::st.o⟩ d (.v (.one (.ref id2 n'))) (λw0 m0 a w hr=>?_) h;obtain⟨cc,hold,Db⟩:=hr;have hu:bc cc st.den.o (.ref id n') (a.tmps.getD d undef):=Db.tmps d _ hd
 have hw:bc cc st.den.o (.win id n' 0 n') (a.tmps.getD d undef):=by
  refine⟨hu.1,hu.2.1,λob s2 e2 n2 ho2 hd2=>⟨(hu.2.2 _ _ _ _ ho2 hd2).1,λhk=>?_⟩⟩;have he:=(hu.2.2 _ _ _ _ ho2 hd2).2 hk;obtain rfl:ob=.arr true s e n' f:=Option.some.inj (ho2.symm.trans ho);simp only[a8.dim,Bb,Tc]at hd2;obtain⟨rfl,rfl,rfl⟩:=hd2;obtain⟨ad,cap,hv,hc1,hc2⟩:=zm (Db.objs _ _ ho2);exact⟨ad,ad,cap,hv,by rw[he,hv];rfl,by omega,hc1,hc2,λ_=>by cases ad<;>simp[ph]⟩
 obtain⟨c',e1,e2,e3⟩:=Db.short ho (Yb _) hnm hno hw
 have e4:(Qb.den ⟨st.t,(id2,some (.arr true s e n' f))::(id,none)::st.o⟩)=(st.den.setO id none).setO id2 (some (.arr true s e n' f)):=by
  unfold Qb.den S.setO;simp[b9]
 exact⟨c',e1.trans hold,by rw[e4];exact e2,by rw[e4];exact e3⟩
end
end
def wS {l:List AS} {k:Nat} (hk:l.length<=k) (h:∀j,0<j->j<k->¬l.getD j default=l.getD (j-1) default):iz l=l:=by
 have:=uc (Yb l.length) λj h1 h2=>h j h1 Za;rw[Id]at this;exact this
def VU {l m:List AS} {k p q:Nat} (hC:Pk l k p q m) (hq:¬q<l.length):(iz l).length=p/\m.take p=iz l:=by
 have e:=hC.pre;have h1:=hC.ql;have h2:=hC.len;have h3:=hC.pq;rw[show q=l.length by omega,Id]at e;exact⟨by rw[<- e];simp;omega,e⟩
def be4 {l m:List AS} {k p q n a d:Nat} {z:List Value} {e:TypeId} (hC:Pk l k p q m) (hq:¬q<l.length) (ha:p<=a) (hn:n=p):Ic (.arr true 1 e n (tl (lf sC m) a d z)) (.arr true 1 e (iz l).length (lf sC (iz l))):=by
 obtain⟨h1,h2⟩:=VU hC hq;subst hn;refine⟨λh=>h,rfl,rfl,h1,λi j hi hj=>Va ?_⟩;show tl (lf sC m) a d z i j=lf sC (iz l) i j;unfold tl;rw[Ca Za];simp only[lf,List.getD];have e:(iz l)[i]? = m[i]?:=by rw[<- h2,Ih,Ba hi]
 rw[e]
def ey{id n m:Nat}(h:n=m):Rg (.v (.one (.ref id n))) (.v (.one (.ref id m))):=by rw[h];exact Ua
section
open Go.Proofs
def aya(l:List AS):dn Ab 210 [.one (.ref 900 l.length)] [(900, .arr true 1 48 l.length (lf sC l))] (.v (.one (.ref 901 (iz l).length))) [(901, .arr true 1 48 (iz l).length (lf sC (iz l)))] []:=by
 refine Eg (nt:=61) func210 ?_;refine cw ?_;refine Xw 900 rfl λhlen=>?_;refine ce ?_;refine Kb ?_ ?_<;>intro h0
 .refine Eb ?_;refine yc 2 901 rfl rfl rfl rfl ?_;refine Db ?_;have he:=wS (l:=l) (k:=l.length) (Yb _) (λj h1 h2=>by omega);exact⟨_,_,rfl,Uf,ey (by rw[he]),⟨⟨_,rfl,gn he (by rw[he])⟩,Aa⟩⟩
 refine Jb ?_;refine aa (ι:=Nat) (ka 0 kn) (kb 900 km) (λk=>⟨[(3,some (vI k))],[]⟩) (λk=>1<=k/\k<=l.length/\∀j,0<j->j<k->¬l.getD j default=l.getD (j-1) default) (λk=>l.length-k) (1) (⟨Yb _,by omega,λj h1 h2=>by omega⟩) kk ?_;rintro k ⟨hk1,hk,hI⟩;refine Wb ?_;refine Kb ?_ ?_<;>intro h1
 ·
  refine qh ?_;refine Kb ?_ ?_<;>intro h2
  ·
   refine jq ?_;refine aa (ι:=Nat×Nat×List AS) (ka 0 (ka 4 kn)) km (λx=>⟨[(3,some (vI x.1)),(5,some (vI ((x.2.1:Int)-k)))],[(900,some (.arr true 1 48 l.length (lf sC x.2.2)))]⟩) (λx=>Pk l k x.1 x.2.1 x.2.2) (λx=>l.length-x.2.1) ((k,k+1,l)) (Pk.start hk1 Za hI (zp Gb rfl Za)) ⟨⟨zy,⟨_,rfl,(Hd Lh)⟩,Aa⟩,uu⟩ ?_;rintro⟨p,q,m⟩ hC;have hC0:=hC;obtain⟨hml,hkq,hpq,hql,_,_⟩:=hC0;dsimp only at hC hml hkq hpq hql;refine Wb ?_;refine Kb ?_ ?_<;>intro h3
   ·
    simp only[ep,bh,Qe]at h3;refine qh ?_;refine Sc ?_ ?_<;>intro h4
    ·
     refine Nv ?_
     first | (refine Rb (p+1, q+1, m.set p (m.getD q default)) ⟨⟨⟨_, rfl, (Hd Yj)⟩, ⟨_, rfl, (Hd Yj)⟩, tt⟩, ⟨⟨_, rfl, (uy id hml.symm Za (by dsimp only; omega) Vh)⟩, trivial⟩⟩ ?_; exact hC.keep Za (Ly Gb Vh Vh))
           |(refine Rb (p,q+1,m) ⟨⟨⟨_,rfl,(Hd Lh)⟩,⟨_,rfl,(Hd Lh)⟩,tt⟩,uu⟩ ?_;exact hC.skip Za (zp Gb Wj Wj))
    refine Mb ?_
    first | (refine Rb (p+1, q+1, m.set p (m.getD q default)) ⟨⟨⟨_, rfl, (Hd Yj)⟩, ⟨_, rfl, (Hd Yj)⟩, tt⟩, ⟨⟨_, rfl, (uy id hml.symm Za (by dsimp only; omega) Vh)⟩, trivial⟩⟩ ?_; exact hC.keep Za (Ly Gb Vh Vh))
          |(refine Rb (p,q+1,m) ⟨⟨⟨_,rfl,(Hd Lh)⟩,⟨_,rfl,(Hd Lh)⟩,tt⟩,uu⟩ ?_;exact hC.skip Za (zp Gb Wj Wj))
   simp only[ep,bh,Qe]at h3;refine Mb ?_;refine Ed 0 true ?_;refine Wb ?_;refine yT 2 901 rfl rfl rfl rfl (by simp only[ep,bh,Qe];omega) rfl ?_;refine Db ?_;have he:=(VU hC Za).1;exact⟨_,_,rfl,Uf,ey (by rw[he];simp[ep,bh]),⟨⟨_,rfl,be4 hC Za (by simp[bh]) (by simp[ep,bh])⟩,Aa⟩⟩
  refine Mb ?_;refine Rb (k+1) kk ?_;refine⟨by omega,by show k+1<=_;omega,λj h1 h2=>?_⟩
  rcases Po (Iq h2)with h|h
  .exact hI j h1 h
  subst h;exact Ly Gb rfl Za
 refine Mb ?_;refine yc 2 901 rfl rfl rfl rfl ?_;refine Db ?_;have he:=wS (l:=l) (k:=k) Za hI;exact⟨_,_,rfl,Uf,ey (by rw[he]),⟨⟨_,rfl,gn he (by rw[he])⟩,Aa⟩⟩
def bb7 (l:List AS) (hl:l.length<=8589934592):dn Ab 157 [.one (.p (Cd l))] [] (.v (.one (.ref 901 (ord l).length))) [(901, .arr true 1 48 (ord l).length (lf sC (ord l)))] []:=by
 refine Eg (nt:=10) func157 ?_;refine Jb ?_;refine Ke mD (xE l.length false (lf sC l) Za) trivial ?_;refine Eb ?_;refine Ke MR (uO 0 _ l hl) uu ?_;refine Mc ?_;refine ke rfl rfl rfl rfl rfl rfl (Ib func210) ((aya (srt l)).swap 900 0) (⟨Da (HV.ref 0) (EE l).symm,Aa⟩) ⟨⟨_,rfl,gn rfl (EE l).symm⟩,Aa⟩ rfl rfl ?_;refine Cb ?_;refine Db ?_;exact⟨_,_,rfl,Uf,ey (by rw[eF]),⟨⟨_,rfl,gn (eF _).symm (by rw[eF])⟩,Aa⟩⟩
def OO (s:AS):dn Ab 102 [.one (.p (Ag s))] [] (.v (.one (.ref 901 (c7 s).length))) [(901, .arr true 1 48 (c7 s).length (lf sC (c7 s)))] []:=by
 refine Eg (nt:=23) func102 ?_;refine Wb ?_;refine Fb Hy (Qw s) ?_;refine Cb ?_;refine Kb ?_ ?_<;>intro h0
 .refine Mc ?_;refine d9 2 901 true 1 48 (lf sC []) Zc rfl Ya (.inr rfl) rfl ?_;refine Db ?_;exact⟨_,_,rfl,Uf,ey (by rw[wE h0];rfl),⟨⟨_,rfl,gn (wE h0) (by rw[wE h0];rfl)⟩,Aa⟩⟩
 refine Mc ?_;refine m9 0 ?_;refine Cc ?_;refine aa (ι:=List AS×AS) (ka 0 kn) km (λy=>⟨[(3,some (.v (.one (.ref 0 y.1.length)))),(4,some (vA y.2))],[(0,some (.arr true 1 48 y.1.length (lf sC y.1)))]⟩) (λy=>Yw s y) (λy=>y.2.toNat) (([s],s)) (aV s) ⟨tt,⟨⟨_,rfl,(lj Ra)⟩,Aa⟩⟩ ?_;rintro y hy;have hlen:=hy.2.1;have hsl:=s.isLt;refine Mb ?_;refine Sc ?_ ?_<;>intro h1
 ·
  have hne:y.2≠0:=λe=>h1 (by rw[e];rfl);refine Eb ?_;refine rq rfl rfl rfl rfl rfl ?_ (hp:=(zB hne));refine Jb ?_;refine m9 1 ?_;refine Ed 2 true ?_;refine Cb ?_;refine⟨(y.1++[(y.2-1)&&&s],(y.2-1)&&&s), ?_, ?_, ?_⟩
  .exact rU hy hne
  .exact s5 hne
  exact⟨⟨⟨_,rfl,(d6 rfl)⟩,⟨_,rfl,(ed (FB hne))⟩,tt⟩,⟨⟨_,rfl,(cr rfl (Va (by rw[FB hne];rfl)))⟩,Aa⟩⟩
 have hz:y.2=0:=dm.1 h1;refine Cb ?_;refine b5 3 rfl rfl rfl ?_;refine Cb ?_;refine Ke Ty (bb7 y.1 Za) trivial ?_;refine Cb ?_;refine Db ?_;have he:=(FT hy hz).trans (pQ h0).symm;exact⟨_,_,rfl,Uf,ey (by rw[he]),⟨⟨_,rfl,gn he.symm (by rw[he])⟩,Aa⟩⟩
end
section
def tu(l:List Fd)(p:AS):Int:=if br 16 l=0 then(if 8<Kd p then 3 else if p>>>16=0 then 0 else 1)else br 16 l
def Ap(l:List Fd)(p:AS):Fd:=if tu l p=0 then mo l p else⟨0,0⟩
def xq(l:List Fd)(p:AS):Bool:=decide (tu l p=0)&&gv l p
def aI{f:Fd}(h:f=⟨0,0⟩):Ob (.agg [io (.int .u32 0),io (.int .u32 0)]) f.pc:=Ob.of_eq (by rw[h];rfl)
def C3{a b:Fd}(h:a=b):Ob a.pc b.pc:=Ob.of_eq (by rw[h])
section
variable {l:List Fd}{p:AS}
def K4 (h:¬br 16 l=0):tu l p=br 16 l/\Ap l p=⟨0,0⟩/\xq l p=false:=by
 have e:tu l p=br 16 l:=Ca h;unfold Ap xq;rw[e];exact⟨rfl,Ca h,by rw[Ha h];rfl⟩
def K5 (h:br 16 l=0) (h2:(8:Int)<Kd p):tu l p=3/\Ap l p=⟨0,0⟩/\xq l p=false:=by
 have e:tu l p=3:=by unfold tu;rw[Ba h,Ba Za]
 unfold Ap xq;rw[e];exact⟨rfl,rfl,rfl⟩
def qK {n:Nat}:(Hb p).fdiv (2^(min n 32))=0<->p>>>n=0:=by
 rw[yu,show(0:Int)=Hb 0 from rfl,dm]
def S3 (h:br 16 l=0) (h2:¬(8:Int)<Kd p) (h3:¬(Hb p).fdiv (2^(min 16 32))=0):tu l p=1/\Ap l p=⟨0,0⟩/\xq l p=false:=by
 rw[qK]at h3;have e:tu l p=1:=by unfold tu;rw[Ba h,Ca Za,Ca h3]
 unfold Ap xq;rw[e];exact⟨rfl,rfl,rfl⟩
def M4 (h:br 16 l=0) (h2:¬(8:Int)<Kd p) (h3:(Hb p).fdiv (2^(min 16 32))=0):tu l p=0/\Ap l p=mo l p/\xq l p=gv l p:=by
 rw[qK]at h3;have e:tu l p=0:=by unfold tu;rw[Ba h,Ca Za,Ba h3]
 unfold Ap xq;rw[e];exact⟨rfl,rfl,rfl⟩
def bcP(n:Int)(l:List Fd)(f:Fd):Bool:=decide (f.rhs&&&~~~f.lhs≠0)&&decide (clo l f.lhs≠ak n)
def bcS(n:Int)(l:List Fd):Bool:=decide (br n l=0)&&!l.any (bcP n l)
def Om(n:Int)(l:List Fd):List AS:=if jg n l 8=0 then(c7 (ak n)).filter λs=>!gv l s else[]
def K7{n:Int}(h:jg n l 8=0):Om n l=(c7 (ak n)).filter λs=>!gv l s:=Ba h
def G4{n:Int}(h:¬jg n l 8=0):Om n l=[]:=Ca h
def oE{n m:Int}(h:jg n l m=0):br n l=0/\n<=m:=by
 unfold jg at h;split at h
 .rename_i hv
  split at h
  .cases h
  exact⟨hv,by omega⟩
 rename_i hv;exact Ea h hv
def b48 (n:Int) (l:List Fd):(Om n l).length<=4294967296:=by
 unfold Om;have:=DF (ak n);split
 .exact Nd (So _ _) this
 simp
end
end
section
open Go.Proofs
def AZ (l:List Fd) (p:AS):a6 Ab 229 [pP (Ub l),pA p] (a7 [(Ap l p).pc,pB (xq l p),pI (tu l p)]):=by
 refine Nb (nt:=32) func229 ?_;refine Rc ?_;refine m9 0 ?_;refine Jb ?_;refine Fb Eu (Fu 16 l) ?_;refine Jb ?_;refine Sc ?_ ?_<;>intro h0
 .refine Wb ?_;refine Db ?_;have he:=K4 (p:=p) h0;exact f9 rfl rfl (⟨aI he.2.1,Vb he.2.2.symm,Sb he.1.symm,Aa⟩)
 refine Eb ?_;refine Fb Hy (Qw p) ?_;refine Cb ?_;refine Kb ?_ ?_<;>intro h1
 .refine Jb ?_;refine Db ?_;have he:=K5 h0 h1;exact f9 rfl rfl (⟨aI he.2.1,Vb he.2.2.symm,Sb he.1.symm,Aa⟩)
 refine Wb ?_;refine Sc ?_ ?_<;>intro h2
 .refine Jb ?_;refine Db ?_;have he:=S3 h0 h1 h2;exact f9 rfl rfl (⟨aI he.2.1,Vb he.2.2.symm,Sb he.1.symm,Aa⟩)
 refine Eb ?_;refine Fb MH (FG l p) ?_;refine Tb ?_;refine m9 1 ?_;refine dg ?_;refine Db ?_;have he:=M4 h0 h1 h2;exact f9 rfl rfl (⟨C3 he.2.1.symm,Vb he.2.2.symm,Sb he.1.symm,Aa⟩)
def D9 (s:AS) (l:List Fd):a6 Ab 160 [pA s,pP (bx (Ub l))] (a7 [pB (gv l s)]):=by
 refine Nb (nt:=13) func160 ?_;refine Wb ?_;refine Fb MH (FG l s) ?_;refine Tb ?_;refine m9 0 ?_;refine MF ?_;exact Ta
def J4 (n:Int) (l:List Fd):a6 Ab 107 [pI n,pP (Ub l)] (a7 [pP (Cd (Om n l)),pI (jg n l 8)]):=by
 refine Nb (nt:=18) func107 ?_;refine Rc ?_;refine m9 2 ?_;refine Wb ?_;refine Fb (Ib func89) (zM n l) ?_;refine Jb ?_;refine Sc ?_ ?_<;>intro h0
 .refine Eh ?_;exact⟨Ob.one (Rv (G4 h0)),Sa,Aa⟩
 refine Cb ?_;have hv:=iq (oE h0).1;refine eg 3 rfl rfl rfl ?_;refine Cb ?_;refine Fb (Ib func90) (wN n hv.1 hv.2.1) ?_;refine Ke DE (OO (ak n)) trivial ?_;refine qy ?_;refine Ke gI ((PG (c7 (ak n)) 160 1 (λi=>[bx (Ub l)].getD i .any) (gv l) (Ib func160) (λs=>D9 s l)).swap 900 901) uu ?_;refine Ef ?_;exact⟨Ob.one (Va (by rw[K7 h0])),Sb h0.symm,Aa⟩
end
section
def xu(l:List Fd)(p z:AS):AS:=(p&&&clo l (z&&&p))&&&~~~z
def mw(l:List Fd)(z p:AS):Bool:=decide (xu l p z≠0)
def Uv (l:List Fd) (ps:List AS):Nat->AS->AS
 |0,z=>z
 | n+1,z=>match ps.find? (mw l z) with
  |none=>z
  |some p=>Uv l ps n (z|||xu l p z)
def Ht(l:List Fd)(ps:List AS)(z:AS):AS:=Uv l ps 4294967297 z
def Ar(l:List Fd)(ps:List AS)(f:Fd):Bool:=decide (sub f.rhs (Ht l ps f.lhs))
def S5(l:List Fd)(p z:AS):bq .andNot .u32 (bq .and .u32 (Hb p) (Hb (clo l (z&&&p)))) (Hb z)=Hb (xu l p z):=by rw[jh,k8];rfl
section
variable {l:List Fd}
def bc5 {p z:AS}:(!decide (Hb (xu l p z)=0))=mw l z p:=by
 unfold mw;rw[show(0:Int)=Hb 0 from rfl,SH];simp
def I0 {z m:AS} (h:m&&&~~~z=m) (h0:m≠0):z.toNat<(z|||m).toNat:=by
 have hs:sub z (z|||m):=ci.2 λi _ hi=>by rw[Rl,hi];rfl
 have hle:=VC hs
 rcases Po hle with h1|h1
 .exact h1
 exfalso;apply h0;have e:z=z|||m:=Qi h1
 apply Tl;intro i hi;have e1:=Da (λs:AS=>s.getLsbD i) e;have e2:=Da (λs:AS=>s.getLsbD i) h;simp only[Rl,Hg,Jl]at e1 e2;have e3:(0:AS).getLsbD i=false:=by simp
 rw[e3];rw[Fa hi]at e2;clear h h0 hs hle h1 e;revert e1 e2;cases z.getLsbD i<;>cases m.getLsbD i<;>simp
def b6e {p z:AS} (h:mw l z p=true):z.toNat<(z|||xu l p z).toNat:=by
 refine I0 ?_ (Ga h);unfold xu;rw[BitVec.and_assoc,BitVec.and_self]
def Yv(l:List Fd)(ps:List AS)(z0:AS)(x:Nat×List Nat×AS):Prop:=Uv l ps x.1 x.2.2=Ht l ps z0/\4294967296<x.1+x.2.2.toNat/\x.2.1.length+x.1=4294967297
def b5n (l:List Fd) (ps:List AS) (z0:AS):Yv l ps z0 (4294967297,[],z0):=by
 refine⟨rfl, ?_, ?_⟩
 .dsimp only;omega
 dsimp only;rw[Nn]
variable {ps:List AS}{x:Nat×List Nat×AS}
def aJ {z0:AS} (h:Yv l ps z0 x):0<x.1:=by
 have:=h.2.1;have:=x.2.2.isLt;omega
def be8{z0:AS}(h:Yv l ps z0 x)(hi:Ee (mw l x.2.2) ps<0):x.2.2=Ht l ps z0:=by
 have hp:=aJ h;rw[<- h.1];obtain⟨n,hn⟩:∃n,x.1=n+1:=⟨x.1-1,by omega⟩;rw[hn];unfold Uv
 have:ps.find? (mw l x.2.2)=none:=by
  have hm:Ee (mw l x.2.2) ps=-1:=by
   by_cases h:Ee (mw l x.2.2) ps=-1
   .exact h
   obtain⟨i,h1,_⟩:=KJ h;omega
  exact QP (bU hm)
 rw[this]
def b54{z0:AS}{i:Nat}(h:Yv l ps z0 x)(hi:i<ps.length)(hv:mw l x.2.2 (ps.getD i default)=true)(hj:∀j,j<i->mw l x.2.2 (ps.getD j default)=false):
 Yv l ps z0 (x.1-1,x.2.1++[i],x.2.2|||xu l (ps.getD i default) x.2.2):=by
 have hp:=aJ h;have hlt:=b6e hv;obtain⟨h1,h2,h3⟩:=h;obtain⟨n,hn⟩:∃n,x.1=n+1:=⟨x.1-1,by omega⟩;refine⟨?_,by dsimp only;omega, ?_⟩
 .rw [<- h1,hn]
  have:ps.find? (mw l x.2.2)=some (ps.getD i default):=NO hi hj hv;show Uv l ps n _=_
  conv=>rhs;unfold Uv
  rw[this]
 dsimp only;rw[Uc,Yk];omega
def da(l:List Fd)(ps:List AS)(i:Nat):List Nat:=(List.range i).filter λj=>!Ar l ps (l.getD j default)
def tz(l:List Fd)(ps:List AS):Bool:=(List.range l.length).all λj=>Ar l ps (l.getD j default)
def qE {i:Nat} (h:Ar l ps (l.getD i default)=false):da l ps (i+1)=da l ps i++[i]:=by
 unfold da;rw[Ak,Ek];simp only[Bk,h,Ls,Ks,Ma,Jn,Mg,Nj,Na]
def gE {i:Nat} (h:Ar l ps (l.getD i default)=true):da l ps (i+1)=da l ps i:=by
 unfold da;rw[Ak,Ek];simp only[Bk,h,Ls,Ks,Ma,Jn,Mg,Nj,Na]
def ayk(l:List Fd)(ps:List AS)(i:Nat):(da l ps i).length<=i:=Nd (So _ _) (by rw[Jm];exact Yb _)
def b2u:decide (((da l ps l.length).length:Int)=0)=tz l ps:=by
 unfold da tz;rw[Ko,Ia,Ze];constructor
 .intro h x hx
  have h0:((List.range l.length).filter λj=>!Ar l ps (l.getD j default))=[]:=Vl Za;rw[pC]at h0;have:=h0 x hx;simpa using this
 intro h;rw[pC.2 λx hx=>(by rw[h x hx];decide)];rfl
def S8{f:Fd}:decide (bq .andNot .u32 (Hb f.rhs) (Hb (Ht l ps f.lhs))=0)=Ar l ps f:=decide_eq_decide.2 pk
def bf0 (l:List Fd):HV.clo 243 2 (λi=>[HV.p (bx (Ub l)), .ptr 1 0].getD i (.p .any))=HV.clo 243 2 (λi=>([HV.p (bx (Ub l)), .ptr 1000 0].getD i (.p .any)).ren (Bn 1000 1)) :=
 Da (HV.clo 243 2) (funext λi=>match i with|0=>rfl|1=>rfl|n+2=>rfl)
end
end
section
open Go.Proofs
def GN (l:List Fd) (p z:AS):a6 Ab 244 [pP (Ub l),pA p,pA z] (a7 [pA (xu l p z)]):=by
 refine Nb (nt:=16) func244 ?_;refine dg ?_;refine rc rfl rfl rfl rfl rfl rfl uo (xx l (z&&&p)) (⟨Sa,Sb (jh _ _),Aa⟩) rfl rfl ?_;refine Dd ?_;exact⟨Sb (S5 l p z),Aa⟩
def H3 (x:AS) (l:List Fd) (z:AS):dn Ab 243 [.one (.p (Ag x)), .one (.p (bx (Ub l))), .one (.ptr 1000 0)] [(1000, .box [.p (Ag z)])] (.v (.one (.p (.raw (.bool (mw l z x)))))) [(1000, .box [.p (Ag z)])] [1000]:=by
 refine Eg (nt:=10) func243 ?_;refine Cc ?_;refine Fb (Ib func244) (GN l x z) ?_;refine Tb ?_;refine Db ?_;exact⟨_,_,rfl,Uf,Jf bc5,uu⟩
def SY(ps:List AS)(l:List Fd)(z:AS):dn Ab 155 [.one (.p (Cd ps)), .one (.clo 243 2 λi=>[HV.p (bx (Ub l)), .ptr 1000 0].getD i (.p .any))] [(1000, .box [.p (Ag z)])] (.v (.one (.p (.raw (.int .i64 (Ee (mw l z) ps)))))) [(1000, .box [.p (Ag z)])] [1000]:=by
 refine Eg (nt:=19) func155 ?_;refine cw ?_;refine cj 0 rfl λhn=>?_;refine Tb ?_;refine c6 (ι:=Unit) kn (kb 1000 km) (λ_i=>⟨[],[]⟩) (λ_i=>Ee (mw l z) ps=-1) ?_ ?_
 ·
  refine Jb ?_;refine aa (ι:=Nat) (ka 0 (ka 1 (ka 7 kn))) (kb 1000 km) (λi=>⟨[(8,some (vI i))],[]⟩) (λi=>i<=ps.length/\(∀j,j<i->mw l z (ps.getD j default)=false)) (λi=>ps.length-i) (0) (⟨Zb _,aw⟩) kk ?_;rintro i ⟨hi,hI⟩;refine Eb ?_;refine Kb ?_ ?_<;>intro h0
  ·
   refine jz ?_;refine Ke (Ib func243) (H3 (ps.getD i default) l z) uu ?_;refine cn ?_;refine We ?_ ?_<;>intro h1
   .refine Eb ?_;refine Db ?_;exact⟨_,_,rfl,Uf,Hd (oi (i:=i) Za hI h1).symm,uu⟩
   refine Eb ?_;refine Rb (i+1) kk ?_;exact⟨by show i+1<=_;omega,al hI (h1)⟩
  refine cg ?_;refine⟨(), ?_, ?_⟩
  .exact p8 λj hj=>hI j Za
  exact kk
 rintro _ hj;refine Mc ?_;refine Db ?_;exact⟨_,_,rfl,Uf,Hd hj.symm,uu⟩
def bct(l:List Fd)(ps:List AS)(z0:AS):a6 Ab 211 [pP (Ub l),pP (Cd ps),pA z0] (a7 [pA (Ht l ps z0),pP .any]):=by
 refine Nb (nt:=30) func211 ?_;refine Rc ?_;refine m9 0 ?_;refine m9 1 ?_;refine Wb ?_;refine eg 3 rfl rfl rfl ?_;refine d9 8 900 true 1 3 (lf iC []) Zc rfl Ya (.inr rfl) rfl ?_;refine aa (ι:=Nat×List Nat×AS) (ka 1 (ka 3 (ka 5 kn))) km (λx=>⟨[(8,some (.v (.one (.ref 900 x.2.1.length))))],[(900,some (.arr true 1 3 x.2.1.length (lf iC x.2.1))),(1,some (.box [.p (Ag x.2.2)]))]⟩) (λx=>Yv l ps z0 x) (λx=>x.1) ((4294967297,[],z0)) (b5n l ps z0) kk ?_;rintro x hx;have hlen:=hx.2.2;have hpos:=aJ hx;refine Eb ?_;refine ke rfl rfl rfl rfl rfl rfl bJ ((SY ps l x.2.2).swap 1000 1) (⟨Ra,bf0 l,Aa⟩) uu rfl rfl ?_;refine Wb ?_;refine Kb ?_ ?_<;>intro h0
 .refine cw ?_;refine b5 8 rfl rfl rfl ?_;refine Eh ?_;exact⟨Sb (Da Hb (be8 hx Za)),Ob.one (Fc.any_of),Aa⟩
 obtain⟨i0,hi0,hi1,hi2,hi3⟩:=KJ (p:=mw l x.2.2) (l:=ps) Za;refine ce ?_;refine rc rfl rfl rfl rfl rfl rfl (Ib func244) (GN l (ps.getD i0 default) x.2.2) (⟨Sa,Ob.one (Va (by rw[hi0];rfl)),Sa,Aa⟩) rfl rfl ?_;refine Jb ?_;refine m9 2 ?_;refine Ed 3 true ?_;refine Cb ?_;refine⟨(x.1-1,x.2.1++[i0],x.2.2|||xu l (ps.getD i0 default) x.2.2), ?_, ?_, ?_⟩
 .exact b54 hx hi1 hi2 hi3
 .dsimp only
  omega
 exact⟨⟨⟨_,rfl,(d6 rfl)⟩,tt⟩,⟨⟨_,rfl,(cr rfl (Va (Da (λz=>PV.raw (.int .i64 z)) hi0)))⟩,⟨_,rfl,⟨Va (Da (λz=>PV.raw (.int .u32 z)) (Dh _ _)),Aa⟩⟩,Aa⟩⟩
def N1 (l:List Fd) (ps:List AS) (z:AS):a6 Ab 159 [pP (Ub l),pP (Cd ps),pA z] (a7 [pA (Ht l ps z)]):=by
 refine Nb (nt:=17) func159 ?_;refine Cc ?_;refine Fb (Ib func211) (bct l ps z) ?_;refine dg ?_;exact Nc rfl rfl rfl Ta
def G3 (l:List Fd) (ps:List AS) (x:Fd):a6 Ab 106 [pP (Ub l),pP (Cd ps),x.pc] (a7 [pB (Ar l ps x)]):=by
 refine Nb (nt:=16) func106 ?_;refine Rc ?_;refine m9 0 ?_;refine ce ?_;refine Fb (Ib func159) (N1 l ps x.lhs) ?_;refine Dd ?_;exact⟨Vb S8,Aa⟩
def rO(l:List Fd)(ps:List AS)(hl:l.length<=16777216):a6 Ab 61 [pP (Ub l),pP (Cd ps)] (a7 [pP (il (da l ps l.length))]):=by
 refine Nb (nt:=26) func61 ?_;refine ce ?_;refine cj 0 rfl λhn=>?_;refine Mb ?_;refine d9 5 900 true 1 3 (lf iC []) Zc rfl Ya (.inr rfl) rfl ?_;refine bz (ka 0 (ka 1 (ka 8 (ka 9 kn)))) km (λi=>⟨[(5,some (.v (.one (.ref 900 (da l ps i).length)))),(10,some (vI i))],[(900,some (.arr true 1 3 (da l ps i).length (lf iC (da l ps i))))]⟩) l.length kk ?_;rintro i hi;have hlen:=ayk l ps i;refine Eb ?_;refine Kb ?_ ?_<;>intro h0
 ·
  refine Wb ?_;refine m9 0 ?_;refine Wb ?_;refine Fb (Ib func106) (G3 l ps (l.getD i default)) ?_;refine Cb ?_;refine aj _ rfl ?_ ?_<;>intro r1
  ·
   have h1:=ct r1;have hq:=ct r1;refine Tb ?_;refine m9 1 ?_;refine Ed 2 true ?_;refine Mb ?_
   first | (refine Rb (i+1) ⟨⟨⟨_, rfl, (d6 (qE Gb))⟩, tt⟩, ⟨⟨_, rfl, (cr (qE Gb) Ra)⟩, trivial⟩⟩ ?_; show i+1<=_; omega)
         |(refine Rb (i+1) ⟨⟨⟨_,rfl,(dy (gE Gb))⟩,tt⟩,⟨⟨_,rfl,(be (gE Gb))⟩,Aa⟩⟩ ?_;show i+1<=_;omega)
  have h1:=cu r1;have hq:=cu r1;refine Eb ?_
  first | (refine Rb (i+1) ⟨⟨⟨_, rfl, (d6 (qE Gb))⟩, tt⟩, ⟨⟨_, rfl, (cr (qE Gb) Ra)⟩, trivial⟩⟩ ?_; show i+1<=_; omega)
        |(refine Rb (i+1) ⟨⟨⟨_,rfl,(dy (gE Gb))⟩,tt⟩,⟨⟨_,rfl,(be (gE Gb))⟩,Aa⟩⟩ ?_;show i+1<=_;omega)
 obtain rfl:i=l.length:=by omega
 refine Mb ?_;refine b5 4 rfl rfl rfl ?_;exact Nc rfl rfl rfl (⟨Ob.one Ra,Aa⟩)
def mN (l:List Fd) (ps:List AS) (hl:l.length<=16777216):a6 Ab 108 [pP (Ub l),pP (Cd ps)] (a7 [pB (tz l ps)]):=by
 refine Nb (nt:=10) func108 ?_;refine Wb ?_;refine Fb (Ib func61) (rO l ps hl) ?_;refine Kc ?_;exact⟨Vb b2u,Aa⟩
end
section
open Go.RowKit
def bt3 (P:Program) (g:FuncId) (caps:List PC) (n:Nat) (xs:Nat->List PC):Prop :=
 ∀ (imm:Dc) (_:vk imm) (us:List Value) (W:World) (l:Nat) (J:Nat->World->Prop),ck imm caps us ->
  (∀i A,J i A->∀b ob,imm b=some ob->A.heap[b]? = some ob) ->
  (∀i A A',J i A->Below A.heap.size A A'->J i A') ->
  (∀i A vs,i<n->J i A->ck imm (xs i) vs->YieldAt (rf none) 0 P l vs.toArray A λe A'=>e=.returned (.bool true)/\J (i+1) A') ->
  J 0 W->CallsIn (rf none) 0 P g (#[.func (.yield l) #[] #[]]++us.toArray) W λe W'=>(∃v,e=.returned v)/\J n W'
section
variable {P:Program}{nt:Nat}{c:Pc}{s:S}{a:Act}{w w0:World}
end
def VM (r:Nat->Nat):List (Nat×Option HR)->List (Nat×Option HR)
 | []=>[]
 |(d,some x)::l=>(d,some (x.ren r))::VM r l
 |(d,none)::l=>(d,none)::VM r l
def rgB (r:Nat->Nat) (T:List (Nat×Option HR)) (o1 o2:List (Nat×a8)) (fx:List Nat):Bool :=
 (fx.all λid=>Nat.ble 1000 (r id))&&((dx o2).all λid=>(wj fx id&&wj (dx o1) id)||(Nat.blt id 1000&&Bo id T))&&(Bt o2).all (wj (dx o2))
def bu6(P:Program)(nt l:Nat)(body:Code)(Q:Qb->Prop)(e:Exit)(st:Qb):Prop:=e=.normal/\HW (ro:=some l) P nt body st λe st=>e=.normal/\Q st
section
variable {P:Program}{E:Xc}{nt:Nat}{ops:Array Oper}{i:Nat}{o:Oper}{Q:Exit->Act->World->Prop}{a:Act}{A:World}{imm:Dc}
def rN(d:Option Tmp)(x:HR)(t:List (Nat×Option HR)):List (Nat×Option HR):=match d with|some d=>(d,some x)::t|none=>t
class Lu (imm:Dc):Prop where
 ok:vk imm
def cI(imm:Dc)(A:World)[ht:Lu imm]:Pc:={ old:=(imm,fg A,(λ_=>undef),(λ_=>none),λ_ _=>undef),imm:=imm,tab:=ht.ok,own:=λ_=>undef,blk:=λ_=>Cg,rows:=λ_ _=>undef }
variable [Lu imm]
structure It (imm:Dc) [Lu imm] (nt:Nat) (t:List (Nat×Option HR)) (a:Act) (A:World):Prop where
 defers:a.defers=[]
 rel:ah A nt (cI imm A) ⟨bo t,λ_=>none⟩ a A
section
variable {t:List (Nat×Option HR)}
theorem It.sub {t':List (Nat×Option HR)} (h:It imm nt t a A) (hs:sn t' t):It imm nt t' a A :=
 ⟨h.defers,h.rel.relax ⟨bo t',λ_=>none⟩ (λd x hx=>sF hs d x hx) (λid ob ho=>by cases ho)⟩
theorem It.move {A':World} (h:It imm nt t a A) (hi:∀b ob,imm b=some ob->A'.heap[b]? = some ob):It imm nt t a A':=by
 refine⟨h.defers,by rw[h.defers];exact vg.nil _ _ _ _,h.rel.size,Below.refl _ _,λd x hx=>?_,(λid ob ho=>by cases ho),(λi i' ob ob' b ho=>by cases ho),hi,(λid ob b ho=>by cases ho),λb _=>rfl,λb ob hb=>hb,(λid ob b ho=>by cases ho),λid _=>.inl rfl⟩;exact ap.evo (c:=cI imm A) (o:=λ_=>none) (Dc.le.refl imm) (λ_ _=>.inl rfl) (h.rel.tmps d x hx)
theorem It.put (h:It imm nt t a A) {d:Option Tmp} (hd:dc nt d=true) (x:HR) (v:Value) (hx:ap (cI imm A) (λ_=>none) x v):It imm nt (rN d x t) (a.put d v) A:=by
 cases d with
 |none=>exact h
 | some d =>
  have:=h.rel.put d (Ga hd) (some x) v (λy hy=>by cases hy;exact hx);refine⟨h.defers, ?_⟩
  have e:(S.put ⟨bo t,λ_=>none⟩ d (some x))=⟨bo ((d,some x)::t),λ_=>none⟩:=by
   unfold S.put;simp[b9]
  rw[e]at this;exact this
def B9(h:It imm nt t a A){x:Operand}{r:HR}(hx:ev ⟨bo t,λ_=>none⟩ x=some r):ap (cI imm A) (λ_=>none) r (a.eval x):=ae h.rel hx
def iy {L:List Nat} {cl:Call} {f:Operand} {l:Nat} {R:World->Prop} (h:It imm nt t a A) (hi:ops[i]? = some o) (hw:b6 ops ⟨bo t,λ_=>none⟩ o=some true) (hd:dc nt o.dst=true) (ho:o.op=.call cl) (hcl:cl.callee=.value f) (hf:ev ⟨bo t,λ_=>none⟩ f=some (bu (.raw (.func (.yield l) #[] #[])))) (hy:YieldAt (rf none) 0 P l (cl.args.toList.map a.eval).toArray A λe A'=>e=.returned (.bool true)/\R A') (him:∀A',R A'->∀b ob,imm b=some ob->A'.heap[b]? = some ob) (hK:∀a' A',R A'->It imm nt (rN o.dst (bu (.raw (.bool true))) t) a' A'->wpOpsIn (rf none) 0 P ops Q L a' A'):wpOpsIn (rf none) 0 P ops Q (i::L) a A:=by
 rw[wpOpsIn_cons];unfold wpOpIn;simp only[hi];rw[Ba (fl h.rel hw)];obtain⟨fn,tmps,assign,body,hyr,hround⟩:=hy;have hfe:a.eval f=.func (.yield l) #[] #[]:=(B9 h hf).1;refine⟨λ_ _=>trivial, ?_⟩;have hsem:Oper.semAt (rf none).round a.eval o=execOp a.eval o:=rfl;rw[hsem];have hma:(cl.args.toList.map a.eval).toArray=cl.args.map a.eval:=by apply Array.toList_inj.1;rw[Mo]
 rw[hma]at hyr
 have hrun:(execOp a.eval o).run P A=.ok (.round l fn tmps assign body) A:=by
  simp only[execOp,ho,resolve,hcl,hfe,Nf,Deferred.ofValue,Mh,Rf,invoke];simpa using hyr
 rw[hrun,Oper.uponIn_round];refine⟨λhh=>Ea hh (by simp[rf]),hround.mono ?_⟩;rintro e A' ⟨rfl,hR⟩;exact hK _ A' hR ((h.move (him A' hR)).put hd (bu (.raw (.bool true))) (.bool true) ⟨rfl,rfl⟩)
end
end
theorem Fc.vp {k k':Nat} {f f':Nat->PV} (hk:k'=k) (hf:∀j,j<k->Fc (f j) (f' j)):Fc (.vp k f) (.vp k' f'):=by
 subst hk;rintro m u ⟨b,off,rfl,h⟩
 exact ⟨b,off,rfl,λj hj=>by
  obtain⟨x,hx,hr⟩:=h j hj
  exact⟨x,hx,hf j hj m x hr⟩⟩
theorem Fc.fn {g:FuncId} {k k':Nat} {f f':Nat->PV} (hk:k'=k) (hf:∀j,j<k->Fc (f j) (f' j)):Fc (.fn g k f) (.fn g k' f'):=by
 subst hk;rintro m u ⟨cs,rfl,hl,h⟩
 exact ⟨cs,rfl,hl,λj hj=>by
  obtain⟨x,hx,hr⟩:=h j hj
  exact⟨x,hx,hf j hj m x hr⟩⟩
def RN (P:Program) (nt:Nat) (ops:Array Oper) (L:List Nat) (st:Qb) (Q:Qb->Prop):Prop :=
 ∀(ro:Option Nat) (n:Nat) w0 m0 a w (QQ:Exit->Act->World->Prop),Sf w0 m0 nt st.den a w->(∀st' a' w',Q st'->Sf w0 m0 nt st'.den a' w'->QQ .normal a' w')->wpOpsIn (rf ro) n P ops QQ L a w
section
variable {P:Program}{E:Xc}{nt:Nat}{ops:Array Oper}{st:Qb}
def JW (hE:dl P E) {ro:Option Nat} {n:Nat} {w0:World} {m0:Wm} {sf:S} {L2:List Nat} {QQ:Exit->Act->World->Prop} (hQ:∀a' w',Sf w0 m0 nt sf a' w'->wpOpsIn (rf ro) n P ops QQ L2 a' w') :
 ∀(T:List Tr) (s:S) (a:Act) (w:World),nf P E nt ops T s sf->Sf w0 m0 nt s a w->wpOpsIn (rf ro) n P ops QQ (T.map (·.i)++L2) a w
 | [],s,a,w,hT,hr=>by
  cases hT;exact hQ _ _ hr
 | t::T,s,a,w,hT,hr=>by
  cases hT with
  |cons hi he hR hO hF hrest =>
  rw[Wh,Ql,wpOpsIn_cons];exact NK hE he hr hi λa' w' hr'=>JW hE hQ T _ a' w' hrest hr'
section
variable {Q:Qb->Prop}
def jy (hE:dl P E) {L1 L2:List Nat} (h:Td P E nt ops L1 st λ_ sf=>RN P nt ops L2 sf Q):RN P nt ops (L1++L2) st Q:=λro n w0 m0 a w QQ hr hQ=>by
 obtain⟨T,sf,hl,hT,h⟩:=h;rw[<- hl];exact JW hE (λa' w' hr'=>h ro n w0 m0 a' w' QQ hr' hQ) T _ a w hT hr
def nu(h:Q st):RN P nt ops [] st Q:=λro n w0 m0 a w QQ hr hQ=>hQ st a w h hr
def OG {L:List Nat} (h:HE nt st λst'=>RN P nt ops L st' Q):RN P nt ops L st Q:=λro n w0 m0 a w QQ hr hQ=>by
 obtain⟨st',h1,h2⟩:=h w0 m0 a w hr;exact h1 ro n w0 m0 a w QQ h2 hQ
def i9 {ro:Option Nat} {Q:Exit->Qb->Prop} {id:Nat} (L1 L2:List Nat) (hl:List.range ops.size=L1++L2) (h:RN P nt ops (L1++L2) st (Q .normal)):HW (ro:=ro) P nt (.region id ops false) st Q:=λw0 m0 a w hr=>by
 refine wpIn_region ?_;rw[hl];exact h ro 0 w0 m0 a w _ hr λst' a' w' hq hr'=>⟨st',hq,hr'⟩
def oH(st1:Qb)(d:Nat)(x:HR)(hs:∀w0 m0 a w,Sf w0 m0 nt st.den a w->∃cc,cc.old=m0/\ah w0 nt cc st1.den a w/\ap cc st1.den.o x (a.tmps.getD d undef))(h:HE nt ⟨(d,some x)::st1.t,st1.o⟩ Q):HE nt st Q:=λw0 m0 a w hr=>by
 obtain⟨cc,hold,Db,hx⟩:=hs w0 m0 a w hr;refine h w0 m0 a w ⟨cc,hold,Db.defers,Db.size,Db.below,λk y hy=>?_,Db.objs,Db.inj,Db.imm,Db.sep,Db.was,Db.frm,Db.fsep,Db.fixed⟩;simp only[Qb.den]at hy;rw[b9]at hy;dsimp only at hy;split at hy
 .rename_i hk
  subst hk;simp only[Bb]at hy;subst hy;exact hx
 exact Db.tmps k y hy
def ayg (d:Nat) {id n n' s:Nat} {wr:Bool} {e:TypeId} {f:Nat->Nat->PV} (hd:bo st.t d=some (.v (.one (.ref id n)))) (ho:bo st.o id=some (.arr wr s e n' f)) (hn:n'=n) (h:HE nt ⟨(d,some (bu (.sl n s false f)))::st.t,(id,none)::st.o⟩ Q):HE nt st Q:=by
 subst hn;refine oH ⟨st.t,(id,none)::st.o⟩ d (bu (.sl n' s false f)) (λw0 m0 a w hr=>?_) h;obtain⟨cc,hold,Db⟩:=hr;refine⟨_, ?_,by rw[w9];exact Db.freeze ho, ?_⟩
 .exact hold
 obtain⟨_,_,h3⟩:=Db.tmps d _ hd;have:=(h3 _ _ _ _ ho rfl).2 rfl;rw[this];exact s8 Db ho
end
end
end
def Qd(ps:List AS):AS:=ps.foldl (·|||·) 0
def kK {ps:List AS} {i:Nat} (h:i<ps.length):Qd (ps.take (i+1))=Qd (ps.take i)|||ps.getD i default:=by
 unfold Qd;rw[au h,Oi];rfl
def P3(n:Int)(l:List Fd)(ps:List AS):Bool:=decide (Qd ps=ak n)&&tz l ps&&ps.any (p9 n l)
def J2(n:Int)(l:List Fd)(ps:List AS)(s:AS):List AS:=if P3 n l (ps.eraseIdx (Ee (λx=>decide (x=s)) ps).toNat)=true then ps.eraseIdx (Ee (λx=>decide (x=s)) ps).toNat else ps
def UG (n:Int) (l:List Fd) (p0:List AS):Nat->List AS
 |0=>p0
 |i+1=>J2 n l (UG n l p0 i) (p0.getD (p0.length-1-i) default)
def zn(n:Int)(l:List Fd):Bool:=tz l (Om n l)
def aH(n:Int)(l:List Fd):List AS:=if jg n l 8=0/\zn n l=true then UG n l (Ts (Om n l)) (Ts (Om n l)).length else[]
def ZC(n:Int)(l:List Fd):Bool:=decide (jg n l 8=0)&&zn n l
def T4{n:Int}{l:List Fd}(h:zn n l=false):aH n l=[]/\ZC n l=false:=⟨Ca (λe=>(by rw[h]at e;exact Ea e.2 Ec)),by unfold ZC;rw[h];simp⟩
def bsu(n:Int)(l:List Fd)(p0:List AS)(i:Nat)(ps:List AS):Prop:=ps=UG n l p0 i/\ps.length<=p0.length/\∀j,j<p0.length-i->p0.getD j default∈ps
def HM(n:Int)(l:List Fd):Option Fd:=(Tn n l).find? λf=>!Ar l (Om n l) f
def btt(n:Int)(l:List Fd):Int:=if jg n l 8=0 then(match HM n l with|some _=>0|none=>4)else jg n l 8
def btl(n:Int)(l:List Fd):Fd:=if jg n l 8=0 then(match HM n l with|some f=>f|none=>⟨0,0⟩) else⟨0,0⟩
section
section
variable {l:List Fd}
def b24 {s:AS} (h:gv l s=true):∃x,zA l s=some x/\sub x s/\ss l s x=true:=by
 unfold gv at h;obtain⟨x,hx⟩:=Option.isSome_iff_exists.1 h;refine⟨x,hx, ?_,Xu hx⟩;have hm:=Pz hx;unfold c7 at hm;split at hm
 .cases hm
 exact AF.1 hm
def BV{a s:AS}(h:sub a s)(hne:a≠s):Kd a<Kd s:=by
 rcases Po (bcy h)with h1|h1
 .exact h1
 exfalso;apply hne
 have hs:(am a).Sublist (am s):=by
  have:am a=(am s).filter λi=>a.getLsbD i:=by
   unfold am;rw[List.filter_filter];apply List.filter_congr;intro i hi;rw[Fe]at hi
   cases ha:a.getLsbD i with
   |false=>rfl
   |true=>rw[ci.1 h i hi ha];rfl
  rw[this];exact List.filter_sublist
 rw[uF,uF]at h1;have he:=hs.eq_of_length h1;refine j3 h (ci.2 λi hi hb=>?_);have:i∈am s:=od.2 ⟨hi,hb⟩;rw[<- he]at this;exact(od.1 this).2
def Tk(l:List Fd)(s:AS):AS:=(mo l s).lhs|||(mo l s).rhs
def Cl(l:List Fd)(s:AS):AS:=s&&&~~~(mo l s).rhs
def aL{a b:AS}:sub (a&&&b) b:=ci.2 λi hi h=>by rw[Hg,Od]at h;exact h.2
def y6{a b:AS}:sub (a&&&b) a:=ci.2 λi hi h=>by rw[Hg,Od]at h;exact h.1
def TW{a b c:AS}(h:sub a b)(k:sub a c):sub a (b&&&c):=ci.2 λi hi ha=>by rw[Hg,ci.1 h i hi ha,ci.1 k i hi ha];rfl
def b6b {s:AS} (h:gv l s=true):sub (Tk l s) s/\Tk l s≠s/\sub (Cl l s) s/\Cl l s≠s:=by
 obtain⟨x,hx,hs,hv⟩:=b24 h;unfold ss at hv;rw[Od,Ia,Ia]at hv;have e:mo l s=KC l s x:=by unfold mo;rw[hx]
 have hxc:sub x (clo l x&&&s):=TW sD hs
 have ea:Tk l s=clo l x&&&s:=by
  unfold Tk;rw[e];apply j3
  .exact Cy hxc y6
  refine ci.2 λi hi hb=>?_;show(x|||((clo l x&&&s)&&&~~~x)).getLsbD i=true;rw[Rl,Hg,Jl,hb,Fa hi];cases x.getLsbD i<;>rfl
 refine⟨ea▸aL,ea▸hv.2,y6,λeb=>hv.1 ?_⟩;unfold Cl at eb;rw[e]at eb;refine j3 (ci.2 λi hi hb=>?_) hxc;have hsi:s.getLsbD i=true:=ci.1 aL i hi hb;have h2:=Da (λz:AS=>z.getLsbD i) eb
 have h3:(KC l s x).rhs.getLsbD i=!x.getLsbD i:=by
  show((clo l x&&&s)&&&~~~x).getLsbD i=_;rw[Hg,hb,Jl,Fa hi];rfl
 simp only[Hg,Jl,Fa hi,hsi,h3,Aj,Bool.not_not]at h2;exact h2
def Gt (l:List Fd):Nat->List AS->List AS->List AS
 |0,_,out=>out
 | n+1,todo,out =>
  if todo.length=0 then out
  else if gv l (todo.getD (todo.length-1) default)=true then Gt l n (todo.take (todo.length-1)++[Tk l (todo.getD (todo.length-1) default),Cl l (todo.getD (todo.length-1) default)]) out
  else Gt l n (todo.take (todo.length-1)) (out++[todo.getD (todo.length-1) default])
def OC(n:Int)(l:List Fd):List AS:=Gt l 6562 [ak n] []
def gA(n:Int)(l:List Fd):List AS:=if jg n l 8=0 then Ts (OC n l) else[]
variable {n:Int}
def G5(h:jg n l 8=0):gA n l=Ts (OC n l):=Ba h
def Q5(h:¬jg n l 8=0):gA n l=[]:=Ca h
def sg(todo:List AS):Nat:=(todo.map λs=>3^Kd s).sum
def dK(a b:List AS):sg (a++b)=sg a+sg b:=by unfold sg;rw[Mi,List.sum_append]
def HS:∀todo:List AS,todo.length<=sg todo
 | []=>Zb _
 | s::t=>by
  have h1:=HS t;have h2:0<3^Kd s:=Nat.pow_pos Za;have e:sg (s::t)=3^Kd s+sg t:=by unfold sg;rw[Wh,List.sum_cons]
  rw[Zf,e];omega
def qV {todo:List AS} (h:0<todo.length):todo=todo.take (todo.length-1)++[todo.getD (todo.length-1) default]:=by
 have:=au (l:=todo) (q:=todo.length-1) Za;rw[show todo.length-1+1=todo.length by omega,Id]at this;exact this
def Vq(n:Int)(l:List Fd)(x:Nat×List AS×List AS):Prop:=Gt l x.1 x.2.1 x.2.2=OC n l/\sg x.2.1<x.1/\x.2.2.length+x.1<=6562
def b25{k:Nat}(h:k<=32):Kd (l4 k)<=k:=by
 unfold Kd
 have e:(List.range 32).countP (λi=>(l4 k).getLsbD i)=(List.range 32).countP λi=>decide (i<k):=by
  apply List.countP_congr;intro i hi;rw[Fe]at hi;rw[oe k i hi]
 have h2:∀m,(List.range m).countP (λi=>decide (i<k))<=k/\(List.range m).countP (λi=>decide (i<k))<=m:=by
  intro m
  induction m with
  |zero=>simp
  | succ m ih =>
   rw[Ak,List.countP_append];simp only[Lo,List.countP_nil];by_cases hm:m<k
   .rw[Ba (Fa hm)];omega
   rw[Ca (by simpa using hm)];omega
 rw[e];exact(h2 32).1
def b5h {m:Nat} (h:n<=m) (hm:m<=32):Kd (ak n)<=m:=by
 unfold ak;exact Nd (b25 (Nat.min_le_right _ _)) Za
def b5o (h:jg n l 8=0):Vq n l (6562,[ak n],[]):=by
 refine⟨rfl, ?_,Yb _⟩;show 3^Kd (ak n)+0<6562;have h1:=b5h (n:=n) (m:=8) (oE h).2 Za;have h2:3^Kd (ak n)<=3^8:=Gv Za h1;have h3:3^8=6561:=rfl;omega
variable {x:Nat×List AS×List AS}
def pE (h:Vq n l x):x.2.1.length<6562/\x.2.2.length<=6562/\0<x.1:=by
 have:=HS x.2.1;obtain⟨h1,h2,h3⟩:=h;omega
def bc9 (h:Vq n l x) (h0:x.2.1.length=0):x.2.2=OC n l:=by
 have hp:=(pE h).2.2;obtain⟨h1,h2,h3⟩:=h;obtain⟨m,hm⟩:∃m,x.1=m+1:=⟨x.1-1,by omega⟩;rw[hm]at h1;unfold Gt at h1;rw[Ba h0]at h1;exact h1
def GO (h:Vq n l x) (h0:0<x.2.1.length) (hv:gv l (x.2.1.getD (x.2.1.length-1) default)=true):
 Vq n l (x.1-1,x.2.1.take (x.2.1.length-1)++[Tk l (x.2.1.getD (x.2.1.length-1) default),Cl l (x.2.1.getD (x.2.1.length-1) default)],x.2.2):=by
 have hp:=(pE h).2.2;obtain⟨h1,h2,h3⟩:=h;obtain⟨m,hm⟩:∃m,x.1=m+1:=⟨x.1-1,by omega⟩;rw[hm]at h1;unfold Gt at h1;rw[Ca Za,Ba hv]at h1;refine⟨by rw[hm];exact h1, ?_,by dsimp only;omega⟩;have e:=dK (x.2.1.take (x.2.1.length-1)) [x.2.1.getD (x.2.1.length-1) default];rw[<- qV h0]at e;have e1:sg [x.2.1.getD (x.2.1.length-1) default]=3^Kd (x.2.1.getD (x.2.1.length-1) default):=by simp[sg]
 generalize x.2.1.getD (x.2.1.length-1) default=s at *;dsimp only;rw[dK];have e2:sg [Tk l s,Cl l s]=3^Kd (Tk l s)+3^Kd (Cl l s):=by simp[sg]
 obtain⟨f1,f2,f3,f4⟩:=b6b hv;have g1:=BV f1 f2;have g2:=BV f3 f4;obtain⟨b,hb⟩:∃b,Kd s=b+1:=⟨Kd s-1,by omega⟩;have p1:3^Kd (Tk l s)<=3^b:=Gv Za Za;have p2:3^Kd (Cl l s)<=3^b:=Gv Za Za;have p3:3^Kd s=3^b*3:=by rw[hb,Nat.pow_succ]
 have p4:0<3^b:=Nat.pow_pos Za;omega
def jO (h:Vq n l x) (h0:0<x.2.1.length) (hv:gv l (x.2.1.getD (x.2.1.length-1) default)=false):
 Vq n l (x.1-1,x.2.1.take (x.2.1.length-1),x.2.2++[x.2.1.getD (x.2.1.length-1) default]):=by
 have hp:=(pE h).2.2;obtain⟨h1,h2,h3⟩:=h;obtain⟨m,hm⟩:∃m,x.1=m+1:=⟨x.1-1,by omega⟩;rw[hm]at h1;unfold Gt at h1;rw[Ca Za,Ca (by rw[hv];decide)]at h1;refine⟨by rw[hm];exact h1, ?_,by dsimp only;rw[Uc,Yk];omega⟩;have e:=dK (x.2.1.take (x.2.1.length-1)) [x.2.1.getD (x.2.1.length-1) default];rw[<- qV h0]at e;have e1:sg [x.2.1.getD (x.2.1.length-1) default]=3^Kd (x.2.1.getD (x.2.1.length-1) default):=by simp[sg]
 have p4:0<3^Kd (x.2.1.getD (x.2.1.length-1) default):=Nat.pow_pos Za;dsimp only;omega
def jR{α:Type}[Inhabited α]{wr wr':Bool}{n m:Nat}{e:TypeId}{c:α->Nat->PV}{l:List α}{x y:α}{f g:Nat->Nat->PV}(hn:n=l.length)(hf:∀i,i<l.length->Fc (f i 0) (lf c l i 0))(h0:Fc (g 0 0) (c x 0))(h1:Fc (g 1 0) (c y 0))(hm:m=n+2)(hw:wr'=true->wr=true:=by exactλh=>h) :
 Ic (.arr wr 1 e m (ek n f g)) (.arr wr' 1 e (l++[x,y]).length (lf c (l++[x,y]))):=by
 subst hn hm;refine⟨hw,rfl,rfl,by simp,λi j hi hj=>?_⟩;obtain rfl:j=0:=by omega
 unfold ek;by_cases h:i<l.length
 .rw [Ba h]
  have:=hf i h;simp only[lf,List.getD,Ul h]at this ⊢;exact this
 rw[Ca h]
 rcases(by omega:i=l.length\/i=l.length+1)with rfl|rfl
 .rw [Dq]
  simp only[lf,List.getD];rw[Jk (Yb _),Dq];exact h0
 rw[show l.length+1-l.length=1 by omega];simp only[lf,List.getD];rw[Jk Za,show l.length+1-l.length=1 by omega];exact h1
def QT {α:Type} [Inhabited α] {wr wr':Bool} {k m:Nat} {e:TypeId} {c:α->Nat->PV} {l:List α} (hk:k<=l.length) (hm:m=k) (hw:wr'=true->wr=true:=by exactλh=>h):Ic (.arr wr 1 e m (lf c l)) (.arr wr' 1 e (l.take k).length (lf c (l.take k))):=by
 subst hm;refine⟨hw,rfl,rfl,by rw[Ae,Gi hk],λi j hi hj=>Va ?_⟩;simp only[lf,List.getD,Ih,Ba hi]
def WN{s:AS}:PV.raw (.int .u32 (bq .or .u32 (Hb (mo l s).lhs) (Hb (mo l s).rhs)))=sC (Tk l s) 0:=Da (λz=>PV.raw (.int .u32 z)) (Dh _ _)
def xN {t:List AS} {i j:Nat} (h:i=j):PV.raw (.int .u32 (bq .andNot .u32 (Hb (t.getD i default)) (Hb (mo l (t.getD j default)).rhs)))=sC (Cl l (t.getD j default)) 0:=by
 subst h;exact Da (λz=>PV.raw (.int .u32 z)) (k8 _ _)
def RS {l:List AS} {k i:Nat} (hi:i<(l.take k).length):lf sC l i 0=lf sC (l.take k) i 0:=by
 rw[Ae]at hi;simp only[lf,List.getD,Ih,Ba (show i<k by omega)]
end
end
section
open Go.Proofs
def Vu{p:Prop}(h:p:=by simp only[ep,bh,Uc,Zf,Nn,Ae];omega):p:=h
def WX(n:Int)(l:List Fd):a6 Ab 51 [pI n,pP (Ub l)] (a7 [pP (Cd (gA n l)),pI (jg n l 8)]):=by
 refine Nb (nt:=60) func51 ?_;refine ce ?_;refine Fb (Ib func89) (zM n l) ?_;refine Jb ?_;refine Sc ?_ ?_<;>intro h0
 .refine Eh ?_;exact⟨Ob.one (Rv (Q5 h0)),Sa,Aa⟩
 refine Cb ?_;have hv:=iq (oE h0).1;refine Jb ?_;refine Fb (Ib func90) (wN n hv.1 hv.2.1) ?_;refine m9 0 ?_;refine Tb ?_;refine d9 7 900 true 1 48 (lf sC []) Zc rfl Ya (.inr rfl) rfl ?_;refine yc 8 901 rfl rfl rfl rfl ?_;refine aa (ι:=Nat×List AS×List AS) (ka 1 kn) km (λx=>⟨[(7,some (.v (.one (.ref 900 x.2.2.length)))),(8,some (.v (.one (.ref 901 x.2.1.length))))],[(900,some (.arr true 1 48 x.2.2.length (lf sC x.2.2))),(901,some (.arr true 1 48 x.2.1.length (lf sC x.2.1)))]⟩) (λx=>Vq n l x) (λx=>x.1) ((6562,[ak n],[])) (b5o h0) ⟨tt,⟨u9,⟨_,rfl,(lj Ra)⟩,Aa⟩⟩ ?_;rintro x hx;have hlen:=pE hx;refine yc 8 902 rfl rfl rfl rfl ?_;refine Jb ?_;refine Kb ?_ ?_<;>intro h1
 ·
  refine Nv ?_;refine pF ⟨[(1,some _),(7,some _),(8,some _),(9,some _)],[(900,some _),(902,some _)]⟩ (by exact kk) ?_;refine yT 8 901 rfl rfl rfl rfl (by simp only[ep,bh,Qe];omega) rfl ?_;refine Mc ?_;refine rc rfl rfl rfl rfl rfl rfl MH (FG l (x.2.1.getD (x.2.1.length-1) default)) (⟨Sa,Ob.one (Va (Da (λi=>Ag (x.2.1.getD i default)) Za)),Aa⟩) rfl rfl ?_;refine Tb ?_;refine m9 1 ?_;refine Jb ?_;refine We ?_ ?_<;>intro h2
  ·
   refine dg ?_;refine m9 2 ?_;refine Ed 3 true ?_;refine Cb ?_
   first | (refine ⟨(x.1-1, (x.2.1.take (x.2.1.length-1))++[Tk l (x.2.1.getD (x.2.1.length-1) default), Cl l (x.2.1.getD (x.2.1.length-1) default)], x.2.2), ?_, ?_, ?_⟩
            .exact GO hx Za Gb
            .dsimp only
             omega
            exact⟨⟨zy,⟨_,rfl,(ey Vu)⟩,tt⟩,⟨u9,⟨_,rfl,(jR Vu (λi hi=>Va (RS hi)) (Va WN) (Va (xN Za)) rfl)⟩,Aa⟩⟩)
         | (refine ⟨(x.1-1,(x.2.1.take (x.2.1.length-1)),x.2.2++[(x.2.1.getD (x.2.1.length-1) default)]), ?_, ?_, ?_⟩
            .exact jO hx Za Gb
            .dsimp only
             omega
            exact⟨⟨⟨_,rfl,(d6 rfl)⟩,⟨_,rfl,(ey Vu)⟩,tt⟩,⟨⟨_,rfl,(cr rfl (Va (Da (λi=>Ag (x.2.1.getD i default)) Za)))⟩,⟨_,rfl,(QT Za (by simp only[ep,bh];omega))⟩,Aa⟩⟩)
  refine Tb ?_;refine m9 4 ?_;refine Ed 5 true ?_;refine Cb ?_
  first | (refine ⟨(x.1-1, (x.2.1.take (x.2.1.length-1))++[Tk l (x.2.1.getD (x.2.1.length-1) default), Cl l (x.2.1.getD (x.2.1.length-1) default)], x.2.2), ?_, ?_, ?_⟩
           .exact GO hx Za Gb
           .dsimp only
            omega
           exact⟨⟨zy,⟨_,rfl,(ey Vu)⟩,tt⟩,⟨u9,⟨_,rfl,(jR Vu (λi hi=>Va (RS hi)) (Va WN) (Va (xN Za)) rfl)⟩,Aa⟩⟩)
        | (refine ⟨(x.1-1,(x.2.1.take (x.2.1.length-1)),x.2.2++[(x.2.1.getD (x.2.1.length-1) default)]), ?_, ?_, ?_⟩
           .exact jO hx Za Gb
           .dsimp only
            omega
           exact⟨⟨⟨_,rfl,(d6 rfl)⟩,⟨_,rfl,(ey Vu)⟩,tt⟩,⟨⟨_,rfl,(cr rfl (Va (Da (λi=>Ag (x.2.1.getD i default)) Za)))⟩,⟨_,rfl,(QT Za (by simp only[ep,bh];omega))⟩,Aa⟩⟩)
 refine Cb ?_;refine b5 7 rfl rfl rfl ?_;have hx0:x.2.1.length=0:=by omega
 refine Cb ?_;refine Fb (Ib func88) (dU x.2.2 Za) ?_;refine Ef ?_;exact⟨Ob.one (Va (by rw[G5 h0,bc9 hx hx0])),Sb h0.symm,Aa⟩
def bs8:List Fd:=[⟨1,2⟩,⟨2,4⟩]
def bsi:List Fd:=[⟨3,4⟩,⟨4,1⟩]
end
section
open Go.Proofs
def w1(l:List Fd)(p:AS):Int:=if br 16 l=0/\(8:Int)<Kd p then 3 else br 16 l
section
variable {l:List Fd}{p:AS}
end
section
variable {n:Int}{l:List Fd}
end
end
end Go.Hx

/- A part of the proof: SrZ Ch5 X6 X7 X8 Ch6 X9 X10 Ch7 X11 Ch8 X12 Ch9 X13 Ch10 X14 Ch11 Ch12 Ch13 X15 Ch14 Ch17 X20 Ch18 X21 X22 X23 Ch19 X24 Ch20. -/
import Derived.Shelf.SlSortCmp.NoneTotal
import Derived.Test.YtcepfnkhagkdeaaGreatDoorUx12
import Derived.Test.YtcepfnkhagkdeaaGreatDoorUx13
set_option linter.all false
open Go.Proofs.Tryz
set_option maxRecDepth 100000
set_option maxHeartbeats 1000000
namespace Go.Hx
section
open Go.Proofs Go.RowKit Go.Sort
section
variable {w:World}
def aru{w':World}(h:Below w.heap.size w w'):∃q os,w'=grow (w.drewN q) os:=by
 refine⟨w'.drawn-w.drawn,w'.heap.extract w.heap.size w'.heap.size, ?_⟩;have hd:=h.drawn;obtain⟨h1,h2,h3,h4,h5,_⟩:=h
 cases w with
 |mk hp tp dr os out =>
 cases w' with
 |mk hp' tp' dr' os' out' =>
 dsimp only at *;subst h1 h2 h3;unfold grow World.drewN;simp only[World.mk.injEq,true_and,and_true];refine⟨?_,by omega⟩;apply Array.ext_getElem?;intro k;rw[Array.getElem?_append];by_cases hk:k<hp.size
 .rw[Ba hk,h5 k hk]
 rw[Ca hk,Array.getElem?_extract];by_cases hk2:k<hp'.size
 .rw [Ba Za]
  congr 1;omega
 rw[Ca Za,Rs Za]
variable {os:Array Obj}{α:Type}{d:Array α}{enc:α->Value}
def arq [Inhabited α] {g m:Nat} {cur:Array Value} {e:TypeId} {fr:Nat×Nat} (h:w.heap[g]? = some (.cells cur e fr)):
 (sortWorld enc w g 0 m d os).heap[g]? = some (.cells (putCells enc 0 d cur) e fr):=by
 have hlt:=(Le.1 h).1;unfold sortWorld;rw[heap_grow_old _ _ (by simpa using hlt)];unfold putRow mapBlock;simp only[heap_ahead,Qs,Ma,h];rfl
def EL [Inhabited α] {g m:Nat} {b:Nat} (hb:b<w.heap.size) (hne:b≠g):(sortWorld enc w g 0 m d os).heap[b]? = w.heap[b]?:=by
 unfold sortWorld;rw[heap_grow_old _ _ (by simpa using hb)];unfold putRow mapBlock;simp only[heap_ahead,Qs,Ca (Ne.symm hne)]
def arm [Inhabited α] {g m:Nat}:Below 0 w (sortWorld enc w g 0 m d os) :=
 ⟨rfl,rfl,rfl,by unfold sortWorld;simp,λk hk=>Ea hk (Ud k),by unfold sortWorld grow;simp⟩
def azt[Inhabited α]{cur:Array Value}(h:d.size<=cur.size):(putCells enc 0 d cur).toList.take d.size=d.toList.map enc:=by
 apply No;intro k;rw[Ih,Pe,To,To];by_cases hk:k<d.size
 .rw [Ba hk]
  unfold putCells;rw[Array.getElem?_mapIdx,Km Za,Km hk];simp only[Vf,Oe,Ho];rw[Ba ⟨Zb _,hk⟩,getElem!_pos d k hk]
 rw[Ca hk,Rs Za];rfl
def awy{P:Program}{ρ:Go.Shelf.Ren}{β:Type}[Inhabited β](L:SlLaysF.n6 P ρ)(pc:β->PV)(h1:∀imm x v,aq imm (pc x) v->v.oneCell'=true)(cf:β->β->Int)(hO:SWO (ltOf cf))(hT:∀x y,(ltOf cf) x y=false->(ltOf cf) y x=false->x=y)
 (g:Nat) (caps:Nat->PV) (hg:∀args w,(callFunc g args).run P w=.ok (.enter g args) w) (hc:∀x y,a6 P g [.one (pc x), .one (pc y)] (a7 [.one (.raw (.int .i64 (cf x y)))])) (id:Nat) (e:TypeId) (l:List β) (hsz:l.length<=8589934592) :
 dn P (ρ.f 6) [.one (.ref id l.length), .one (.p (.fn g 0 caps))] [(id, .arr true 1 e l.length (lf (λx _=>pc x) l))] (.tup [])
  [(id, .arr true 1 e l.length (lf (λx _=>pc x) (l.mergeSort λx y=>!(ltOf cf) y x)))] [id]:=by
 intro w c us hM hus
 match us,hus with
 | [u,v],⟨hu,hv,_⟩ =>
  obtain⟨cs,rfl,hcl,_⟩:=hv;have hcs:cs=[]:=Vl hcl;subst hcs;have hl1:lk [(id,a8.arr true 1 e l.length (lf (λx _=>pc x) l))] id=some (.arr true 1 e l.length (lf (λx _=>pc x) l)):=by simp[lk]
  have hu2:=(hu.2.2 _ _ _ _ hl1 rfl).2 rfl;subst hu2;have hob:=hM.objs id _ hl1;obtain⟨h0,hmax,h5⟩:=hob;have hlen:(l.mergeSort λx y=>!(ltOf cf) y x).length=l.length:=Kz _
  have hev:∀f':Nat->Nat->PV,Vc c (lk [(id,a8.arr true 1 e l.length (lf (λx _=>pc x) l))]) c (lk [(id,a8.arr true 1 e l.length f')]) id:=λf' =>
   .inr (.inr ⟨_, .arr true 1 e l.length f',1,e,l.length,l.length,hl1,rfl,by simp[lk],rfl,Yb _,λ_=>rfl,λ_ _ _ _ _ _ _ h=>by cases h⟩)
  rcases Mj l.length with hz|hpos
  ·
   have hl:l=[]:=Vl hz;subst hl
   have hform:∃ad cap,c.own id=.slice ad 0 cap:=by
    rcases h5 with⟨_,xs,h2,_⟩|⟨_,_,ad,cap,hv,_⟩
    .rcases h2.2 with⟨hv,_⟩|⟨g,cap,cur,hv,_⟩
     .exact⟨none,0,hv⟩
     exact⟨_,cap,hv⟩
    exact⟨ad,cap,hv⟩
   obtain⟨ad,cap,hown⟩:=hform;have hms:([]:List β).mergeSort (λx y=>!(ltOf cf) y x)=[]:=by simp
   rw[hown,hms];refine(AnyF.slices_SortFunc_none { L with } ad cap (.func (.func g) #[] #[]) w).mono ?_;rintro e' w' ⟨rfl,rfl⟩
   exact ⟨_,c,rfl,⟨[],rfl,Aa⟩,hM,Below.refl _ _,λ_ _ _=>⟨rfl,rfl⟩,λid0 ob b ho hb=>.inr ⟨id0,ob,ho,hb⟩,λid0 hid=>by
    rw[Bf.1 hid]
    exact Vc.refl _ _ _⟩
  obtain ⟨h6,xs,h2,h4⟩:c.blk id=fq (c.own id)/\∃xs,w.ownsRow 0 e 1 (c.own id) l.length xs/\∀i j,i<l.length->j<1->∃x,xs[i*1+j]? = some x/\aq c.imm (lf (λx _=>pc x) l i j) x:=by
   rcases h5 with h5|⟨h6|h6,_⟩
   .exact h5
   .cases h6
   omega
  obtain⟨hxl,hrow⟩:=h2
  rcases hrow with⟨_,hz⟩|⟨b,cap,cur,hown,hbase,hheap,hnc,hcm,hcs,htake⟩
  .omega
  have hblk:c.blk id b:=by rw[h6,hown];rfl
  have hlt:b<w.heap.size:=(Le.1 hheap).1
  have hval:∀i,i<l.length->∃x,cur[i]? = some x/\aq c.imm (pc (l.getD i default)) x:=λi hi=>by
   obtain⟨x,hx,hr⟩:=h4 i 0 hi Za;rw[Zj,Fi,<- htake,Ih,Ba Za,To]at hx;exact⟨x,hx,hr⟩
  let A:={ p:β×Value // aq c.imm (pc p.1) p.2 }
  let enc:A->Value:=λp=>p.1.2
  let fst:A->β:=λp=>p.1.1
  let cf':A->A->Int:=λp q=>cf (fst p) (fst q)
  have hO':SWO (ltOf cf'):=⟨λx=>hO.irrefl _,λx y z=>hO.trans _ _ _,λx y z=>hO.ntrans _ _ _⟩
  obtain ⟨d,hds,hdv⟩:∃d:Array A,d.size=l.length/\∀i,(hi:i<d.size)->cur[i]? = some (enc d[i])/\fst d[i]=l.getD i default:=by
   refine⟨Array.ofFn (n:=l.length) λi=>⟨(l.getD i default,(hval i i.2).choose),(hval i i.2).choose_spec.2⟩,by simp,λi hi=>?_⟩;rw[Array.getElem_ofFn];exact⟨(hval i (by simpa using hi)).choose_spec.1,rfl⟩
  have hd0:0<d.size:=by omega
  haveI:Inhabited A:=⟨d[0]⟩;have hen:∀x:A,(enc x).oneCell'=true:=λx=>h1 _ _ _ x.2
  have hH:Holds enc w b 0 d:=λj hj=>by
   rw[Oe];refine⟨?_,by simp[World.frozen?,hheap]⟩;rw[getElem!_pos d j hj];simp[World.cell?,hheap,(hdv j hj).1]
  have hcmp:CmpLays1 P g #[] enc cf' b 0 d.size w:=by
   intro m os dk hdk x y
   have hcimm:∀b' ob,c.imm b'=some ob->(sortWorld enc w b 0 m dk os).heap[b']? = some ob:=λb' ob hb'=>by
    have hne:b'≠b:=λhe=>by
     have:=hM.sep id _ b hl1 hblk;rw[<- he,hb']at this;cases this
    have hw:=hM.imm b' ob hb';rw[EL (Le.1 hw).1 hne];exact hw
   have h:=hc (fst x) (fst y) (sortWorld enc w b 0 m dk os) c.imm [enc x,enc y] c.tab hcimm ⟨x.2,y.2,Aa⟩;refine h.mono ?_;rintro e' w' ⟨v,imm',rfl,hr,_,_,hb⟩;obtain⟨q,os',hq⟩:=aru hb;exact⟨by rw[hr.1],q,os',hq⟩
  have hS:=Any.slices_SortFunc L enc hen cf' hO' g #[] b 0 cap d w hg hcmp hH hlt Za;rw[hds]at hS;rw[hown];refine Calls.mono hS ?_;rintro e' w' ⟨rfl,d',m,os,hperm,hsorted,rfl⟩;have hsz':d'.size=l.length:=by rw[hperm.1,hds]
  obtain ⟨S,hSl,hSp⟩:∃S:List A,S=d'.toList/\S.map fst=l.mergeSort λx y=>!(ltOf cf) y x:=by
   refine⟨_,rfl, ?_⟩
   have hp:(d'.toList.map fst).Perm l:=by
    obtain⟨_,_,hp⟩:=hperm;have e1:d'.extract 0 l.length=d':=by rw[<- hsz'];exact Array.extract_size
    have e2:d.extract 0 l.length=d:=by rw[<- hds];exact Array.extract_size
    rw[e1,e2]at hp;refine(hp.map fst).trans ?_
    have:d.toList.map fst=l:=by
     refine ny (by simp[hds]) λj hj=>?_;have hj:j<d.size:=by simpa using hj
     rw[<- (hdv j hj).2,Oc,Pe,To,Km hj];rfl
    rw[this]
   refine List.Perm.eq_of_pairwise (le:=λx y=>(!(ltOf cf) y x)=true) ?_ ?_ ?_ (hp.trans (List.mergeSort_perm _ _).symm)
   .intro a b _ _ h1 h2
    simp only[Nh]at h1 h2;exact hT a b h2 h1
   .rw [Av,Zk]
    intro i j hi hj hij;have hi':i<d'.size:=by simpa using hi
    have hj':j<d'.size:=by simpa using hj
    have:=hsorted i j (Zb _) hij Za;rw[getElem!_pos d' j hj',getElem!_pos d' i hi']at this;simp only[Array.getElem_toList,Nh];exact this
   refine Iv ?_ ?_ _
   .intro a b c h1 h2
    simp only[Nh]at h1 h2 ⊢;exact hO.ntrans c b a h2 h1
   intro a b
   cases h:(ltOf cf) b a with
   |false=>simp
   |true=>simp[hO.asymmA h]
  obtain rfl:d'=S.toArray:=by rw[hSl]
  rw[<- hSp]at hlen ⊢;rw[Yd]at hlen
  refine ⟨_,c,rfl,⟨[],rfl,Aa⟩,⟨λid0 ob ho=>?_,λid0 id1 ob0 ob1 b' ho0 ho1 _ _=>(fu ho0).1.trans (fu ho1).1.symm,λb' ob hb'=>?_,λid0 ob b' ho hb'=>?_⟩,arm,
   λb' hb' hno=>⟨EL hb' (λhe=>hno id _ hl1 (by rw[he];exact hblk)),rfl⟩,λid0 ob b' ho hb'=>.inr ⟨id,_,hl1,by rw[<- (fu ho).1];exact hb'⟩,λid0 hid=>by
    rw[Bf.1 hid]
    exact hev _⟩
  .obtain ⟨rfl,rfl⟩:=fu ho
   refine⟨h0,hmax, .inl ⟨h6,S.map enc,⟨by simp[hlen], .inr ⟨b,cap,putCells enc 0 S.toArray cur,hown,hbase,arq hheap,hnc,hcm,by simpa [putCells]using hcs, ?_⟩⟩,λi j hi hj=>?_⟩⟩
   .have:=azt (enc:=enc) (d:=S.toArray) (cur:=cur) (by rw[Pi,hlen,hcs];omega)
    rw[Pi,hlen]at this;rw[Zj];exact this
   obtain rfl:j=0:=by omega
   have hi':i<S.length:=by rw[hlen];exact hi
   refine⟨enc S[i], ?_, ?_⟩
   .rw [Zj,Fi,Pe,Hc hi']
    rfl
   show aq c.imm (pc ((S.map fst).getD i default)) _;rw[Oc,Pe,Hc hi'];exact S[i].2
  .have hne:b'≠b:=λhe=>by
    have:=hM.sep id _ b hl1 hblk;rw[<- he,hb']at this;cases this
   have hw:=hM.imm b' ob hb';rw[EL (Le.1 hw).1 hne];exact hw
  have:=(fu ho).1;subst this;exact hM.sep id0 _ b' hl1 hb'
 | [],h=>exact h.elim
 | [_],⟨_,h⟩=>exact h.elim
 |_::_::_::_,⟨_,_,h⟩=>exact h.elim
end
end
section
open Go.Proofs Go.RowKit Go.Sort
structure Zm (l:List Rw) (k p q:Nat) (m:List Rw):Prop where
 len:m.length=l.length
 kq:k<q
 pq:p<q
 ql:q<=l.length
 pre:m.take p=iz (l.take q)
 high:∀j,q-1<=j->m.getD j default=l.getD j default
section
variable {k:Nat}{l:List Rw}
theorem Zm.start (h1:1<=k) (hk:k<l.length) (h:∀j,0<j->j<k->¬l.getD j default=l.getD (j-1) default) (hd:l.getD k default=l.getD (k-1) default):Zm l k k (k+1) l :=
 ⟨rfl,by omega,by omega,by omega,by rw[l5 Za hk,Ba hd.symm,Mg,uc Za h],λ_ _=>rfl⟩
theorem Zm.skip {p q:Nat} {m:List Rw} (h:Zm l k p q m) (hq:q<l.length) (he:m.getD q default=m.getD (q-1) default):Zm l k p (q+1) m:=by
 have hk:=h.kq;refine⟨h.len,by omega,by have:=h.pq;omega,hq, ?_,λj hj=>h.high j Za⟩;rw[h.high q Za,h.high (q-1) Za]at he;rw[l5 Za hq,Ba he.symm,Mg,h.pre]
theorem Zm.keep {p q:Nat} {m:List Rw} (h:Zm l k p q m) (hq:q<l.length) (he:¬m.getD q default=m.getD (q-1) default):Zm l k (p+1) (q+1) (m.set p (m.getD q default)):=by
 have hk:=h.kq;have hp:=h.pq;have hl:=h.len;refine⟨by simp[hl],by omega,by omega,hq, ?_,λj hj=>by rw[Gc Za];exact h.high j Za⟩;have e:=h.high q Za;rw[e,h.high (q-1) Za]at he;rw[l5 Za hq,Ca (λe=>he e.symm),<- h.pre,au (by simp[hl];omega),j2 Za,e];congr 1;rw[List.take_set,qC Uh]
def YS (hk:l.length<=k) (h:∀j,0<j->j<k->¬l.getD j default=l.getD (j-1) default):Fc (.sl l.length 1 false (lf rC l)) (rl (iz l)):=by
 have:=uc (Yb l.length) λj h1 h2=>h j h1 Za;rw[Id]at this;rw[this];exact Ra
variable {a:Nat}
def b55 {m:List Rw} {p q n d:Nat} {cl:Bool} {z:List Value} (hC:Zm l k p q m) (hq:¬q<l.length) (ha:p<=a):Fc (.sl (ep (bh n (some (p:Int))) none) 1 cl (tf (tl (lf rC m) a d z) none)) (rl (iz l)):=by
 have e:=hC.pre;have h1:=hC.ql;have h2:=hC.len;have h3:=hC.pq;rw[show q=l.length by omega,Id]at e;have el:(iz l).length=p:=by rw[<- e];simp;omega
 exact PI (by rw[el];rfl) rfl Za (by rw[el,e])
def oL:∀{l:List Rw} {p:Option Rw},l.Pairwise (λa b=>He b a=false)->(∀x,p=some x->∀y∈l,He y x=false)->(lw p l).Pairwise (λa b=>He a b=true)/\∀x,p=some x->∀y∈lw p l,He x y=true
 | [],p,_,_=>⟨by simp[lw],λx _ y hy=>by simp[lw]at hy⟩
 | z :: l,p,h,hp=>by
  obtain⟨h1,h2⟩:=Hh.1 h;simp only[lw];split
  .rename_i e
   subst e;exact oL h2 λx hx y hy=>hp x hx y (Jh _ hy)
  rename_i hne
  obtain ⟨q1,q2⟩:=oL (p:=some z) h2 λx hx y hy=>by
   simp only[Bb]at hx;subst hx;exact h1 y hy
  refine⟨Hh.2 ⟨λy hy=>q2 z rfl y hy,q1⟩,λx hx y hy=>?_⟩
  have hxz:He x z=true:=by
   have h3:=hp x hx z Yh
   rcases zq (a:=x) (b:=z) (λe=>hne (by rw[hx,e]))with h4|h4
   .exact h4
   rw[h3]at h4;cases h4
  rcases Jd.1 hy with rfl|hy
  .exact hxz
  exact l6 hxz (q2 z rfl y hy)
variable {a' b':Nat}
def NE{b:Nat}(h:l.getD a' default=l.getD b' default)(ha:a'=a)(hb:b'=b):l.getD a default=l.getD b default:=by subst ha hb;exact h
def ME{b:Nat}(h:¬l.getD a' default=l.getD b' default)(ha:a'=a)(hb:b'=b):¬l.getD a default=l.getD b default:=by subst ha hb;exact h
def GI{b:Nat}(h:decide (l.getD a' default=l.getD b' default)=true)(ha:a'=a)(hb:b'=b):l.getD a default=l.getD b default:=NE (Ga h) ha hb
def uI{b:Nat}(h:decide (l.getD a' default=l.getD b' default)=false)(ha:a'=a)(hb:b'=b):¬l.getD a default=l.getD b default:=ME (Qa h) ha hb
def ye {a b:Rw}:ltOf sj a b=He a b:=by
 rw[Ko];show decide (sj a b<0)=true<->_;rw[Ia];exact cF
def KO {x y z:Rw} (h:He x y=false) (k:He y z=false):He x z=false:=by
 rw[Ie];intro e;by_cases hyz:y=z
 .subst hyz;rw[h]at e;cases e
 rcases zq hyz with h2|h2
 .rw[k]at h2;cases h2
 rw[l6 e h2]at h;cases h
def b4l:SWO (ltOf sj) where
 irrefl x:=by rw[ye];exact xf x
 trans x y z h k:=by rw[ye]at *;exact l6 h k
 ntrans x y z h k:=by rw[ye]at *;exact KO h k
def Pu(l:List Rw):List Rw:=l.mergeSort λx y=>!He y x
def bd9{x:Rw}:x∈Pu l<->x∈l:=by unfold Pu;exact List.mem_mergeSort
def aR(l:List Rw):(Pu l).length=l.length:=Kz _
def b3m(l:List Rw):iz (Pu l)=ax l:=by
 refine jS (oL ?_ λx hx=>by cases hx).1 λz=>by rw[sS,bd9]
 have h:=Iv (le:=λx y:Rw=>!He y x) (λa b c h k=>by
  simp only[Nh]at *
  exact KO k h) (λa b=>by
  simp only[Kj,Nh];by_cases e:He b a=true
  .right
   rw[Ie];intro e2;have:=l6 e e2;rw[xf]at this;cases this
  left
  exact Ie.2 e) l
 refine h.imp λ{a b} hab=>?_;simpa using hab
def M8 {r:Rw} (h:(l.any λx=>decide (x=r))=true):r∈l:=by
 rw[Yf]at h;obtain⟨x,hx,e⟩:=h;rwa [<- Ga e]
def qQ {r:Rw} (h:(l.any λx=>decide (x=r))=false):r∉l:=λe=>by
 rw[Dk]at h;exact h r e (Fa rfl)
def be2:Go.Hx.goodFn Ab 251:=⟨Tryz.f251,func251,by kernel_rfl,by kernel_rfl⟩
def M5 (id:Nat) (caps:Nat->PV) (l:List Rw) (hsz:l.length<=8589934592):dn Ab 251 [.one (.ref id l.length), .one (.p (.fn 252 0 caps))] [(id, .arr true 1 89 l.length (lf rC l))] (.tup [])
 [(id, .arr true 1 89 l.length (lf rC (Pu l)))] [id]:=by
 have h:=awy Tryz.laysSortZ (λr:Rw=>zl r) (λimm x v hr=>by obtain⟨ad,cap,h1,_⟩:=hr;rw[h1];rfl) sj b4l (λx y h k=>by
  rw[ye]at h k;apply La;intro hne
  rcases zq hne with h2|h2
  .rw[h]at h2;cases h2
  rw[k]at h2;cases h2) 252 caps (enters_of func252 (by kernel_rfl) rfl) (λx y=>kO x y) id 89 l hsz
 have e:(λx y:Rw=>!(ltOf sj) y x)=λx y=>!He y x:=by
  funext x y;rw[ye]
 rw[e]at h;exact h
end
end
section
open Go.Proofs
def N5(l:List Rw):dn Ab 253 [.one (.ref 900 l.length), .one (.p (.fn 202 0 λ_=>.any))] [(900, .arr true 1 89 l.length (lf rC l))] (.v (.one (.p (rl (iz l))))) [] []:=by
 refine Eg (nt:=66) func253 ?_;refine cw ?_;refine Xw 900 rfl λhlen=>?_;refine ce ?_;refine Kb ?_ ?_<;>intro h0
 .refine Eb ?_;refine b5 4 rfl rfl rfl ?_;refine Db ?_;exact⟨_,_,rfl,Uf,YS (k:=l.length) (Yb _) (λj h1 h2=>by omega),Aa⟩
 refine Jb ?_;refine aa (ι:=Nat) (ka 0 (ka 1 kn)) (kb 900 km) (λk=>⟨[(5,some (vI k))],[]⟩) (λk=>1<=k/\k<=l.length/\∀j,0<j->j<k->¬l.getD j default=l.getD (j-1) default) (λk=>l.length-k) (1) (⟨Yb _,by omega,λj h1 h2=>by omega⟩) kk ?_;rintro k ⟨hk1,hk,hI⟩;refine Wb ?_;refine Kb ?_ ?_<;>intro h1
 ·
  refine jz ?_;refine Fb iJ (gG _ _) ?_;refine Cb ?_;refine We ?_ ?_<;>intro h2
  ·
   refine jq ?_;refine aa (ι:=Nat×Nat×List Rw) (ka 0 (ka 1 (ka 6 kn))) km (λx=>⟨[(5,some (vI x.1)),(7,some (vI ((x.2.1:Int)-k)))],[(900,some (.arr true 1 89 l.length (lf rC x.2.2)))]⟩) (λx=>Zm l k x.1 x.2.1 x.2.2) (λx=>l.length-x.2.1) ((k,k+1,l)) (Zm.start hk1 Za hI (by first|exact NE Gb rfl Za|exact GI Gb rfl Za)) ⟨⟨zy,⟨_,rfl,(Hd Lh)⟩,Aa⟩,uu⟩ ?_;rintro⟨p,q,m⟩ hC;have hC0:=hC;obtain⟨hml,hkq,hpq,hql,_,_⟩:=hC0;dsimp only at hC hml hkq hpq hql;refine Wb ?_;refine Kb ?_ ?_<;>intro h3
   ·
    simp only[ep,bh,Qe]at h3;refine jz ?_;refine Fb iJ (gG _ _) ?_;refine Tb ?_;refine Xd ?_ ?_<;>intro h4
    ·
     refine Nv ?_
     first | (refine Rb (p+1, q+1, m.set p (m.getD q default)) ⟨⟨⟨_, rfl, (Hd Yj)⟩, ⟨_, rfl, (Hd Yj)⟩, tt⟩, ⟨⟨_, rfl, (uy id hml.symm Za (by dsimp only;omega) Vh)⟩, trivial⟩⟩ ?_;exact hC.keep Za (by first|exact ME Gb Vh Vh|exact uI Gb Vh Vh))
           |(refine Rb (p,q+1,m) ⟨⟨⟨_,rfl,(Hd Lh)⟩,⟨_,rfl,(Hd Lh)⟩,tt⟩,uu⟩ ?_;exact hC.skip Za (by first|exact NE Gb Wj Wj|exact GI Gb Wj Wj))
    refine Mb ?_
    first | (refine Rb (p+1, q+1, m.set p (m.getD q default)) ⟨⟨⟨_, rfl, (Hd Yj)⟩, ⟨_, rfl, (Hd Yj)⟩, tt⟩, ⟨⟨_, rfl, (uy id hml.symm Za (by dsimp only;omega) Vh)⟩, trivial⟩⟩ ?_;exact hC.keep Za (by first|exact ME Gb Vh Vh|exact uI Gb Vh Vh))
          |(refine Rb (p,q+1,m) ⟨⟨⟨_,rfl,(Hd Lh)⟩,⟨_,rfl,(Hd Lh)⟩,tt⟩,uu⟩ ?_;exact hC.skip Za (by first|exact NE Gb Wj Wj|exact GI Gb Wj Wj))
   simp only[ep,bh,Qe]at h3;refine Mb ?_;refine Ed 0 true ?_;refine Eb ?_;refine JC rfl rfl rfl rfl rfl ?_;refine Cb ?_;refine Db ?_;exact⟨_,_,rfl,Uf,b55 hC Za (by simp[bh]),Aa⟩
  refine Mb ?_;refine Rb (k+1) kk ?_;refine⟨by omega,by show k+1<=_;omega,λj h1 h2=>?_⟩
  rcases Po (Iq h2)with h|h
  .exact hI j h1 h
  subst h
  first|exact ME Gb rfl Za|exact uI Gb rfl Za
 refine Mb ?_;refine b5 4 rfl rfl rfl ?_;refine Db ?_;exact⟨_,_,rfl,Uf,YS (k:=k) Za hI,Aa⟩
def oI:goodFn Ab 230:=Ib func230
def gJ (n:Int) (l:List Rw) (hl:l.length<=8589934592):dn Ab 230 [.agg [.p (.raw (.int .i64 n)), .ref 900 l.length]] [(900, .arr true 1 89 l.length (lf rC l))] (.v (.agg [.p (.raw (.int .i64 n)), .p (rl (ax l))])) [] []:=by
 refine Eg (nt:=11) func230 ?_;refine Rc ?_;refine m9 0 ?_;refine m9 1 ?_;refine Eb ?_;refine Ke be2 (M5 900 _ l hl) uu ?_;refine Eb ?_;refine ke rfl rfl rfl rfl rfl rfl (Ib func253) (N5 (Pu l)) (⟨Da (HV.ref 900) (aR l).symm,Ra,Aa⟩) ⟨⟨_,rfl,gn rfl (aR l).symm⟩,Aa⟩ rfl rfl ?_;refine Wb ?_;refine Db ?_;exact⟨_,_,rfl,Uf,Xa (by rw[<- b3m];rfl),Aa⟩
def dJ:goodFn Ab 172:=Ib func172
def b17(n:Int)(l:List Rw)(hl:l.length<=5864062014805):dn Ab 172 [.one (.p (.raw (.int .i64 n))), .one (.p (rl l))] [] (.v (.agg [.p (.raw (.int .i64 n)), .ref 900 (ax l).length])) [(900, .arr true 1 89 (ax l).length (lf rC (ax l)))] []:=by
 refine Eg (nt:=74) func172 ?_;refine cw ?_;refine cj 1 rfl λhn=>?_;refine gy ?_;refine m9 0 ?_;refine Eb ?_;refine m9 1 ?_;refine Cb ?_;refine ej 1 1 900 true 1 89 (lf rC (ax (l.take 0))) Zc rfl rfl Ya (.inr rfl) rfl rfl ?_;refine Mb ?_;refine bz (ka 1 (ka 4 (ka 5 kn))) (kb 0 km) (λi=>⟨[(6,some (vI i))],[(1,some (.box [.p (.raw (.int .i64 n)), .ref 900 (ax (l.take i)).length])),(900,some (.arr true 1 89 (ax (l.take i)).length (lf rC (ax (l.take i)))))]⟩) l.length kk ?_;rintro i hi;have hlen:=BF (l.take i);rw[Ae]at hlen;refine Wb ?_;refine Kb ?_ ?_<;>intro h0
 ·
  refine dg ?_;refine Fb KH (JH n (ax (l.take i)) (l.getD i default)) ?_;refine Cb ?_;refine We ?_ ?_<;>intro h1
  ·
   have hin:=M8 h1;refine Mb ?_
   first | (refine Rb (i+1) ⟨tt, ⟨⟨_, rfl, ⟨Tg.refl _, Da (HV.ref 900) (by rw[fj Za, wl (go _) hin]), trivial⟩⟩, ⟨_, rfl, (be (by rw[fj Za, wl (go _) hin]))⟩, uu⟩⟩ ?_; show i+1<=_; omega)
         |(refine Rb (i+1) ⟨tt,⟨⟨_,rfl,⟨Tg.refl _,Da (HV.ref 900) (by rw[fj Za,<- hfin,n4 hk]),Aa⟩⟩,⟨_,rfl,(gn (by rw[fj Za,<- hfin]) (by rw[fj Za,<- hfin,n4 hk]))⟩,uu⟩⟩ ?_;show i+1<=_;omega)
  have hin:=qQ h1;refine Cc ?_;refine m9 2 ?_;refine Ed 3 true ?_;refine jq ?_;refine aa (ι:=Nat) (ka 1 (ka 4 (ka 5 (ka 6 kn)))) (kb 1 (kb 0 km)) (λk=>⟨[(7,some (vI k))],[(900,some (.arr true 1 89 ((ax (l.take i)).length+1) (lf rC (mb (ax (l.take i)) k (l.getD i default)))))]⟩) (λk=>k<=(ax (l.take i)).length/\∀j,k<=j->j<(ax (l.take i)).length->He (l.getD i default) ((ax (l.take i)).getD j default)=true) (λk=>k) ((ax (l.take i)).length) (⟨Yb _,λj h1 h2=>by omega⟩) ⟨tt,⟨⟨_,rfl,(by rw[b6f];exact bbm Ra)⟩,Aa⟩⟩ ?_;rintro k ⟨hk,hK⟩;refine Mb ?_;refine af rfl rfl ?_ ?_<;>intro r2
  ·
   have h2:=Bc r2;(iterate 11 refine qy ?_ (hg:=(Lc r2)));refine Fb (Ib func217) (VN _ _) ?_ (hg:=(Lc r2));refine Tb ?_;refine aj _ rfl ?_ ?_<;>intro r3
   ·
    have h3:=bp r2 r3;have hb:=NP Za hk h3 Za Za;refine Tb ?_;refine HQ (E:=ig) gi EF [0,1,2,7,8,9,10,11,12,13,14,15,16,17,18,19,3,4,5,6,20,21] ?_;refine pG ?_;refine⟨k-1, ?_, ?_, ?_⟩
    .refine ⟨by omega,λj h1 h2=>?_⟩
     by_cases hj:j=k-1
     .rw[hj];exact hb
     exact hK j Za h2
    .show k-1<k
     omega
    exact⟨tt,⟨⟨_,rfl,(axv Za hk Za Za rfl)⟩,uu⟩⟩
   have h3:=bp r2 r3;have hb:=NP Za hk h3 Za Za;have hfin:=QU (go _) hin hk hK (.inr (by rw[hb];decide));refine Mb ?_
   first | (refine Rb (i+1) ⟨tt, ⟨⟨_, rfl, ⟨Tg.refl _, Da (HV.ref 900) (by rw[fj Za, wl (go _) hin]), trivial⟩⟩, ⟨_, rfl, (be (by rw[fj Za, wl (go _) hin]))⟩, uu⟩⟩ ?_; show i+1<=_; omega)
         |(refine Rb (i+1) ⟨tt,⟨⟨_,rfl,⟨Tg.refl _,Da (HV.ref 900) (by rw[fj Za,<- hfin,n4 hk]),Aa⟩⟩,⟨_,rfl,(gn (by rw[fj Za,<- hfin]) (by rw[fj Za,<- hfin,n4 hk]))⟩,uu⟩⟩ ?_;show i+1<=_;omega)
  have h2:=Ac r2;have hfin:=QU (go _) hin hk hK (.inl Za);(iterate 12 refine k9 (Vd r2) ?_);refine ce ?_
  first | (refine Rb (i+1) ⟨tt, ⟨⟨_, rfl, ⟨Tg.refl _, Da (HV.ref 900) (by rw[fj Za, wl (go _) hin]), trivial⟩⟩, ⟨_, rfl, (be (by rw[fj Za, wl (go _) hin]))⟩, uu⟩⟩ ?_; show i+1<=_; omega)
        |(refine Rb (i+1) ⟨tt,⟨⟨_,rfl,⟨Tg.refl _,Da (HV.ref 900) (by rw[fj Za,<- hfin,n4 hk]),Aa⟩⟩,⟨_,rfl,(gn (by rw[fj Za,<- hfin]) (by rw[fj Za,<- hfin,n4 hk]))⟩,uu⟩⟩ ?_;show i+1<=_;omega)
 obtain rfl:i=l.length:=by omega
 refine Mb ?_;refine Db ?_;exact⟨_,_,rfl,Uf,Xa (by rw[Id];rfl),⟨⟨_,rfl,Ic.of_eq (by rw[Id])⟩,Aa⟩⟩
def VJ (n:Int) (l:List Rw) (hl:l.length<=5864062014805):a6 Ab 172 [pI n,pR l] (a7 [pT n (ax l)]) :=
 dn.pure (args:=[pI n,pR l]) (l:=[.agg [.p (.raw (.int .i64 n)), .ref 900 (ax l).length]]) (b17 n l hl) rfl ⟨⟨Aa,rfl,Aa⟩,Aa⟩
end
section
abbrev nM(l:List Rw):Nat->Nat:=λi=>(l.getD i default).length
abbrev d7(l:List Rw):Nat->Nat->Int:=λi r=>(l.getD i default).getD r default
abbrev mg(M:Nat->Nat->Int):Nat->Nat->Nat->PV:=λi r _=>.raw (.int .i64 (M i r))
section
variable {e et:TypeId}{i k:Nat}
def wU{l:List Rw}{f:Nat->Nat->PV}(hk:k=(l.getD i default).length)(hf:f=lf zC (l.getD i default)):
 Ic (.nest e et 1 (i+1) (ju (nM l) i k) (om (mg (d7 l)) i f) none) (.nest e et 1 (i+1) (nM l) (mg (d7 l)) none):=by
 subst hk hf
 have hm:∀j,ju (nM l) i (l.getD i default).length j=nM l j:=λj=>by
  by_cases h:j=i
  .subst h;rw[lB]
  rw[wc h]
 refine⟨rfl,rfl,rfl,rfl,rfl,λj _=>(hm j).symm,λj r c hj hr hc=>Va ?_⟩;by_cases h:j=i
 .subst h
  rw[lI];rfl
 rw[wJ h]
abbrev Sh(x y:Int):Int:=if x<y then y else x
abbrev Di(x y:Int):Int:=if y<x then y else x
def nc(M:Nat->Nat->Int)(hi lo:Int)(i k:Nat):Nat->Nat->Int:=λi' r=>if(i'<i\/(i'=i/\r<k))/\M i' r=hi then lo else M i' r
def Vk(M:Nat->Nat->Int)(a b j:Nat):Nat->Nat->Int:=λi r=>if M i r=Sh (M a j) (M b j)then Di (M a j) (M b j)else M i r
def eqMs(M:Nat->Nat->Int)(a b:Nat)(js:List Nat):Nat->Nat->Int:=js.foldl (λM j=>Vk M a b j) M
def e9(l:List Rw)(M:Nat->Nat->Int):List Rw:=(List.range l.length).map λi=>(List.range (l.getD i default).length).map (M i)
def mq(l:List Rw)(M:Nat->Nat->Int):(e9 l M).length=l.length:=by unfold e9;simp
variable {M:Nat->Nat->Int}
def cV {l:List Rw} (h:i<l.length):(e9 l M).getD i default=(List.range (l.getD i default).length).map (M i):=by
 unfold e9;rw[Oc,Pe,Hi h];rfl
variable {hi lo:Int}
def sU:nc M hi lo 0 0=M:=by
 funext i r;unfold nc;rw[Ca Za]
def SD (h:nc M hi lo i k i k=hi):nc M hi lo i (k+1)=λi' r=>if i'=i/\r=k then lo else nc M hi lo i k i' r:=by
 have h0:M i k=hi:=by
  unfold nc at h;rwa [Ca Za]at h
 funext i' r;unfold nc;by_cases e:i'=i/\r=k
 .rw[Ba e,Ba ⟨.inr ⟨e.1,by omega⟩,by rw[e.1,e.2];exact h0⟩]
 rw[Ca e];by_cases e2:(i'<i\/(i'=i/\r<k))/\M i' r=hi
 .rw[Ba e2,Ba ⟨e2.1.imp_right λx=>⟨x.1,by omega⟩,e2.2⟩]
 rw[Ca e2,Ca λe3=>e2 ⟨by omega,e3.2⟩]
def LD (h:¬nc M hi lo i k i k=hi):nc M hi lo i (k+1)=nc M hi lo i k:=by
 have h0:¬M i k=hi:=by
  unfold nc at h;rwa [Ca Za]at h
 funext i' r;unfold nc;by_cases e:i'=i/\r=k
 .rw[Ca (λx=>h0 (by rw[<- e.1,<- e.2];exact x.2)),Ca (λx=>h0 (by rw[<- e.1,<- e.2];exact x.2))]
 by_cases e2:(i'<i\/(i'=i/\r<k))/\M i' r=hi
 .rw[Ba e2,Ba ⟨e2.1.imp_right λx=>⟨x.1,by omega⟩,e2.2⟩]
 rw[Ca e2,Ca λe3=>e2 ⟨by omega,e3.2⟩]
variable {M':Nat->Nat->Int}{m:Nat->Nat}{n:Nat}
def fE{i0 k0:Nat}{v:Int}(hM:M'=λi' r=>if i'=i/\r=k then v else M i' r)(hi:i0=i)(hk:k0=k):
 Ic (.nest e et 1 n m (sb (mg M) i0 k0 0 [.raw (.int .i64 v)]) none) (.nest e et 1 n m (mg M') none):=by
 subst hi hk hM;refine⟨rfl,rfl,rfl,rfl,rfl,λj _=>rfl,λj r c hj hr hc=>Va ?_⟩;obtain rfl:c=0:=by omega
 unfold sb;by_cases h:j=i0
 .rw [Ba h]
  unfold er;by_cases h2:r=k0
  .rw [Ba ⟨h2,by omega,by simp⟩]
   show _=PV.raw (.int .i64 (if j=i0/\r=k0 then v else M j r));rw[Ba ⟨h,h2⟩];rfl
  rw[Ca (λx=>h2 x.1)];show _=PV.raw (.int .i64 (if j=i0/\r=k0 then v else M j r));rw[Ca (λx=>h2 x.2)]
 rw[Ca h];show _=PV.raw (.int .i64 (if j=i0/\r=k0 then v else M j r));rw[Ca (λx=>h x.1)]
def uf (h:∀i r,i<n->r<m i->M' i r=M i r):Ic (.nest e et 1 n m (mg M) none) (.nest e et 1 n m (mg M') none) :=
 ⟨rfl,rfl,rfl,rfl,rfl,λ_ _=>rfl,λj r c hj hr hc=>Va (by show PV.raw (.int .i64 (M j r))=PV.raw (.int .i64 (M' j r));rw[h j r hj hr])⟩
def OS (hk:¬k<m i):∀i' r,i'<n->r<m i'->nc M hi lo (i+1) 0 i' r=nc M hi lo i k i' r:=λi' r h1 h2=>by
 unfold nc;by_cases e2:(i'<i\/(i'=i/\r<k))/\M i' r=hi
 .rw[Ba e2,Ba ⟨by omega,e2.2⟩]
 rw [Ca e2,Ca λe3=>e2 ⟨by
  rcases Io i' i with h|h
  .exact .inl h
  right;obtain rfl:i'=i:=by omega
  exact⟨rfl,by omega⟩,e3.2⟩]
def JB {a b j:Nat} (hn:¬i<n):∀i' r,i'<n->r<m i'->Vk M a b j i' r=nc M (Sh (M a j) (M b j)) (Di (M a j) (M b j)) i 0 i' r:=λi' r h1 h2=>by
 unfold nc Vk;by_cases e2:M i' r=Sh (M a j) (M b j)
 .rw[Ba e2,Ba ⟨by omega,e2⟩]
 rw[Ca e2,Ca λe3=>e2 e3.2]
def wd {a b j:Nat} (h:M a j=M b j):Vk M a b j=M:=by
 funext i r;unfold Vk;have e1:Sh (M a j) (M b j)=M b j:=by unfold Sh;rw[Ca Za,h]
 have e2:Di (M a j) (M b j)=M b j:=by unfold Di;rw[Ca Za,h]
 rw[e1,e2];by_cases e:M i r=M b j
 .rw[Ba e,e]
 rw[Ca e]
def HF {a b:Nat} {js:List Nat} (h:i<js.length):eqMs M a b (js.take (i+1))=Vk (eqMs M a b (js.take i)) a b (js.getD i default):=by
 unfold eqMs;rw[au h,Oi];rfl
def b16(s:AS):(am s).length<=32:=Nd (So _ _) Ec
def b2p {l:List Nat} {j:Nat} (h:j<l.length):l.getD j default∈l:=by
 rw[Oc,Hc h];exact De h
def GR {l:List Rw} (hn:n=l.length):Ic (.arr true 1 e n (Cr 1 (nM l) (mg M))) (.arr true 1 e (e9 l M).length (lf rC (e9 l M))):=by
 subst hn;refine⟨λh=>h,rfl,rfl,mq l M,λi j hi hj=>?_⟩;show Fc (.sl (l.getD i default).length 1 false (mg M i)) (zl ((e9 l M).getD i default));rw[cV hi];refine Wa Ec (.inl rfl) (λh=>h) λr c hr hc=>Va ?_;show PV.raw (.int .i64 (M i r))=PV.raw (.int .i64 (((List.range (l.getD i default).length).map (M i)).getD r default));rw[Oc,Pe,Hi hr];rfl
end
end
section
open Go.Proofs
def b2z (n:Int) (l:List Rw) (hl:∀i,i<l.length->(l.getD i default).length<=17592186044416) (hl2:l.length<=5864062014805):dn Ab 231 [.agg [.p (.raw (.int .i64 n)), .p (rl l)]] [] (.v (.agg [.p (.raw (.int .i64 n)), .ref 901 l.length])) [(901, .nest 89 3 1 l.length (nM l) (mg (d7 l)) none)] []:=by
 refine Eg (nt:=25) func231 ?_;refine Rc ?_;refine m9 0 ?_;refine m9 1 ?_;refine Mb ?_;refine m9 2 ?_;refine Cb ?_;refine aih 2 1 901 89 3 1 (nM l) (mg (d7 l)) Zc rfl rfl rfl rfl ?_;refine Cc ?_;refine bz (ka 2 (ka 3 (ka 10 (ka 11 kn)))) (kb 1 km) (λi=>⟨[(12,some (vI i))],[(2,some (.box [.p (.raw (.int .i64 n)), .ref 901 i])),(901,some (.nest 89 3 1 i (nM l) (mg (d7 l)) none))]⟩) l.length kk ?_;rintro i hi;refine Eb ?_;refine Kb ?_ ?_<;>intro h0
 .refine jq ?_;refine Ke FI ((nI (l.getD i default).length false (lf zC (l.getD i default)) (hl i Za)).swap 0 907) trivial ?_;refine m9 3 ?_;refine Ed 4 true ?_;refine Mc ?_;refine qU 901 907 rfl rfl ?_;refine Mc ?_;exact Ld (i+1) ⟨tt,⟨u9,⟨_,rfl,(wU rfl rfl)⟩,uu⟩⟩
 obtain rfl:i=l.length:=by omega
 refine Mb ?_;refine Db ?_;exact⟨_,_,rfl,Uf,Ua,uu⟩
def bbv(n:Int)(l:List Rw)(s:AS)(a b:Nat)(hl:∀i,i<l.length->(l.getD i default).length<=17592186044416)(hl2:l.length<=8589934592)(ha:a<l.length)(hb:b<l.length)(hs:∀j,j∈am s->∀i,i<l.length->j<(l.getD i default).length):a6 Ab 236 [pT n l,pA s,pI (a:Int),pI (b:Int)] (a7 [pT n (ax (e9 l (eqMs (d7 l) a b (am s))))]):=by
 refine Nb (nt:=76) func236 ?_;refine Rc ?_;refine m9 0 ?_;refine m9 1 ?_;refine Mc ?_;refine Ke jJ (b2z n l hl Za) trivial ?_;refine m9 2 ?_;refine Mb ?_;refine Fb Kx (Bw s) ?_;refine Mc ?_;refine bz (ka 2 (ka 3 (ka 8 (ka 9 (ka 20 (ka 21 kn)))))) (kb 1 (kb 2 km)) (λq=>⟨[(22,some (vI q))],[(901,some (.nest 89 3 1 l.length (λi=>(l.getD i default).length) (mg (eqMs (d7 l) a b ((am s).take q))) none))]⟩) ((am s).length) kk ?_;rintro q hq;have hm32:=b16 s;refine Eb ?_;refine Kb ?_ ?_<;>intro h0
 ·
  have hjm:((am s).getD q default)∈am s:=b2p Za;have hja:=hs _ hjm a ha;have hjb:=hs _ hjm b hb;refine qh ?_;refine rq rfl rfl rfl rfl rfl ?_ (hp:=(by(try simp only[Qe,nM]);(repeat' apply And.intro)<;>first|trivial|rfl|omega|exact Re rfl));refine Jb ?_;refine rq rfl rfl rfl rfl rfl ?_ (hp:=(by(try simp only[Qe,nM]);(repeat' apply And.intro)<;>first|trivial|rfl|omega|exact Re rfl));refine fy ?_;refine Kb ?_ ?_<;>intro h1
  ·
   refine Eb ?_
   first | (refine Rb (q+1) ⟨tt, ⟨⟨_, rfl, (by rw[HF Za, wd Gb]; exact Ic.refl _)⟩, uu⟩⟩ ?_; show q+1<=_; omega)
         |(refine Rb (q+1) ⟨tt,⟨⟨_,rfl,(by rw[HF Za];exact uf (JB Za))⟩,uu⟩⟩ ?_;show q+1<=_;omega)
  refine Cc ?_;refine bz (ka 2 (ka 3 (ka 8 (ka 9 (ka 12 (ka 13 (ka 20 (ka 21 (ka 22 (ka 46 (ka 47 kn))))))))))) (kb 1 (kb 2 km)) (λi=>⟨[(48,some (vI i))],[(901,some (.nest 89 3 1 l.length (λi=>(l.getD i default).length) (mg (nc (eqMs (d7 l) a b ((am s).take q)) (Sh ((eqMs (d7 l) a b ((am s).take q)) a ((am s).getD q default)) ((eqMs (d7 l) a b ((am s).take q)) b ((am s).getD q default))) (Di ((eqMs (d7 l) a b ((am s).take q)) a ((am s).getD q default)) ((eqMs (d7 l) a b ((am s).take q)) b ((am s).getD q default))) i 0)) none))]⟩) l.length ⟨tt,⟨⟨_,rfl,(by rw[sU];exact Ic.refl _)⟩,Aa⟩⟩ ?_;rintro i hi;refine Eb ?_;refine Kb ?_ ?_<;>intro h2
  ·
   have hli:=hl i Za;refine qd ?_;refine bz (ka 2 (ka 3 (ka 8 (ka 9 (ka 12 (ka 13 (ka 15 (ka 20 (ka 21 (ka 22 (ka 46 (ka 47 (ka 48 (ka 53 kn)))))))))))))) (kb 1 (kb 2 km)) (λk=>⟨[(54,some (vI k))],[(901,some (.nest 89 3 1 l.length (λi=>(l.getD i default).length) (mg (nc (eqMs (d7 l) a b ((am s).take q)) (Sh ((eqMs (d7 l) a b ((am s).take q)) a ((am s).getD q default)) ((eqMs (d7 l) a b ((am s).take q)) b ((am s).getD q default))) (Di ((eqMs (d7 l) a b ((am s).take q)) a ((am s).getD q default)) ((eqMs (d7 l) a b ((am s).take q)) b ((am s).getD q default))) i k)) none))]⟩) ((l.getD i default).length) kk ?_;rintro k hk;refine Eb ?_;refine Kb ?_ ?_<;>intro h3
   ·
    refine fy ?_;(iterate 2 refine rq rfl rfl rfl rfl rfl ?_ (hp:=(by(try simp only[Qe,nM]);(repeat' apply And.intro)<;>first|trivial|rfl|omega|exact Re rfl)));refine Eb ?_;refine Kb ?_ ?_<;>intro h4
    .refine Mb ?_;refine rq rfl rfl rfl rfl rfl ?_ (hp:=(by(try simp only[Qe,nM]);(repeat' apply And.intro)<;>first|trivial|rfl|omega|exact Re rfl));refine rs rfl rfl rfl rfl rfl ?_ (hp:=(by(try simp only[Qe,nM]);(repeat' apply And.intro)<;>first|trivial|rfl|omega|exact Re rfl));refine Eb ?_;exact Ld (k+1) ⟨tt,⟨⟨_,rfl,(by first|exact fE (SD Gb) Ec Ec|(rw[LD Gb];exact Ic.refl _))⟩,uu⟩⟩
    refine Eb ?_;exact Ld (k+1) ⟨tt,⟨⟨_,rfl,(by first|exact fE (SD Gb) Ec Ec|(rw[LD Gb];exact Ic.refl _))⟩,uu⟩⟩
   refine Eb ?_;exact Ld (i+1) ⟨tt,⟨⟨_,rfl,(uf (OS Za))⟩,uu⟩⟩
  refine Eb ?_
  first | (refine Rb (q+1) ⟨tt, ⟨⟨_, rfl, (by rw[HF Za, wd Gb]; exact Ic.refl _)⟩, uu⟩⟩ ?_; show q+1<=_; omega)
        |(refine Rb (q+1) ⟨tt,⟨⟨_,rfl,(by rw[HF Za];exact uf (JB Za))⟩,uu⟩⟩ ?_;show q+1<=_;omega)
 obtain rfl:q=(am s).length:=by omega
 refine Cb ?_;refine UQ 901 rfl ?_;refine Cb ?_;refine ke rfl rfl rfl rfl rfl rfl oI ((gJ n (e9 l (eqMs (d7 l) a b (am s))) (by rw[mq];omega)).swap 900 901) (⟨⟨Ra,Da (HV.ref 901) (mq _ _).symm,Aa⟩,Aa⟩) ⟨⟨_,rfl,(by rw[Id];exact GR rfl)⟩,Aa⟩ rfl rfl ?_;refine Tf ?_;exact Ta
end
def vh(n:Int)(l:List Rw)(row:Rw):Int×List Rw×Int:=if 256<(ax (l++[row])).length then(0,[],3) else(n,ax (l++[row]),0)
def bn{s:Nat}{f:Nat->Nat->PV}:Fc (.sl 0 s true f) (rl []):=Wa rfl (.inr rfl) (λh=>by cases h) λi j hi _=>Ea hi (Ud i)
def Hj(n:Int)(l:List Rw)(a b:Nat)(x:Fd):Int×List Rw×Int:=if ll (l.getD a default) (l.getD b default) x.lhs=true then(n,ax (e9 l (eqMs (d7 l) a b (am x.rhs))),0) else(0,[],1)
def Xi(n:Int)(l:List Rw)(a b:Nat)(x:Fd):Int×List Rw×Int:=if ll (l.getD a default) (l.getD b default) x.lhs=true then vh n l (dz (l.getD a default) (l.getD b default) (x.lhs|||x.rhs)) else(0,[],1)
def jc {n:Int} {l:List Rw} (h:Bd n l=true):0<=n/\n<=16/\l.length<=256/\∀i,i<l.length->(l.getD i default).length=n.toNat:=by
 unfold Bd at h;rw[Od,Ia,Ia]at h;obtain⟨⟨h0,h1,h2⟩,h3⟩:=h;refine⟨h0,h1,h2,λi hi=>?_⟩;have:=h3 i hi;unfold pz at this;rw[Od,Od,Ia]at this;omega
def AE {n:Int} (h0:0<=n) (h1:n<=16) {x:Fd} (h:Ue n x=true) {j:Nat} (hj:j∈am x.rhs):j<n.toNat:=by
 obtain⟨_,h3⟩:=(pw h0 h1).1 h;obtain⟨h4,h5⟩:=od.1 hj;have h6:x.rhs>>>n.toNat=0:=(zf (n:=n.toNat) Za).1 (by unfold ak at h3;rwa [Gi Za]at h3)
 rcases Io j n.toNat with h|h
 .exact h
 rw[ZM.1 h6 j h4 h]at h5;cases h5
section
open Go.Proofs
def XY (n:Int) (l:List Rw) (row:Rw) (hl:∀i,i<l.length->(l.getD i default).length<=17592186044416) (hl2:l.length<=4294967296):a6 Ab 237 [pT n l,pZ row] (a7 [pT (vh n l row).1 (vh n l row).2.1,pI (vh n l row).2.2]):=by
 refine Nb (nt:=23) func237 ?_;refine Rc ?_;refine m9 0 ?_;refine m9 1 ?_;refine Eb ?_;refine Ke jJ (UR n l hl Za) trivial ?_;refine m9 2 ?_;refine Jb ?_;refine m9 3 ?_;refine Ed 4 true ?_;refine Mb ?_;refine ke rfl rfl rfl rfl rfl rfl oI ((gJ n (l++[row]) Uh).swap 900 901) (⟨⟨Ra,Da (HV.ref 901) Ec,Aa⟩,Aa⟩) ⟨⟨_,rfl,cr rfl Ra⟩,Aa⟩ rfl rfl ?_;refine ce ?_;refine Kb ?_ ?_<;>intro h0
 .refine Mb ?_;refine Db ?_;have he:vh n l row=(0,[],3):=Ba Za;exact f9 rfl rfl (by rw[he];exact⟨Ob.agg ⟨Ra,bn,Aa⟩,Sa,Aa⟩)
 refine Jb ?_;refine Db ?_;have he:vh n l row=(n,ax (l++[row]),0):=Ca Za;exact f9 rfl rfl (by rw[he];exact Ta)
def EI:goodFn Ab 204:=Ib func204
def QR (n:Int) (l:List Rw) (p m:List Fd) (i a b:Nat) (hT:Bd n l=true) (ha:a<l.length) (hb:b<l.length) (hi:i<p.length) (hu:Ue n (p.getD i default)=true):a6 Ab 204 [pT n l,pP (Ub p),pP (Ub m), .agg [.raw (.bool false), .raw (.int .i64 (i:Int)), .raw (.int .i64 (a:Int)), .raw (.int .i64 (b:Int))]] (a7 [pT (Hj n l a b (p.getD i default)).1 (Hj n l a b (p.getD i default)).2.1,pI (Hj n l a b (p.getD i default)).2.2]):=by
 refine Nb (nt:=75) func204 ?_;refine cw ?_;obtain⟨hn0,hn16,hl256,hrow⟩:=jc hT;have hra:=hrow a ha;have hrb:=hrow b hb;have hbig:∀i,i<l.length->(l.getD i default).length<=17592186044416:=λi hi=>by rw[hrow i hi];omega
 refine gy ?_;refine m9 0 ?_;refine m9 1 ?_;refine m9 2 ?_;refine MC ?_;refine Jb ?_;refine Fb xB (SA (l.getD a default) (l.getD b default) (p.getD i default).lhs Za Za) ?_;refine Cb ?_;refine Xd ?_ ?_<;>intro h0
 .refine Mb ?_;refine Db ?_;have he:Hj n l a b (p.getD i default)=(0,[],1):=Ca Qg;exact f9 rfl rfl (by rw[he];exact⟨Ob.agg ⟨Ra,bn,Aa⟩,Sa,Aa⟩)
 refine rp ?_;refine Fb (Ib func236) (bbv n l (p.getD i default).rhs a b hbig Za ha hb (λj hj i hi=>by rw[hrow i hi];exact AE hn0 hn16 hu hj)) ?_;refine Mc ?_;refine Db ?_;have he:Hj n l a b (p.getD i default)=(n,ax (e9 l (eqMs (d7 l) a b (am (p.getD i default).rhs))),0):=Ba Qg;exact f9 rfl rfl (by rw[he];exact Ta)
def SQ (n:Int) (l:List Rw) (p m:List Fd) (i a b:Nat) (hT:Bd n l=true) (ha:a<l.length) (hb:b<l.length) (hi:i<m.length):a6 Ab 204 [pT n l,pP (Ub p),pP (Ub m), .agg [.raw (.bool true), .raw (.int .i64 (i:Int)), .raw (.int .i64 (a:Int)), .raw (.int .i64 (b:Int))]] (a7 [pT (Xi n l a b (m.getD i default)).1 (Xi n l a b (m.getD i default)).2.1,pI (Xi n l a b (m.getD i default)).2.2]):=by
 refine Nb (nt:=75) func204 ?_;refine cw ?_;obtain⟨hn0,hn16,hl256,hrow⟩:=jc hT;have hra:=hrow a ha;have hrb:=hrow b hb;have hbig:∀i,i<l.length->(l.getD i default).length<=17592186044416:=λi hi=>by rw[hrow i hi];omega
 refine gy ?_;refine m9 0 ?_;refine m9 1 ?_;refine m9 2 ?_;refine MC ?_;refine Mc ?_;refine m9 3 ?_;refine Cc ?_;refine Fb xB (SA (l.getD a default) (l.getD b default) (m.getD i default).lhs Za Za) ?_;refine Cb ?_;refine Xd ?_ ?_<;>intro h0
 .refine Mb ?_;refine Db ?_;have he:Xi n l a b (m.getD i default)=(0,[],1):=Ca Qg;exact f9 rfl rfl (by rw[he];exact⟨Ob.agg ⟨Ra,bn,Aa⟩,Sa,Aa⟩)
 refine dg ?_;refine rc rfl rfl rfl rfl rfl rfl (Ib func238) (iP (l.getD a default) (l.getD b default) ((m.getD i default).lhs|||(m.getD i default).rhs) Za Za) (⟨Sa,Sa,Sb (by rw[Dh];rfl),Aa⟩) rfl rfl ?_;refine Fb (Ib func237) (XY n l (dz (l.getD a default) (l.getD b default) ((m.getD i default).lhs|||(m.getD i default).rhs)) hbig Za) ?_;refine Mb ?_;refine Db ?_;have he:Xi n l a b (m.getD i default)=vh n l (dz (l.getD a default) (l.getD b default) ((m.getD i default).lhs|||(m.getD i default).rhs)):=Ba Qg;exact f9 rfl rfl (by rw[he];exact Ta)
end
section
def fw (P:Nat->Nat->Nat->Bool) (I L:Nat):Option (Nat×Nat×Nat) :=
 (List.range I).findSome? λi=>(List.range L).findSome? λa=>((List.range L).find? λb=>P i a b).map λb=>(i,a,b)
def sI{α:Type}{f:Nat->Option α}:∀{n k:Nat} {x:α},k<n->f k=some x->(∀j,j<k->f j=none)->(List.range n).findSome? f=some x
 | n + 1,k,x,hk,h,hb=>by
  rw[Ak,nC];by_cases e:k<n
  .rw[sI e h hb];rfl
  obtain rfl:k=n:=by omega
  have:(List.range k).findSome? f=none:=by
   rw[vC];intro j hj;exact hb j (Fe.1 hj)
  rw[this];simp[h]
def iI {α:Type} {f:Nat->Option α} {n:Nat} (h:∀j,j<n->f j=none):(List.range n).findSome? f=none:=by
 rw[vC];intro j hj;exact h j (Fe.1 hj)
def ZD {p:Nat->Bool} {n:Nat} (h:∀j,j<n->p j=false):(List.range n).find? p=none:=by
 rw[Oo];intro j hj;rw[h j (Fe.1 hj)];decide
def bba {p:Nat->Bool} {n k:Nat} (hk:k<n) (h:p k=true) (hb:∀j,j<k->p j=false):(List.range n).find? p=some k:=by
 induction n with
 |zero=>omega
 | succ n ih =>
  rw[Ak,List.find?_append];by_cases e:k<n
  .rw[ih e];rfl
  obtain rfl:k=n:=by omega
  rw[ZD hb];simp[h]
section
variable {P:Nat->Nat->Nat->Bool}
def OL {I L i a b:Nat} (hi:i<I) (ha:a<L) (hb:b<L) (h:P i a b=true) (h1:∀i',i'<i->∀a',a'<L->∀b',b'<L->P i' a' b'=false) (h2:∀a',a'<a->∀b',b'<L->P i a' b'=false) (h3:∀b',b'<b->P i a b'=false):
 fw P I L=some (i,a,b):=by
 refine sI hi ?_ λj hj=>iI λa' ha'=>by rw[ZD λb' hb'=>h1 j hj a' ha' b' hb'];rfl
 refine sI ha ?_ λa' ha'=>by rw[ZD λb' hb'=>h2 a' ha' b' hb'];rfl
 rw[bba hb h h3];rfl
def KL {I L:Nat} (h:∀i',i'<I->∀a',a'<L->∀b',b'<L->P i' a' b'=false):fw P I L=none :=
 iI λi hi=>iI λa ha=>by rw[ZD λb hb=>h i hi a ha b hb];rfl
def fb(l:List Rw)(x:Fd)(a b:Nat):Bool:=ll (l.getD a default) (l.getD b default) x.lhs&&!ll (l.getD a default) (l.getD b default) x.rhs
def fk(l:List Rw)(x:Fd)(a b:Nat):Bool:=ll (l.getD a default) (l.getD b default) x.lhs&&!(l.any λr=>decide (r=dz (l.getD a default) (l.getD b default) (x.lhs|||x.rhs)))
end
section
variable {l:List Rw}{x:Fd}{a b:Nat}
def ba2(h:ll (l.getD a default) (l.getD b default) x.lhs=true)(h2:ll (l.getD a default) (l.getD b default) x.rhs=false):fb l x a b=true:=by unfold fb;rw[h,h2];rfl
def dF(h:ll (l.getD a default) (l.getD b default) x.lhs=false):fb l x a b=false:=by unfold fb;rw[h];rfl
def bK(h:ll (l.getD a default) (l.getD b default) x.rhs=true):fb l x a b=false:=by unfold fb;rw[h];simp
def bck(h:ll (l.getD a default) (l.getD b default) x.lhs=true)(h2:(l.any λr=>decide (r=dz (l.getD a default) (l.getD b default) (x.lhs|||x.rhs)))=false):fk l x a b=true:=by unfold fk;rw[h,h2];rfl
def VS(h:ll (l.getD a default) (l.getD b default) x.lhs=false):fk l x a b=false:=by unfold fk;rw[h];rfl
def xJ(h:(l.any λr=>decide (r=dz (l.getD a default) (l.getD b default) (x.lhs|||x.rhs)))=true):fk l x a b=false:=by unfold fk;rw[h];simp
end
abbrev St:=Bool×Nat×Nat×Nat
abbrev St.pc(s:St):PC:=.agg [.raw (.bool s.1), .raw (.int .i64 (s.2.1:Int)), .raw (.int .i64 (s.2.2.1:Int)), .raw (.int .i64 (s.2.2.2:Int))]
def f0 (l:List Rw) (p m:List Fd):Option St :=
 match fw (λi a b=>fb l (p.getD i default) a b) p.length l.length with
 |some x=>some (false,x)
 |none=>(fw (λi a b=>fk l (m.getD i default) a b) m.length l.length).map λx=>(true,x)
def bcu{l:List Rw}{p m:List Fd}{x:Nat×Nat×Nat}(h:fw (λi a b=>fb l (p.getD i default) a b) p.length l.length=some x):f0 l p m=some (false,x):=by unfold f0;rw[h]
def bbx{l:List Rw}{p m:List Fd}{x:Nat×Nat×Nat}(h0:fw (λi a b=>fb l (p.getD i default) a b) p.length l.length=none)(h:fw (λi a b=>fk l (m.getD i default) a b) m.length l.length=some x):f0 l p m=some (true,x):=by unfold f0;rw[h0,h];rfl
def bcz{l:List Rw}{p m:List Fd}(h0:fw (λi a b=>fb l (p.getD i default) a b) p.length l.length=none)(h:fw (λi a b=>fk l (m.getD i default) a b) m.length l.length=none):f0 l p m=none:=by unfold f0;rw[h0,h];rfl
end
section
open Go.Proofs
def L6(n:Int)(l:List Rw)(p m:List Fd)(hT:Bd n l=true):a6 Ab 232 [pT n l,pP (Ub p),pP (Ub m)] (a7 [St.pc ((f0 l p m).getD (false,0,0,0)),pB (f0 l p m).isSome]):=by
 refine Nb (nt:=132) func232 ?_;refine cw ?_;obtain⟨hn0,hn16,hl256,hrow⟩:=jc hT;refine cj 1 rfl λhn1=>?_;refine cj 2 rfl λhn2=>?_;refine gy ?_;refine m9 0 ?_;refine m9 1 ?_;refine ce ?_;refine aa (ι:=Nat) (ka 2 (ka 3 (ka 6 (ka 16 (ka 17 kn))))) (kb 0 (kb 1 km)) (λi=>⟨[(18,some (vI i))],[]⟩) (λi=>i<=p.length/\(∀i',i'<i->∀a',a'<l.length->∀b',b'<l.length->fb l (p.getD i' default) a' b'=false)) (λi=>p.length-i) (0) (⟨Zb _,aw⟩) kk ?_;rintro i ⟨hi,hI⟩;refine Eb ?_;refine Kb ?_ ?_<;>intro h0
 ·
  refine Wb ?_;refine m9 2 ?_;refine dg ?_;refine aa (ι:=Nat) (ka 2 (ka 3 (ka 6 (ka 8 (ka 9 (ka 16 (ka 17 (ka 18 (ka 25 kn))))))))) (kb 0 (kb 1 (kb 2 km))) (λa=>⟨[(26,some (vI a))],[]⟩) (λa=>a<=l.length/\(∀a',a'<a->∀b',b'<l.length->fb l (p.getD i default) a' b'=false)) (λa=>l.length-a) (0) (⟨Zb _,aw⟩) kk ?_;rintro a ⟨ha,hA⟩;refine Eb ?_;refine Kb ?_ ?_<;>intro h1
  ·
   refine qd ?_;refine aa (ι:=Nat) (ka 2 (ka 3 (ka 6 (ka 8 (ka 9 (ka 10 (ka 16 (ka 17 (ka 18 (ka 25 (ka 26 (ka 31 kn)))))))))))) (kb 0 (kb 1 (kb 2 km))) (λb=>⟨[(32,some (vI b))],[]⟩) (λb=>b<=l.length/\(∀b',b'<b->fb l (p.getD i default) a b'=false)) (λb=>l.length-b) (0) (⟨Zb _,aw⟩) kk ?_;rintro b ⟨hb,hB⟩;refine Eb ?_;refine Kb ?_ ?_<;>intro h2
   ·
    refine iA ?_;refine rc rfl rfl rfl rfl rfl rfl xB (SA (l.getD a default) (l.getD b default) (p.getD i default).lhs (by rw[hrow _ Za,hrow _ Za]) (by rw[hrow _ Za];omega)) Ta rfl rfl ?_;refine qy ?_;refine af rfl rfl ?_ ?_<;>intro r3
    ·
     have h3:=r3;(iterate 12 refine qy ?_ (hg:=(Lc r3)));refine rc rfl rfl rfl rfl rfl rfl xB (SA (l.getD a default) (l.getD b default) (p.getD i default).rhs (by rw[hrow _ Za,hrow _ Za]) (by rw[hrow _ Za];omega)) Ta rfl (Lc r3) ?_;refine qy ?_ (hg:=(Lc r3));refine Tb ?_;refine aj _ rfl ?_ ?_<;>intro r4
     .have h4:=ct (bp r3 r4);refine Cc ?_;refine Db ?_;have he:=bcu (m:=m) (OL (P:=λi a b=>fb l (p.getD i default) a b) (i:=i) (a:=a) (b:=b) Za Za Za (ba2 Gb Gb) hI hA hB);exact f9 rfl rfl (by rw[he];exact Ta)
     have h4:=cu (bp r3 r4);refine Eb ?_;refine Rb (b+1) kk ?_;exact⟨by show b+1<=_;omega,al hB (by first|exact dF Gb|exact bK Gb)⟩
    have h3:=r3;(iterate 14 refine k9 (Vd r3) ?_);refine Cc ?_;refine Rb (b+1) kk ?_
    exact⟨by show b+1<=_;omega,al hB (by first|exact dF Gb|exact bK Gb)⟩
   refine Eb ?_;refine Rb (a+1) kk ?_;exact⟨by show a+1<=_;omega,al hA (λb' hb'=>hB b' Za)⟩
  refine Eb ?_;refine Rb (i+1) kk ?_;exact⟨by show i+1<=_;omega,al hI (λa' ha'=>hA a' Za)⟩
 obtain rfl:i=p.length:=by omega
 have hno:=KL (P:=λi a b=>fb l (p.getD i default) a b) (I:=p.length) (L:=l.length) hI;refine Cc ?_;refine aa (ι:=Nat) (ka 3 (ka 6 (ka 71 (ka 72 kn)))) (kb 0 (kb 1 km)) (λk=>⟨[(73,some (vI k))],[]⟩) (λk=>k<=m.length/\(∀i',i'<k->∀a',a'<l.length->∀b',b'<l.length->fk l (m.getD i' default) a' b'=false)) (λk=>m.length-k) (0) (⟨Zb _,aw⟩) kk ?_;rintro k ⟨hk,hK⟩;refine Eb ?_;refine Kb ?_ ?_<;>intro h5
 ·
  refine Wb ?_;refine m9 3 ?_;refine dg ?_;refine aa (ι:=Nat) (ka 3 (ka 6 (ka 12 (ka 13 (ka 71 (ka 72 (ka 73 (ka 80 kn)))))))) (kb 0 (kb 1 (kb 3 km))) (λc=>⟨[(81,some (vI c))],[]⟩) (λc=>c<=l.length/\(∀a',a'<c->∀b',b'<l.length->fk l (m.getD k default) a' b'=false)) (λc=>l.length-c) (0) (⟨Zb _,aw⟩) kk ?_;rintro c ⟨hc,hC⟩;refine Eb ?_;refine Kb ?_ ?_<;>intro h6
  ·
   refine qd ?_;refine aa (ι:=Nat) (ka 3 (ka 6 (ka 12 (ka 13 (ka 14 (ka 71 (ka 72 (ka 73 (ka 80 (ka 81 (ka 86 kn))))))))))) (kb 0 (kb 1 (kb 3 km))) (λd=>⟨[(87,some (vI d))],[]⟩) (λd=>d<=l.length/\(∀b',b'<d->fk l (m.getD k default) c b'=false)) (λd=>l.length-d) (0) (⟨Zb _,aw⟩) kk ?_;rintro d ⟨hd,hD⟩;refine Eb ?_;refine Kb ?_ ?_<;>intro h7
   ·
    refine iA ?_;refine rc rfl rfl rfl rfl rfl rfl xB (SA (l.getD c default) (l.getD d default) (m.getD k default).lhs (by rw[hrow _ Za,hrow _ Za]) (by rw[hrow _ Za];omega)) Ta rfl rfl ?_;refine qy ?_;refine af rfl rfl ?_ ?_<;>intro r8
    ·
     have h8:=r8;(iterate 16 refine qy ?_ (hg:=(Lc r8)));refine rc rfl rfl rfl rfl rfl rfl (Ib func238) (iP (l.getD c default) (l.getD d default) ((m.getD k default).lhs|||(m.getD k default).rhs) (by rw[hrow _ Za,hrow _ Za]) (by rw[hrow _ Za];omega)) (⟨Sa,Sa,Sb (by rw[Dh];rfl),Aa⟩) rfl (Lc r8) ?_;refine Fb nJ (VG n l (dz (l.getD c default) (l.getD d default) ((m.getD k default).lhs|||(m.getD k default).rhs))) ?_ (hg:=(Lc r8));refine qy ?_ (hg:=(Lc r8));refine Tb ?_;refine aj _ rfl ?_ ?_<;>intro r9
     .have h9:=ct (bp r8 r9);refine Cc ?_;refine Db ?_;have he:=bbx hno (OL (P:=λi a b=>fk l (m.getD i default) a b) (i:=k) (a:=c) (b:=d) Za Za Za (bck Gb Gb) hK hC hD);exact f9 rfl rfl (by rw[he];exact Ta)
     have h9:=cu (bp r8 r9);refine Eb ?_;refine Rb (d+1) kk ?_;exact⟨by show d+1<=_;omega,al hD (by first|exact VS Gb|exact xJ Gb)⟩
    have h8:=r8;(iterate 19 refine k9 (Vd r8) ?_);refine Cc ?_;refine Rb (d+1) kk ?_
    exact⟨by show d+1<=_;omega,al hD (by first|exact VS Gb|exact xJ Gb)⟩
   refine Eb ?_;refine Rb (c+1) kk ?_;exact⟨by show c+1<=_;omega,al hC (λb' hb'=>hD b' Za)⟩
  refine Eb ?_;refine Rb (k+1) kk ?_;exact⟨by show k+1<=_;omega,al hK (λa' ha'=>hC a' Za)⟩
 refine Jb ?_;refine Db ?_;have he:=bcz hno (KL (P:=λi a b=>fk l (m.getD i default) a b) (I:=m.length) (L:=l.length) λj hj=>hK j Za);exact f9 rfl rfl (by rw[he];exact Ta)
end
section
def Qj(n:Int)(i:Nat)(p:AS)(c:Nat):Int:=if bw p (c:Int)=true then(c:Int)else n+(i:Int)*n+(c:Int)
def Qh(n:Int)(i:Nat)(p:AS)(k:Nat):Rw:=(List.range n.toNat).map λc=>if c<k then Qj n i p c else 0
def Rj(n:Int)(i:Nat)(p:AS):Rw:=(List.range n.toNat).map λc=>Qj n i p c
def bf(n:Int)(ps:List AS):List Rw:=(List.range ps.length).map λi=>Rj n i (ps.getD i default)
def BE(n:Int)(i:Nat)(p:AS):(Rj n i p).length=n.toNat:=by unfold Rj;simp
def s7(n:Int)(ps:List AS):(bf n ps).length=ps.length:=by unfold bf;simp
section
variable {i:Nat}{n:Int}{ps:List AS}
def nV (h:i<ps.length):(bf n ps).getD i default=Rj n i (ps.getD i default):=by
 unfold bf;rw[Oc,Pe,Hi h];rfl
variable {k:Nat}
def IQ (n:Int) (i:Nat) (p:AS) (h:n.toNat<=k):Qh n i p k=Rj n i p:=by
 unfold Qh Rj;refine Mn λc hc=>?_;have:=Fe.1 hc;rw[Ba Za]
variable {p:AS}
def BH {c:Nat} (h:c<n.toNat):(Qh n i p k).getD c default=if c<k then Qj n i p c else 0:=by
 unfold Qh;rw[Oc,Pe,Hi h];rfl
def gS {N:Nat} {f:Nat->Nat->PV} (hN:N=n.toNat) (hf:∀a,f a 0=.raw (.int .i64 0)):Ic (.arr true 1 3 N f) (.arr true 1 3 N (lf zC (Qh n i p 0))) :=
 ⟨λh=>h,rfl,rfl,rfl,λa j ha hj=>by
  obtain rfl:j=0:=by omega
  refine Va ?_;rw[hf];show _=PV.raw (.int .i64 ((Qh n i p 0).getD a default))
  rw[BH Za,Ca Za]⟩
def oK:∀c,c<n.toNat->(Qh n i p (k+1)).getD c default=if c=k then Qj n i p k else(Qh n i p k).getD c default:=λc hc=>by
 rw[BH hc,BH hc];by_cases h:c=k
 .rw[Ba h,Ba Za,h]
 rw[Ca h];by_cases h2:c<k
 .rw[Ba h2,Ba Za]
 rw[Ca h2,Ca Za]
def eQ{a b N:Nat}{x:Int}(h:bw p (k:Int)=true)(hN:N=n.toNat)(ha:a=k)(hb:b=k):
 Ic (.arr true 1 3 N (er (er (lf zC (Qh n i p k)) a 0 [.raw (.int .i64 x)]) b 0 [.raw (.int .i64 (k:Int))])) (.arr true 1 3 N (lf zC (Qh n i p (k+1)))):=by
 subst ha hb;refine⟨λh=>h,rfl,rfl,rfl,λc j hc hj=>Va ?_⟩;obtain rfl:j=0:=by omega
 show _=PV.raw (.int .i64 ((Qh n i p (b+1)).getD c default));rw[oK c Za];unfold er;by_cases e:c=b
 .rw [Ba ⟨e,by omega,by simp⟩,Ba e]
  unfold Qj;rw[Ba h];rfl
 rw[Ca (λx=>e x.1),Ca (λx=>e x.1),Ca e];rfl
def oP{a N:Nat}(h:¬bw p (k:Int)=true)(hN:N=n.toNat)(ha:a=k):
 Ic (.arr true 1 3 N (er (lf zC (Qh n i p k)) a 0 [.raw (.int .i64 (n+(i:Int)*n+(k:Int)))])) (.arr true 1 3 N (lf zC (Qh n i p (k+1)))):=by
 subst ha;refine⟨λh=>h,rfl,rfl,rfl,λc j hc hj=>Va ?_⟩;obtain rfl:j=0:=by omega
 show _=PV.raw (.int .i64 ((Qh n i p (a+1)).getD c default));rw[oK c Za];unfold er;by_cases e:c=a
 .rw [Ba ⟨e,by omega,by simp⟩,Ba e]
  unfold Qj;rw[Ca h];rfl
 rw[Ca (λx=>e x.1),Ca e];rfl
def BO {s:AS}:(Hb s).fdiv (2^(min n.toNat 32))=0<->s>>>n.toNat=0:=by
 rw[yu,show(0:Int)=Hb 0 from rfl,dm]
def oN (h0:0<=n) (h1:n<=16) (hi:i<=64):0<=(i:Int)*n/\(i:Int)*n<=1024:=by
 refine⟨Int.mul_nonneg Za h0, ?_⟩;have h2:(i:Int)*n<=(i:Int)*16:=Int.mul_le_mul_of_nonneg_left h1 Za;omega
def gt (n:Int) (ps:List AS):Int×List Rw×Int :=
 if n<0\/16<n then(0,[],7)else if 64<ps.length then(0,[],3)else if ps.all (λp=>decide (p>>>n.toNat=0))=true then(n,ax (bf n ps),0) else(0,[],1)
def bF(h:n<0\/16<n):gt n ps=(0,[],7):=Ba h
def qT(h:¬(n<0\/16<n))(h2:64<ps.length):gt n ps=(0,[],3):=by unfold gt;rw[Ca h,Ba h2]
def uT (h:¬(n<0\/16<n)) (h2:¬64<ps.length) (hi:i<ps.length) (h3:¬(ps.getD i default)>>>n.toNat=0):gt n ps=(0,[],1):=by
 unfold gt;rw[Ca h,Ca h2,Ca (λe=>Ea (Tt (l:=ps) (p:=λp:AS=>decide (p>>>n.toNat=0)) hi (Ha h3)) (by rw[e];decide))]
def XJ (h:¬(n<0\/16<n)) (h2:¬64<ps.length) (h3:∀j,j<ps.length->(ps.getD j default)>>>n.toNat=0):gt n ps=(n,ax (bf n ps),0):=by
 unfold gt;rw[Ca h,Ca h2,Ba (Zq (l:=ps) (p:=λp:AS=>decide (p>>>n.toNat=0)) λj hj=>Fa (h3 j hj))]
def b3h (hi:i<ps.length) (hk:n.toNat<=k):Fc (.sl n.toNat 1 false (lf zC (Qh n i (ps.getD i default) k))) (lf rC (bf n ps) i 0):=by
 show Fc _ (zl ((bf n ps).getD i default));rw[nV hi,IQ n i _ hk];exact Wa (BE _ _ _) (.inl rfl) (λh=>h) λa j ha hj=>Ra
end
end
section
open Go.Proofs
def W7(n:Int)(ps:List AS):a6 Ab 198 [pI n,pP (Cd ps)] (a7 [pT (gt n ps).1 (gt n ps).2.1,pI (gt n ps).2.2]):=by
 refine Nb (nt:=73) func198 ?_;refine Rc ?_;refine m9 0 ?_;refine Cc ?_;refine af rfl rfl ?_ ?_<;>intro r0
 ·
  have h0:=Bc r0;(iterate 2 refine k9 (Yc r0) ?_);refine ce ?_;refine Db ?_
  have he:=bF (n:=n) (ps:=ps) Za;exact f9 rfl rfl (by rw[he];exact⟨Ob.agg ⟨Ra,bn,Aa⟩,Sa,Aa⟩)
 have h0:=Ac r0;(iterate 2 refine qy ?_ (hg:=(Jc r0)));refine Tb ?_;refine aj _ rfl ?_ ?_<;>intro r1
 .have h1:=Bc (ai r0 r1);refine Mb ?_;refine Db ?_;have he:=bF (n:=n) (ps:=ps) Za;exact f9 rfl rfl (by rw[he];exact⟨Ob.agg ⟨Ra,bn,Aa⟩,Sa,Aa⟩)
 have h1:=Ac (ai r0 r1);refine Jb ?_;refine Kb ?_ ?_<;>intro h2
 .refine Mb ?_;refine Db ?_;have he:=qT (n:=n) (ps:=ps) Za Za;exact f9 rfl rfl (by rw[he];exact⟨Ob.agg ⟨Ra,bn,Aa⟩,Sa,Aa⟩)
 refine Eb ?_;refine m9 1 ?_;refine Cb ?_;refine ej 1 1 900 true 1 89 (lf rC (bf n ps)) Zc rfl rfl Ya (.inr rfl) rfl rfl ?_;refine Wb ?_;refine aa (ι:=Nat) (ka 0 (ka 4 (ka 6 (ka 26 (ka 27 kn))))) (kb 0 km) (λi=>⟨[(28,some (vI i))],[(1,some (.box [.p (.raw (.int .i64 n)), .ref 900 i])),(900,some (.arr true 1 89 i (lf rC (bf n ps))))]⟩) (λi=>i<=ps.length/\∀j,j<i->(ps.getD j default)>>>n.toNat=0) (λi=>ps.length-i) (0) (⟨Zb _,aw⟩) kk ?_;rintro i ⟨hi,hI⟩;refine Eb ?_;refine Kb ?_ ?_<;>intro h3
 ·
  have hin:=oN (n:=n) (i:=i) Za Za Za;refine Sq ?_;refine Sc ?_ ?_<;>intro h4
  .refine Mb ?_;refine Db ?_;have he:=uT (n:=n) (ps:=ps) (i:=i) Za Za Za (λe=>Ea (BO.2 e) Gb);exact f9 rfl rfl (by rw[he];exact⟨Ob.agg ⟨Ra,bn,Aa⟩,Sa,Aa⟩)
  refine Mc ?_;refine m9 2 ?_;refine Cc ?_;refine bz (ka 0 (ka 4 (ka 6 (ka 7 (ka 8 (ka 9 (ka 26 (ka 27 (ka 28 (ka 40 kn)))))))))) (kb 1 (kb 900 (kb 0 km))) (λk=>⟨[(41,some (vI k))],[(2,some (.arr true 1 3 n.toNat (lf zC (Qh n i (ps.getD i default) k))))]⟩) n.toNat ⟨tt,⟨⟨_,rfl,(gS rfl (λ_=>rfl))⟩,Aa⟩⟩ ?_;rintro k hk;refine Eb ?_;refine Kb ?_ ?_<;>intro h5
  ·
   refine AY ?_;refine Kb ?_ ?_<;>intro h6
   .refine dg ?_;exact Ld (k+1) ⟨tt,⟨⟨_,rfl,(by first|exact eQ ((oq Za).1 Gb) rfl Za Za|exact oP (λe=>Ea ((oq Za).2 e) Gb) rfl Za)⟩,uu⟩⟩
   refine Eb ?_;exact Ld (k+1) ⟨tt,⟨⟨_,rfl,(by first|exact eQ ((oq Za).1 Gb) rfl Za Za|exact oP (λe=>Ea ((oq Za).2 e) Gb) rfl Za)⟩,uu⟩⟩
  refine cg ?_;refine b5 9 rfl rfl rfl ?_;refine Mc ?_;refine m9 3 ?_;refine Ed 4 true ?_;refine Jb ?_;refine Rb (i+1) ⟨tt,⟨u9,⟨_,rfl,(o0 (λh=>h) (λj hj=>by obtain rfl:j=0:=Za;exact b3h Za Za))⟩,uu⟩⟩ ?_;exact⟨by show i+1<=_;omega,al hI (BO.1 Gb)⟩
 obtain rfl:i=ps.length:=by omega
 refine Mc ?_;refine ke rfl rfl rfl rfl rfl rfl oI ((gJ n (bf n ps) (by rw[s7];omega))) (⟨⟨Ra,Da (HV.ref 900) (s7 _ _).symm,Aa⟩,Aa⟩) ⟨⟨_,rfl,gn rfl (s7 _ _).symm⟩,Aa⟩ rfl rfl ?_;refine Tb ?_;refine Db ?_;have he:=XJ (n:=n) (ps:=ps) Za Za (λj hj=>hI j Za);exact f9 rfl rfl (by rw[he];exact Ta)
end
section
def dp(n:Int):Rw:=(List.range n.toNat).map λ(i:Nat)=>(i:Int)
def IV(n:Int):(dp n).length=n.toNat:=by unfold dp;simp
section
variable {k:Nat}{n:Int}
def b3a (h:k<n.toNat):Fc (.raw (.int .i64 (k:Int))) (lf zC (dp n) k 0):=by
 refine Va ?_;show _=PV.raw (.int .i64 ((dp n).getD k default));unfold dp;rw[Oc,Pe,Hi h];rfl
def BD {i:Nat} {p:AS} (h:k<n.toNat):(Rj n i p).getD k default=Qj n i p k:=by
 unfold Rj;rw[Oc,Pe,Hi h];rfl
def WR {i:Nat} {p:AS} (h:k<n.toNat) (hh:bw p (k:Int)=true):Fc (.raw (.int .i64 (k:Int))) (lf zC (Rj n i p) k 0):=by
 refine Va ?_;show _=PV.raw (.int .i64 ((Rj n i p).getD k default));rw[BD h];unfold Qj;rw[Ba hh]
def nR {i:Nat} {p:AS} (h:k<n.toNat) (hh:bw p (k:Int)=false):Fc (.raw (.int .i64 (n+(i:Int)*n+(k:Int)))) (lf zC (Rj n i p) k 0):=by
 refine Va ?_;show _=PV.raw (.int .i64 ((Rj n i p).getD k default));rw[BD h];unfold Qj;rw[hh,Ca Zc]
def ay2 {ps:List AS} {i:Nat} (hi:i<ps.length) (hk:k=n.toNat):Fc (.sl k 1 false (lf zC (Rj n i (ps.getD i default)))) (lf rC (bf n ps) i 0):=by
 show Fc _ (zl ((bf n ps).getD i default));rw[nV hi];exact Wa (by rw[BE,hk]) (.inl rfl) (λh=>h) λa j ha hj=>Ra
def AA {s:AS} (h0:0<=n) (h1:n<=16):sub s (ak n)<->s>>>n.toNat=0:=by
 unfold ak;rw[Gi Za];exact zf Za
def Iw(l:List Rw)(x:Fd)(a b:Nat):Bool:=ll (l.getD a default) (l.getD b default) x.lhs&&!(l.any λr=>decide (r=dz (l.getD a default) (l.getD b default) x.rhs))
def FS {a b:Rw} {s:AS} {g:Nat->Nat->PV} {f:Nat->Nat->PV} {e:TypeId} (hf:∀i j,f i j=lf zC b i j):Ic (.arr true 1 e (0+b.length) (ek 0 g f)) (.arr true 1 e (0+b.length) (lf zC (nb a b s 0))):=by
 rw[<- BU];exact⟨λh=>h,rfl,rfl,rfl,λi j _ _=>Va (by simp[ek,hf])⟩
def AR {a b:Rw} {s:AS} {m:Nat} (hk:k=b.length) (hm:m=b.length):Ob (.one (.sl m 1 false (lf zC (nb a b s k)))) (pZ (dz a b s)):=by
 subst hk;rw[LS];exact ZG ((lg a b s).trans hm.symm)
end
end
section
open Go.Proofs
def P5 (n:Int) (h16:n<=16):a6 Ab 78 [pI n] (a7 [pZ (dp n)]):=by
 refine Nb (nt:=15) func78 ?_;refine Wb ?_;refine d9 3 900 true 1 3 (lf zC (dp n)) Zc rfl Ya (.inr rfl) rfl ?_;refine Mb ?_;refine bz (ka 0 kn) km (λi=>⟨[(3,some (.v (.one (.ref 900 i)))),(4,some (vI i))],[(900,some (.arr true 1 3 i (lf zC (dp n))))]⟩) n.toNat kk ?_;rintro i hi;refine Jb ?_;refine Kb ?_ ?_<;>intro h0
 .refine Mb ?_;refine m9 0 ?_;refine Ed 1 true ?_;refine Jb ?_;exact Ld (i+1) ⟨tt,⟨⟨_,rfl,(o0 (λh=>h) (λj hj=>by obtain rfl:j=0:=Za;exact b3a Za))⟩,Aa⟩⟩
 refine Cb ?_;refine b5 3 rfl rfl rfl ?_;refine Kc ?_;exact⟨Ob.one (Wa (by rw[IV];omega) (.inl rfl) (λh=>h) λa j ha hj=>Ra),Aa⟩
def bce(n:Int)(ps:List AS):a6 Ab 122 [pI n,pP (Cd ps)] (a7 [pT (gt n ps).1 (gt n ps).2.1,pI (gt n ps).2.2]):=by
 refine Nb (nt:=68) func122 ?_;refine Rc ?_;refine m9 0 ?_;refine Wb ?_;refine af rfl rfl ?_ ?_<;>intro r0
 ·
  have h0:=Bc r0;(iterate 2 refine k9 (Yc r0) ?_);refine Cc ?_;refine Db ?_
  have he:=bF (n:=n) (ps:=ps) Za;exact f9 rfl rfl (by rw[he];exact⟨Ob.agg ⟨Ra,bn,Aa⟩,Sa,Aa⟩)
 have h0:=Ac r0;(iterate 2 refine qy ?_ (hg:=(Jc r0)));refine Cb ?_;refine aj _ rfl ?_ ?_<;>intro r1
 .have h1:=Bc (ai r0 r1);refine Mb ?_;refine Db ?_;have he:=bF (n:=n) (ps:=ps) Za;exact f9 rfl rfl (by rw[he];exact⟨Ob.agg ⟨Ra,bn,Aa⟩,Sa,Aa⟩)
 have h1:=Ac (ai r0 r1);refine Wb ?_;refine Kb ?_ ?_<;>intro h2
 .refine Mb ?_;refine Db ?_;have he:=qT (n:=n) (ps:=ps) Za Za;exact f9 rfl rfl (by rw[he];exact⟨Ob.agg ⟨Ra,bn,Aa⟩,Sa,Aa⟩)
 refine Eb ?_;refine d9 6 900 true 1 89 (lf rC (bf n ps)) Zc rfl Ya (.inr rfl) rfl ?_;refine Mb ?_;refine aa (ι:=Nat) (ka 0 (ka 1 (ka 4 kn))) (kb 0 km) (λi=>⟨[(6,some (.v (.one (.ref 900 i)))),(7,some (vI i))],[(900,some (.arr true 1 89 i (lf rC (bf n ps))))]⟩) (λi=>i<=ps.length/\∀j,j<i->(ps.getD j default)>>>n.toNat=0) (λi=>ps.length-i) (0) (⟨Zb _,aw⟩) kk ?_;rintro i ⟨hi,hI⟩;refine Wb ?_;refine Kb ?_ ?_<;>intro h3
 ·
  have hin:=oN (n:=n) (i:=i) Za Za Za;refine dg ?_;refine Fb vq (ve n) ?_;refine Fb OD (cD _ _) ?_;refine Tb ?_;refine Xd ?_ ?_<;>intro h4
  .refine Mb ?_;refine Db ?_;have he:=uT (n:=n) (ps:=ps) (i:=i) Za Za Za (λe=>by have:=(AA (n:=n) Za Za).2 e;simp_all);exact f9 rfl rfl (by rw[he];exact⟨Ob.agg ⟨Ra,bn,Aa⟩,Sa,Aa⟩)
  refine Eb ?_;refine d9 8 901 true 1 3 (lf zC (Rj n i (ps.getD i default))) Zc rfl Ya (.inr rfl) rfl ?_;refine Mb ?_;refine bz (ka 0 (ka 1 (ka 4 (ka 6 (ka 7 kn))))) (kb 900 (kb 0 km)) (λk=>⟨[(8,some (.v (.one (.ref 901 k)))),(9,some (vI k))],[(901,some (.arr true 1 3 k (lf zC (Rj n i (ps.getD i default)))))]⟩) n.toNat kk ?_;rintro k hk;refine Jb ?_;refine Kb ?_ ?_<;>intro h5
  ·
   refine ce ?_;refine Fb Gu (Dt (ps.getD i default) (k:Int)) ?_;refine cn ?_;refine We ?_ ?_<;>intro h6
   .refine Tb ?_;refine m9 1 ?_;refine Ed 2 true ?_;refine Jb ?_;exact Ld (k+1) ⟨tt,⟨⟨_,rfl,(by first|exact(o0 (λh=>h) (λj hj=>by obtain rfl:j=0:=Za;exact WR Za Gb))|exact(o0 (λh=>h) (λj hj=>by obtain rfl:j=0:=Za;exact nR Za Gb)))⟩,uu⟩⟩
   refine Cc ?_;refine m9 3 ?_;refine Ed 4 true ?_;refine Jb ?_;exact Ld (k+1) ⟨tt,⟨⟨_,rfl,(by first|exact(o0 (λh=>h) (λj hj=>by obtain rfl:j=0:=Za;exact WR Za Gb))|exact(o0 (λh=>h) (λj hj=>by obtain rfl:j=0:=Za;exact nR Za Gb)))⟩,uu⟩⟩
  refine cg ?_;refine b5 8 rfl rfl rfl ?_;refine Tb ?_;refine m9 5 ?_;refine Ed 6 true ?_;refine Jb ?_;refine Rb (i+1) ⟨tt,⟨⟨_,rfl,(o0 (λh=>h) (λj hj=>by obtain rfl:j=0:=Za;exact ay2 Za Za))⟩,uu⟩⟩ ?_;exact⟨by show i+1<=_;omega,al hI ((AA Za Za).1 (by first|assumption|exact NC Gb))⟩
 obtain rfl:i=ps.length:=by omega
 refine Cb ?_;refine b5 6 rfl rfl rfl ?_;refine Tb ?_;refine rc rfl rfl rfl rfl rfl rfl dJ (VJ n (bf n ps) (by rw[s7];omega)) (⟨Sa,Ob.one (Wa (by rw[s7]) (.inl rfl) (λh=>h) λa j ha hj=>Ra),Aa⟩) rfl rfl ?_;refine Tb ?_;refine Db ?_;have he:=XJ (n:=n) (ps:=ps) Za Za (λj hj=>hI j Za);exact f9 rfl rfl (by rw[he];exact Ta)
end
section
def TL(n:Int)(l:List Rw):Prop:=∀r,r∈l->r.length=n.toNat/\∀z,z∈r->0<=z
section
variable {l:List Rw}
def nB {i:Nat} (h:i<l.length):l.getD i default∈l:=by
 rw[Oc,Hc h];exact De h
def sa {n:Int} (h:Bd n l=true):TL n l:=by
 obtain⟨h0,h1,h2,h3⟩:=jc h;unfold Bd at h;rw[Od,Ia,Ia]at h;rintro r hr;obtain⟨i,hi,rfl⟩:=Fg hr;have e:l.getD i default=l[i]:=by rw[Oc,Hc hi];rfl
 rw[<- e];refine⟨h3 i hi,λz hz=>?_⟩;have:=h.2 i hi;unfold pz at this;rw[Od,Od]at this;have h4:=this.1.2;rw[Nh,Dk]at h4;have:=h4 z hz;rw[Ia]at this;omega
def P9{n:Int}(h:Bd n l=true):ou l:=by
 unfold Bd at h;rw[Od,Ia,Ia]at h
 have hs:∀d i:Nat,i+d+1<l.length->He (l.getD i default) (l.getD (i+d+1) default)=true:=by
  intro d
  induction d with
  | zero =>
   intro i hi;have:=h.2 (i+1) hi;unfold pz at this;rw[Od,Kj,Ia]at this
   rcases this.2 with h5|h5
   .omega
   exact h5
  | succ d ih =>
   intro i hi;have h1:=ih i Za;have:=h.2 (i+d+1+1) Za;unfold pz at this;rw[Od,Kj,Ia]at this
   rcases this.2 with h5|h5
   .omega
   exact l6 h1 h5
 unfold ou;rw[Zk];intro i j hi hj hij;obtain⟨d,rfl⟩:∃d,j=i+d+1:=⟨j-i-1,by omega⟩;have:=hs d i hj;rwa [Oc,Hc hi,Oc,Hc hj]at this
def XP{n:Int}(h0:0<=n)(h1:n<=16)(h2:l.length<=256)(hw:TL n l)(ho:ou l):Bd n l=true:=by
 refine lH h0 h1 h2 λi hi=>?_;obtain⟨h3,h4⟩:=hw _ (nB hi);refine IA Za ?_ ?_
 .rw [Dk]
  intro z hz;have:=h4 z hz;rw[Ia];omega
 rcases Mj i with h|h
 .exact .inl h
 right;have:=Zk.1 ho (i-1) i Za hi Za;rw[Oc,Hc Za,Oc,Hc hi];exact this
def YK {n:Int} (h0:0<=n) (h1:n<=16) (h2:(ax l).length<=256) (hw:TL n l):Bd n (ax l)=true :=
 XP h0 h1 h2 (λr hr=>hw r (gw.1 hr)) (go l)
def Co(l:List Rw)(M:Nat->Nat->Int)(z:Int):Prop:=∃i r,i<l.length/\r<(l.getD i default).length/\M i r=z
def OR{z:Int}:Co l (d7 l) z<->∃r,r∈l/\z∈r:=by
 constructor
 .rintro ⟨i,r,hi,hr,rfl⟩
  refine⟨_,nB hi, ?_⟩;show(l.getD i default).getD r default∈_;rw[Oc (l:=l.getD i default),Hc hr];exact De hr
 rintro⟨r,hr,hz⟩;obtain⟨i,hi,rfl⟩:=Fg hr;obtain⟨k,hk,rfl⟩:=Fg hz;have e:l.getD i default=l[i]:=by rw[Oc,Hc hi];rfl
 refine⟨i,k,hi,by rw[e];exact hk, ?_⟩;show(l.getD i default).getD k default=_;rw[e,Oc,Hc hk];rfl
def yJ{M:Nat->Nat->Int}{z:Int}:(∃r,r∈e9 l M/\z∈r)<->Co l M z:=by
 constructor
 .rintro ⟨r,hr,hz⟩
  unfold e9 at hr;rw[Ad]at hr;obtain⟨i,hi,rfl⟩:=hr;rw[Ad]at hz;obtain⟨k,hk,rfl⟩:=hz;exact⟨i,k,Fe.1 hi,Fe.1 hk,rfl⟩
 rintro⟨i,k,hi,hk,rfl⟩;refine⟨(List.range (l.getD i default).length).map (M i), ?_,Ad.2 ⟨k,Fe.2 hk,rfl⟩⟩;unfold e9;exact Ad.2 ⟨i,Fe.2 hi,rfl⟩
end
section
variable {l:List Rw}{a b:Nat}(ha:a<l.length)(hb:b<l.length)
theorem MG(x y:Int):Di x y=x\/Di x y=y:=by unfold Di;split<;>simp
theorem FO(x y:Int):Sh x y=x\/Sh x y=y:=by unfold Sh;split<;>simp
include ha hb in
theorem YZ {M:Nat->Nat->Int} {j:Nat} (hja:j<(l.getD a default).length) (hjb:j<(l.getD b default).length) {z:Int} (h:Co l (Vk M a b j) z):Co l M z:=by
 obtain⟨i,r,hi,hr,he⟩:=h;unfold Vk at he;split at he
 .rcases MG (M a j) (M b j)with h|h
  .exact⟨a,j,ha,hja,by rw[<- he,h]⟩
  exact⟨b,j,hb,hjb,by rw[<- he,h]⟩
 exact⟨i,r,hi,hr,he⟩
include ha hb in
theorem UH:∀{js:List Nat} {M:Nat->Nat->Int},(∀j,j∈js->j<(l.getD a default).length/\j<(l.getD b default).length)->∀{z:Int},Co l (eqMs M a b js) z->Co l M z
 | [],_,_,_,h=>h
 |j::js,M,hj,z,h=>YZ ha hb (hj j Ec).1 (hj j Ec).2 (UH (js:=js) (M:=Vk M a b j) (λk hk=>hj k (by simp[hk])) h)
include ha hb in
theorem EU:∀{js:List Nat} {M:Nat->Nat->Int},(∀j,j∈js->j<(l.getD a default).length/\j<(l.getD b default).length)->(∃j,j∈js/\¬M a j=M b j)->∃z,Co l M z/\¬Co l (eqMs M a b js) z
 | [],_,_,⟨_,h,_⟩=>by simp at h
 | j :: js,M,hj,⟨k,hk,hne⟩=>by
  by_cases e:M a j=M b j
  .have e2:eqMs M a b (j::js)=eqMs M a b js:=by
    show eqMs (Vk M a b j) a b js=_;rw[wd e]
   rw[e2];refine EU (λk hk=>hj k (by simp[hk])) ⟨k, ?_,hne⟩
   rcases Jd.1 hk with h|h
   .subst h;exact Ea e hne
   exact h
  refine⟨Sh (M a j) (M b j), ?_,λh=>?_⟩
  .rcases FO (M a j) (M b j)with h|h
   .exact⟨a,j,ha,(hj j Ec).1,h.symm⟩
   exact⟨b,j,hb,(hj j Ec).2,h.symm⟩
  obtain⟨i,r,hi,hr,he⟩:=UH ha hb (λk hk=>hj k (by simp[hk])) (show Co l (eqMs (Vk M a b j) a b js) _ from h);unfold Vk at he;split at he
  .unfold Sh Di at he
   split at he<;>split at he<;>omega
  rename_i h2;exact h2 he
end
def Wv(Z:List Int)(l:List Rw):Nat:=Z.countP λz=>l.any λr=>decide (z∈r)
def Tj(Z:List Int)(l:List Rw):Nat:=Wv Z l*300+(300-l.length)
def Mu(Z:List Int)(l:List Rw):Prop:=∀r,r∈l->∀z,z∈r->z∈Z
def Ny {l:List Rw} {z:Int}:(l.any λr=>decide (z∈r))=true<->∃r,r∈l/\z∈r:=by
 rw[Yf];exact⟨λ⟨r,h,h2⟩=>⟨r,h,Ga h2⟩,λ⟨r,h,h2⟩=>⟨r,h,Fa h2⟩⟩
def Kh {p q:Int->Bool}:∀{Z:List Int},(∀z,p z=true->q z=true)->(∃z,z∈Z/\q z=true/\p z=false)->Z.countP p<Z.countP q
 | [],_,⟨_,h,_⟩=>by simp at h
 | x :: Z,h,⟨z,hz,hq,hp⟩=>by
  have hm:Z.countP p<=Z.countP q:=List.countP_mono_left λz _=>h z;rw[Lo,Lo]
  rcases Jd.1 hz with rfl|hz
  .rw [hq,hp]
   simp only[Ma,Nj,Na];omega
  have:=Kh (Z:=Z) h ⟨z,hz,hq,hp⟩;by_cases e:p x=true
  .rw[e,h x e];omega
  rw[Ca e];omega
def b98 {Z:List Int} {l l':List Rw} (h:∀z,(∃r,r∈l'/\z∈r)->∃r,r∈l/\z∈r) (h2:∃z,z∈Z/\(∃r,r∈l/\z∈r)/\¬ ∃r,r∈l'/\z∈r):Wv Z l'<Wv Z l:=by
 refine Kh (λz hz=>Ny.2 (h z (Ny.1 hz))) ?_;obtain⟨z,h3,h4,h5⟩:=h2;exact⟨z,h3,Ny.2 h4,by rw[Ie];exactλe=>h5 (Ny.1 e)⟩
def bcv {Z:List Int} {l l':List Rw} (h:∀z,(∃r,r∈l'/\z∈r)->∃r,r∈l/\z∈r):Wv Z l'<=Wv Z l :=
 List.countP_mono_left λz _ hz=>Ny.2 (h z (Ny.1 hz))
end
section
def GT {r:Rw}:∀{l:List Rw},r∉l->(kf r l).length=l.length+1
 | [],_=>rfl
 | y::l,h=>by
  unfold kf;have h1:¬r=y:=λe=>h (by rw[e];simp);have h2:=GT (l:=l) (r:=r) λe=>h (by simp[e]);rw[Ca h1];split
  .simp
  simp only[Zf];omega
def b1j {l:List Rw} {r:Rw} (ho:ou l):ax (l++[r])=kf r l:=by
 have e:l=ax l:=jS ho λ_=>Oa
 have:ax (l++[r])=kf r (ax l):=by
  unfold ax;rw[Oi];rfl
 rw[this,<- e]
section
variable {n:Int}{l:List Rw}{a b:Nat}{x:Fd}
abbrev Bq(l:List Rw)(a b:Nat)(x:Fd):List Rw:=ax (e9 l (eqMs (d7 l) a b (am x.rhs)))
def LG(hT:Bd n l=true)(hu:Ue n x=true)(ha:a<l.length)(hb:b<l.length)(hs:fb l x a b=true) :
 Hj n l a b x=(n,Bq l a b x,0)/\Bd n (Bq l a b x)=true/\(∀z,(∃r,r∈Bq l a b x/\z∈r)->∃r,r∈l/\z∈r)/\∀Z,Mu Z l->Tj Z (Bq l a b x)<Tj Z l:=by
 obtain⟨h0,h1,h2,h3⟩:=jc hT;have hw:=sa hT;unfold fb at hs;rw[Od,Nh]at hs;obtain⟨hl,hr⟩:=hs
 have hj:∀j,j∈am x.rhs->j<(l.getD a default).length/\j<(l.getD b default).length:=λj hj=>by
  have:=AE h0 h1 hu hj;exact⟨by rw[h3 a ha];exact this,by rw[h3 b hb];exact this⟩
 have hV:∀z,(∃r,r∈Bq l a b x/\z∈r)->∃r,r∈l/\z∈r:=λz ⟨r,hr,hz⟩=>OR.1 (UH ha hb hj (yJ.1 ⟨r,gw.1 hr,hz⟩));have hlen:(Bq l a b x).length<=l.length:=Nd (BF _) (Hn (mq _ _));refine⟨Ba hl,YK h0 h1 (Nd hlen h2) (λr hr=>⟨?_,λz hz=>?_⟩),hV,λZ hZ=>?_⟩
 .unfold e9 at hr
  rw[Ad]at hr;obtain⟨i,hi,rfl⟩:=hr;rw[Yd,Jm];exact h3 i (Fe.1 hi)
 .obtain ⟨r2,h5,h6⟩:=hV z ⟨r,gw.2 hr,hz⟩
  exact(hw r2 h5).2 z h6
 have hne:∃j,j∈am x.rhs/\¬d7 l a j=d7 l b j:=by
  apply La;intro hno;rw[Cx]at hr
  .cases hr
  intro i hi hh;apply La;intro e
  have hi2:i<32:=by
   have:=h3 a ha;omega
  rw[j6 hi2]at hh;exact hno ⟨i,od.2 ⟨hi2,hh⟩,e⟩
 obtain⟨z,hz1,hz2⟩:=EU ha hb hj hne;have hz3:=OR.1 hz1;have:=b98 (Z:=Z) hV ⟨z,by obtain⟨r,h7,h8⟩:=hz3;exact hZ r h7 z h8,hz3,λ⟨r,h7,h8⟩=>hz2 (yJ.1 ⟨r,gw.1 h7,h8⟩)⟩;unfold Tj;omega
abbrev Ds(l:List Rw)(a b:Nat)(x:Fd):List Rw:=ax (l++[dz (l.getD a default) (l.getD b default) (x.lhs|||x.rhs)])
def Q2(hT:Bd n l=true)(ha:a<l.length)(hb:b<l.length)(hs:fk l x a b=true) :
 Xi n l a b x=(0,[],3)\/(Xi n l a b x=(n,Ds l a b x,0)/\Bd n (Ds l a b x)=true/\(∀z,(∃r,r∈Ds l a b x/\z∈r)->∃r,r∈l/\z∈r)/\∀Z,Mu Z l->Tj Z (Ds l a b x)<Tj Z l):=by
 obtain⟨h0,h1,h2,h3⟩:=jc hT;have hw:=sa hT;unfold fk at hs;rw[Od,Nh]at hs;obtain⟨hl,hr⟩:=hs;have hno:=qQ hr;have hE:Xi n l a b x=vh n l (dz (l.getD a default) (l.getD b default) (x.lhs|||x.rhs)):=Ba hl;by_cases hbig:256<(Ds l a b x).length
 .left
  rw[hE];exact Ba hbig
 right
 have hmem:∀z,z∈dz (l.getD a default) (l.getD b default) (x.lhs|||x.rhs)->z∈l.getD a default\/z∈l.getD b default:=λz hz=>by
  unfold dz at hz;rw[Ad]at hz;obtain⟨i,hi,rfl⟩:=hz;have hi:=Fe.1 hi;have hi2:i<(l.getD a default).length:=by rw[h3 a ha,<- h3 b hb];exact hi
  split
  .left
   rw[Oc (l:=l.getD a default),Hc hi2];exact De hi2
  right;rw[Oc (l:=l.getD b default),Hc hi];exact De hi
 have hV:∀z,(∃r,r∈Ds l a b x/\z∈r)->∃r,r∈l/\z∈r:=λz ⟨r,hr,hz⟩=>by
  rcases Af.1 (gw.1 hr)with h|h
  .exact⟨r,h,hz⟩
  rw[Bf]at h;subst h
  rcases hmem z hz with h|h
  .exact⟨_,nB ha,h⟩
  exact⟨_,nB hb,h⟩
 refine⟨by rw[hE];exact Ca hbig,YK h0 h1 (Fz λe=>hbig e) (λr hr=>⟨?_,λz hz=>?_⟩),hV,λZ hZ=>?_⟩
 .rcases Af.1 hr with h|h
  .exact(hw r h).1
  rw[Bf]at h;subst h;rw[lg];exact h3 b hb
 .obtain ⟨r2,h5,h6⟩:=hV z ⟨r,gw.2 hr,hz⟩
  exact(hw r2 h5).2 z h6
 have e:(Ds l a b x).length=l.length+1:=by
  show(ax _).length=_;rw[b1j (P9 hT),GT hno]
 have:=bcv (Z:=Z) hV;unfold Tj;omega
end
def eP {α:Type} {f:Nat->Option α}:∀{n:Nat} {x:α},(List.range n).findSome? f=some x->∃k,k<n/\f k=some x:=λ{n x} h=>by
 obtain⟨k,hk,e⟩:=XF h;exact⟨k,Fe.1 hk,e⟩
def qL {P:Nat->Nat->Nat->Bool} {I L i a b:Nat} (h:fw P I L=some (i,a,b)):i<I/\a<L/\b<L/\P i a b=true:=by
 obtain⟨i',hi,h⟩:=eP h;obtain⟨a',ha,h⟩:=eP h;rw[Option.map_eq_some_iff]at h;obtain⟨b',hb,e⟩:=h;simp only[Tc]at e;obtain⟨rfl,rfl,rfl⟩:=e;exact⟨hi,ha,Fe.1 (Pz hb),by simpa using Xu hb⟩
def yt(l:List Rw)(p m:List Fd)(s:St):Prop:=s.2.2.1<l.length/\s.2.2.2<l.length/\((s.1=false/\s.2.1<p.length/\fb l (p.getD s.2.1 default) s.2.2.1 s.2.2.2=true)\/(s.1=true/\s.2.1<m.length/\fk l (m.getD s.2.1 default) s.2.2.1 s.2.2.2=true))
section
variable {l:List Rw}{m p:List Fd}
def bE{s:St}(h:f0 l p m=some s):yt l p m s:=by
 unfold f0 at h;split at h
 .rename_i x e
  simp only[Bb]at h;subst h;obtain⟨i,a,b⟩:=x;obtain⟨h1,h2,h3,h4⟩:=qL e;exact⟨h2,h3, .inl ⟨rfl,h1,h4⟩⟩
 rw[Option.map_eq_some_iff]at h;obtain⟨⟨i,a,b⟩,e,rfl⟩:=h;obtain⟨h1,h2,h3,h4⟩:=qL e;exact⟨h2,h3, .inr ⟨rfl,h1,h4⟩⟩
def du(n:Int)(l:List Rw)(p m:List Fd)(s:St):Int×List Rw×Int:=if s.1=true then Xi n l s.2.2.1 s.2.2.2 (m.getD s.2.1 default)else Hj n l s.2.2.1 s.2.2.2 (p.getD s.2.1 default)
def tH{n:Int}{s:St}(hT:Bd n l=true)(hp:p.all (Ue n)=true)(h:yt l p m s):
 du n l p m s=(0,[],3)\/∃l',du n l p m s=(n,l',0)/\Bd n l'=true/\(∀Z,Mu Z l->Mu Z l'/\Tj Z l'<Tj Z l):=by
 obtain⟨ha,hb,h|h⟩:=h
 .obtain ⟨h1,h2,h3⟩:=h
  have hu:Ue n (p.getD s.2.1 default)=true:=Ze.1 hp _ (by rw[Oc,Hc h2];exact De h2);obtain⟨e,h4,h5,h6⟩:=LG hT hu ha hb h3;exact .inr ⟨_,by unfold du;rw[Ca (by rw[h1];decide)];exact e,h4,λZ hZ=>⟨λr hr z hz=>by obtain⟨r2,h7,h8⟩:=h5 z ⟨r,hr,hz⟩;exact hZ r2 h7 z h8,h6 Z hZ⟩⟩
 obtain⟨h1,h2,h3⟩:=h
 rcases Q2 hT ha hb h3 with e|⟨e,h4,h5,h6⟩
 .exact .inl (by unfold du;rw[Ba h1];exact e)
 exact .inr ⟨_,by unfold du;rw[Ba h1];exact e,h4,λZ hZ=>⟨λr hr z hz=>by obtain⟨r2,h7,h8⟩:=h5 z ⟨r,hr,hz⟩;exact hZ r2 h7 z h8,h6 Z hZ⟩⟩
def j8:Nat->Int->List Rw->List Fd->List Fd->List St->List St×(Int×List Rw)×Int
 |0,_,_,_,_,_=>([],(0,[]),0)
 | f + 1,n,l,p,m,acc =>
  match f0 l p m with
  |none=>(acc,(n,l),0)
  | some s=>match du n l p m s with
   |(n',l',e)=>if e=0 then j8 f n' l' p m (acc++[s]) else([],(0,[]),e)
variable {acc:List St}
def RV {f:Nat} {n:Int} (hf:0<f) (h:f0 l p m=none):j8 f n l p m acc=(acc,(n,l),0):=by
 obtain⟨g,rfl⟩:∃g,f=g+1:=⟨f-1,by omega⟩;unfold j8;rw[h]
def kW {f:Nat} {n:Int} {s:St} (hf:0<f) (h:f0 l p m=some s) {n' e:Int} {l':List Rw} (h2:du n l p m s=(n',l',e)) (he:¬e=0):j8 f n l p m acc=([],(0,[]),e):=by
 obtain⟨g,rfl⟩:∃g,f=g+1:=⟨f-1,by omega⟩;unfold j8;rw[h];simp only;rw[h2];simp only;rw[Ca he]
def NL {f:Nat} {n:Int} {s:St} (hf:0<f) (h:f0 l p m=some s) {n':Int} {l':List Rw} (h2:du n l p m s=(n',l',0)):j8 f n l p m acc=j8 (f-1) n' l' p m (acc++[s]):=by
 obtain⟨g,rfl⟩:∃g,f=g+1:=⟨f-1,by omega⟩;rw[Nat.add_sub_cancel]
 conv=>lhs;unfold j8
 rw[h];simp only;rw[h2];simp only;rw[Ba trivial]
end
end
section
open Go.Proofs
def O4(n:Int)(l:List Rw)(p m:List Fd)(s:St)(hT:Bd n l=true)(hp:p.all (Ue n)=true)(h:yt l p m s) :
 a6 Ab 204 [pT n l,pP (Ub p),pP (Ub m),s.pc] (a7 [pT (du n l p m s).1 (du n l p m s).2.1,pI (du n l p m s).2.2]):=by
 obtain⟨mu,i,a,b⟩:=s;obtain⟨ha,hb,h|h⟩:=h
 .obtain ⟨h1,h2,h3⟩:=h
  cases h1;exact QR n l p m i a b hT ha hb h2 (Ze.1 hp _ (by rw[Oc,Hc h2];exact De h2))
 obtain⟨h1,h2,h3⟩:=h;cases h1;exact SQ n l p m i a b hT ha hb h2
abbrev St.c(s:St):Nat->PV:=λj=>[.raw (.bool s.1), .raw (.int .i64 (s.2.1:Int)), .raw (.int .i64 (s.2.2.1:Int)), .raw (.int .i64 (s.2.2.2:Int))].getD j .any
abbrev Am(l:List St):PV:=Ff 4 St.c l
abbrev Pg(n:Int)(l:List Rw)(p m:List Fd):Int:=if Bd n l=true then c8 n p m else 1
section
variable {l:List Rw}{m p:List Fd}{n:Int}
def XD(h:Pg n l p m=0):Bd n l=true/\c8 n p m=0/\p.all (Ue n)=true:=by
 unfold Pg at h;by_cases e:Bd n l=true
 .rw [Ba e]at h
  exact⟨e,h,(l8 h).2.2.2.1⟩
 rw[Ca e]at h;omega
def jj(F:Nat)(n:Int)(l:List Rw)(p m:List Fd):List St×(Int×List Rw)×Int:=if Pg n l p m=0 then j8 F n l p m [] else([],(0,[]),Pg n l p m)
variable {F:Nat}
def MJ(h:¬Pg n l p m=0):jj F n l p m=([],(0,[]),Pg n l p m):=Ca h
def wg(h:Pg n l p m=0):jj F n l p m=j8 F n l p m []:=Ba h
def bR{α:Type}{o:Option α}(h:o.isSome=false):o=none:=by cases o<;>simp_all
def JQ{α:Type}{o:Option α}(d:α)(h:o.isSome=true):o=some (o.getD d):=by cases o<;>simp_all
def vT(l:List Rw):Mu l.flatten l:=λr hr z hz=>List.mem_flatten.2 ⟨r,hr,hz⟩
structure Kl (F:Nat) (n:Int) (l:List Rw) (p m:List Fd) (x:Nat×List Rw×List St):Prop where
 t:Bd n x.2.1=true
 c:Mu l.flatten x.2.1
 u:Tj l.flatten x.2.1<x.1
 b:x.2.2.length+x.1<=F
 e:j8 x.1 n x.2.1 p m x.2.2=j8 F n l p m []
theorem Kl.start(hT:Bd n l=true)(hF:Tj l.flatten l<F):Kl F n l p m (F,l,[]):=⟨hT,vT l,hF,by simp,rfl⟩
variable {x:Nat×List Rw×List St}
theorem Kl.next {s:St} (h:Kl F n l p m x) (hp:p.all (Ue n)=true) (hS:f0 x.2.1 p m=some s) (he:(du n x.2.1 p m s).2.2=0):
 (du n x.2.1 p m s).1=n/\Kl F n l p m (x.1-1,(du n x.2.1 p m s).2.1,x.2.2++[s]):=by
 have hu:=h.u;have hb:=h.b
 rcases tH h.t hp (bE hS)with e|⟨l',e,h1,h2⟩
 .rw[e]at he;exact Ea he Zc
 have hq:=h2 _ h.c;refine⟨by rw[e], ?_⟩;rw[e];exact⟨h1,hq.1,by show Tj _ l'<_;omega,by simp only[Uc,Yk];omega,by rw[<- h.e,NL Za hS e]⟩
theorem Kl.fin (h:Kl F n l p m x) (hS:f0 x.2.1 p m=none):j8 F n l p m []=(x.2.2,(n,x.2.1),0):=by
 have hu:=h.u;rw[<- h.e,RV Za hS]
theorem Kl.err {s:St} (h:Kl F n l p m x) (hS:f0 x.2.1 p m=some s) (he:¬(du n x.2.1 p m s).2.2=0):j8 F n l p m []=([],(0,[]),(du n x.2.1 p m s).2.2):=by
 have hu:=h.u;rw[<- h.e];exact kW Za hS rfl he
end
end
section
open Go.Proofs
def C7(F:Nat)(n:Int)(l:List Rw)(p m:List Fd)(hF:Bd n l=true->Tj l.flatten l<F)(hFb:F<=4000000000):a6 Ab 199 [pT n l,pP (Ub p),pP (Ub m)] (a7 [pP (Am (jj F n l p m).1),pT (jj F n l p m).2.1.1 (jj F n l p m).2.1.2,pI (jj F n l p m).2.2]):=by
 refine Nb (nt:=53) func199 ?_;refine Rc ?_;refine m9 0 ?_;refine qy ?_;refine m9 1 ?_;refine Wb ?_;refine Fb OI (AJ n l p m) ?_;refine Jb ?_;refine Sc ?_ ?_<;>intro h0
 .refine Wb ?_;refine Db ?_;have he:=MJ (F:=F) (n:=n) (l:=l) (p:=p) (m:=m) Gb;exact f9 rfl rfl (by rw[he];exact⟨Ob.one (Wa rfl (.inr rfl) (λ_=>rfl) (λi j hi _=>Ea hi (Ud i))),Ob.agg ⟨Ra,bn,Aa⟩,Sa,Aa⟩)
 have hck:Pg n l p m=0:=by assumption
 obtain⟨hT,hbe,hpa⟩:=XD hck;obtain⟨hn0,hn16,hl256,hrow⟩:=jc hT;have hbig:∀i,i<l.length->(l.getD i default).length<=17592186044416:=λi hi=>by rw[hrow i hi];omega
 refine Mc ?_;refine Fb jJ (b3z n l hbig Za) ?_;refine Mb ?_;refine d9 10 900 true 4 187 (lf St.c []) Zc rfl Ya (.inr rfl) rfl ?_;refine aF ?_;refine aa (ι:=Nat×List Rw×List St) (ka 1 (ka 2 (ka 3 (ka 7 kn)))) (kb 1 km) (λx=>⟨[(10,some (.v (.one (.ref 900 x.2.2.length))))],[(0,some (.box [.p (.raw (.int .i64 n)), .p (rl x.2.1)])),(900,some (.arr true 4 187 x.2.2.length (lf St.c x.2.2)))]⟩) (λx=>Kl F n l p m x) (λx=>x.1) ((F,l,[])) (Kl.start hT (hF hT)) kk ?_;rintro x hX;have hXu:=hX.u;have hXb:=hX.b;refine Mb ?_;refine Fb (Ib func232) (L6 n x.2.1 p m hX.t) ?_;refine Tb ?_;refine m9 2 ?_;refine Cc ?_;refine Xd ?_ ?_<;>intro h1
 .have hS:=bR (by simpa using h1);refine Cc ?_;refine b5 6 rfl rfl rfl ?_;refine Db ?_;have he:=(wg hck).trans (hX.fin hS);exact f9 rfl rfl (by rw[he];exact Ta)
 have hS:=JQ (false,0,0,0) (by simpa using h1);refine Jb ?_;refine Fb EI (O4 n x.2.1 p m ((f0 x.2.1 p m).getD (false,0,0,0)) hX.t hpa (bE hS)) ?_;refine Tb ?_;refine m9 3 ?_;refine Cc ?_;refine Sc ?_ ?_<;>intro h2
 .refine Wb ?_;refine Db ?_;have he:=(wg hck).trans (hX.err hS Gb);exact f9 rfl rfl (by rw[he];exact⟨Ob.one (Wa rfl (.inr rfl) (λ_=>rfl) (λi j hi _=>Ea hi (Ud i))),Ob.agg ⟨Ra,bn,Aa⟩,Sa,Aa⟩)
 have hnx:=hX.next hpa hS Gb
 refine Mc ?_;refine m9 4 ?_;refine Ed 5 true ?_;refine Eb ?_;refine⟨(x.1-1,(du n x.2.1 p m ((f0 x.2.1 p m).getD (false,0,0,0))).2.1,x.2.2++[((f0 x.2.1 p m).getD (false,0,0,0))]), ?_, ?_, ?_⟩
 .exact hnx.2
 .show x.1-1<x.1
  omega
 exact⟨⟨⟨_,rfl,(d6 rfl)⟩,tt⟩,⟨⟨_,rfl,⟨Va (by rw[hnx.1]),Tg.refl _,Aa⟩⟩,⟨_,rfl,(o7 rfl (λj hj=>by match j,hj with|0,_=>exact Ra|1,_=>exact Ra|2,_=>exact Ra|3,_=>exact Ra) rfl)⟩,uu⟩⟩
end
def YT:∀{l:List Rw},(∀r,r∈l->r.length<=16)->l.flatten.length<=16*l.length
 | [],_=>by simp
 | r::l,h=>by
  have h1:=h r Ec;have h2:=YT (l:=l) λr hr=>h r (by simp[hr]);simp only[List.flatten_cons,Uc,Zf];omega
abbrev FU:Nat:=1300000
def QH {n:Int} {l:List Rw} (h:Bd n l=true):Tj l.flatten l<FU:=by
 obtain⟨h0,h1,h2,h3⟩:=jc h;have h4:=YT (l:=l) λr hr=>by have:=(sa h r hr).1;omega
 have h5:Wv l.flatten l<=l.flatten.length:=List.countP_le_length;unfold Tj;show _<1300000;omega
def B7{n:Int}{i:Nat}{p:AS}{k a N:Nat}(h:bw p (k:Int)=true)(hN:N=n.toNat)(ha:a=k) :
 Ic (.arr true 1 3 N (er (lf zC (Qh n i p k)) a 0 [.raw (.int .i64 (k:Int))])) (.arr true 1 3 N (lf zC (Qh n i p (k+1)))):=by
 subst ha;refine⟨λh=>h,rfl,rfl,rfl,λc j hc hj=>Va ?_⟩;obtain rfl:j=0:=by omega
 show _=PV.raw (.int .i64 ((Qh n i p (a+1)).getD c default));rw[oK c Za];unfold er;by_cases e:c=a
 .rw [Ba ⟨e,by omega,by simp⟩,Ba e]
  unfold Qj;rw[Ba h];rfl
 rw[Ca (λx=>e x.1),Ca e];rfl
def rP {k:Nat} (h:k<32):bw (l4 32) (k:Int)=true:=by
 rw[j6 h,oe 32 k h];exact Fa h
def b1d {n:Int} {k:Nat} (h1:n<=16) (hk:n.toNat<=k):Qh n 0 (l4 32) k=dp n:=by
 rw[IQ _ _ _ hk];unfold Rj dp;refine Mn λc hc=>?_;have:=Fe.1 hc;unfold Qj;rw[Ba (rP Za)]
def axz {n:Int} {k:Nat} (h1:n<=16) (hk:n.toNat<=k):Ob (.one (.sl n.toNat 1 false (lf zC (Qh n 0 (l4 32) k)))) (pZ (dp n)):=by
 rw[b1d h1 hk];exact ZG (IV n)
abbrev Ir(n:Int)(x:Fd):List AS:=[x.lhs|||x.rhs,x.lhs|||(ak n&&&~~~x.rhs)]
def bt8(n:Int)(p m:List Fd)(x:Fd):Bool×Int :=
 if c8 n p m=0 then
  if Ue n x=true then
   if (gt n (Ir n x)).2.2=0 then
    if(jj FU (gt n (Ir n x)).1 (gt n (Ir n x)).2.1 p m).2.2=0 then((jj FU (gt n (Ir n x)).1 (gt n (Ir n x)).2.1 p m).2.1.2.any (λr=>decide (r=dp n)),0)
    else(false,(jj FU (gt n (Ir n x)).1 (gt n (Ir n x)).2.1 p m).2.2)
   else(false,(gt n (Ir n x)).2.2)
  else(false,1)
 else(false,c8 n p m)
def L4 {r:Rw} {g f:Nat->Nat->PV} (hf:∀i j,f i j=lf zC r i j):Fc (.sl (0+r.length) 1 false (ek 0 g f)) (zl r) :=
 Wa (Oe _).symm (.inl rfl) (λh=>h) λi j hi hj=>Va (by simp[ek,hf])
def awm {l:List Rw} {i k:Nat} {g f:Nat->Nat->PV} {e et:TypeId} (hk:k=(l.getD i default).length) (hf:∀a b,f a b=lf zC (l.getD i default) a b) :
 Ic (.nest e et 1 (i+1) (ju (nM l) i k) (om (mg (d7 l)) i (ek 0 g f)) none) (.nest e et 1 (i+1) (nM l) (mg (d7 l)) none):=by
 have e:ek 0 g f=lf zC (l.getD i default):=by funext a b;simp[ek,hf]
 rw[e];exact wU hk rfl
section
open Go.Proofs
def NI:goodFn Ab 174:=Ib func174
def aT (l:List Rw) (hl:∀i,i<l.length->(l.getD i default).length<=17592186044416) (hl2:l.length<=5864062014805):dn Ab 174 [.one (.p (rl l))] [] (.v (.one (.ref 901 l.length))) [(901, .arr true 1 89 l.length (lf rC l))] []:=by
 refine Eg (nt:=21) func174 ?_;refine cw ?_;refine cj 0 rfl λhn=>?_;refine Jb ?_;refine d9 3 901 true 1 89 (lf rC l) Zc rfl Ya (.inr rfl) rfl ?_;refine Mb ?_;refine bz (ka 0 kn) km (λi=>⟨[(3,some (.v (.one (.ref 901 i)))),(4,some (vI i))],[(901,some (.arr true 1 89 i (lf rC l)))]⟩) l.length kk ?_;rintro i hi;refine Wb ?_;refine Kb ?_ ?_<;>intro h0
 .have hli:=hl i Za;refine Tb ?_;refine i9 [0,1,2,3,4,5,6] [7,8,9] rfl ?_;refine jy (E:=ig) gi ?_;refine qy ?_;refine m9 0 ?_;refine Mc ?_;refine Ed 1 true ?_;refine cn ?_;refine OG ?_;refine ayg 17 rfl rfl rfl ?_;refine zx ?_;refine jy (E:=ig) (L1:=[7,8,9]) (L2:=[]) gi ?_;refine m9 2 ?_;refine Ed 3 true ?_;refine Cb ?_;refine nu ?_;refine Eb ?_;exact Ld (i+1) ⟨tt,⟨⟨_,rfl,(o0 (λh=>h) (λj hj=>by obtain rfl:j=0:=Za;exact L4 (λ_ _=>rfl)))⟩,Aa⟩⟩
 obtain rfl:i=l.length:=by omega
 refine Mb ?_;refine Db ?_;exact⟨_,_,rfl,Uf,Ua,uu⟩
def azn (l:List Rw) (hl:∀i,i<l.length->(l.getD i default).length<=17592186044416) (hl2:l.length<=5864062014805):dn Ab 174 [.one (.p (rl l))] [] (.v (.one (.ref 901 l.length))) [(901, .nest 89 3 1 l.length (nM l) (mg (d7 l)) none)] []:=by
 refine Eg (nt:=21) func174 ?_;refine cw ?_;refine cj 0 rfl λhn=>?_;refine Jb ?_;refine azm 3 901 89 3 1 (nM l) (mg (d7 l)) Zc rfl rfl ?_;refine Mb ?_;refine bz (ka 0 kn) km (λi=>⟨[(3,some (.v (.one (.ref 901 i)))),(4,some (vI i))],[(901,some (.nest 89 3 1 i (nM l) (mg (d7 l)) none))]⟩) l.length kk ?_;rintro i hi;refine Wb ?_;refine Kb ?_ ?_<;>intro h0
 .have hli:=hl i Za;refine Eb ?_;refine m9 0 ?_;refine Mc ?_;refine Ed 1 true ?_;refine m9 2 ?_;refine Ed 3 true ?_;refine Cb ?_;refine qU 901 0 rfl rfl ?_;refine Eb ?_;exact Ld (i+1) ⟨tt,⟨⟨_,rfl,(awm (Oe _) (λ_ _=>rfl))⟩,Aa⟩⟩
 obtain rfl:i=l.length:=by omega
 refine Mb ?_;refine Db ?_;exact⟨_,_,rfl,Uf,Ua,uu⟩
end
def b2d{s:AS}{n:Nat}(hn:n<=32)(h:∀j,j∈am s->j<n):gm s n=am s:=by
 have h2:∀d,n+d<=32->gm s (n+d)=gm s n:=by
  intro d
  induction d with
  |zero=>intro _;rfl
  | succ d ih =>
   intro hd
   have hf:bw s ((n+d:Nat):Int)=false:=by
    rw[j6 Za,Ie];intro e;have:=h _ (od.2 ⟨by omega,e⟩);omega
   rw[<- ih Za];exact RE (i:=n+d) (show n+d<32 by omega) hf
 have:=h2 (32-n) Za;rw[<- this,show n+(32-n)=32 by omega];rfl
def uw {M:Nat->Nat->Int} {a b j:Nat} {js:List Nat}:eqMs M a b (js++[j])=Vk (eqMs M a b js) a b j:=by
 unfold eqMs;rw[Oi];rfl
def b6h {l:List Rw} {M:Nat->Nat->Int} {n:Nat} (hn:n=l.length):Fc (.sl n 1 false (Cr 1 (nM l) (mg M))) (rl (e9 l M)):=by
 obtain⟨_,_,_,h1,h2⟩:=GR (l:=l) (M:=M) (e:=25) hn;exact Wa h1 (.inl rfl) (λh=>h) h2
section
open Go.Proofs
def b5i(n:Int)(l:List Rw)(s:AS)(a b:Nat)(h0:0<=n)(h1:n<=16)(hrow:∀i,i<l.length->(l.getD i default).length=n.toNat)(hl2:l.length<=4294967296)(ha:a<l.length)(hb:b<l.length)(hs:∀j,j∈am s->j<n.toNat):a6 Ab 178 [pT n l,pA s,pI (a:Int),pI (b:Int)] (a7 [pT n (ax (e9 l (eqMs (d7 l) a b (am s))))]):=by
 refine Nb (nt:=88) func178 ?_;refine Rc ?_;refine m9 0 ?_;refine m9 1 ?_;refine Eb ?_;refine Ke NI (azn l (λi hi=>by rw[hrow i hi];omega) Za) trivial ?_;refine Wb ?_;refine bz (ka 1 (ka 2 (ka 3 (ka 4 (ka 8 (ka 9 kn)))))) (kb 0 (kb 1 km)) (λj=>⟨[(10,some (vI j))],[(901,some (.nest 89 3 1 l.length (λi=>(l.getD i default).length) (mg (eqMs (d7 l) a b (gm s j))) none))]⟩) n.toNat kk ?_;rintro j hj;refine Cb ?_;have hra:=hrow a ha;have hrb:=hrow b hb;refine Mb ?_;refine Kb ?_ ?_<;>intro h0
 ·
  refine ce ?_;(iterate 2 refine rq rfl rfl rfl rfl rfl ?_ (hp:=(by(try simp only[Qe,nM]);(repeat' apply And.intro)<;>first|trivial|rfl|omega|exact Re rfl)));refine Eb ?_;(iterate 2 refine rq rfl rfl rfl rfl rfl ?_ (hp:=(by(try simp only[Qe,nM]);(repeat' apply And.intro)<;>first|trivial|rfl|omega|exact Re rfl)));refine Cc ?_
  refine Fb Gu (Dt s (j:Int)) ?_;refine Cb ?_;refine af rfl rfl ?_ ?_<;>intro r1
  ·
   have h1:=ct r1;(iterate 3 refine k9 (Yc r1) ?_);refine Cc ?_
   exact Ld (j+1) ⟨tt,⟨⟨_,rfl,(by first|(rw[RE Za Gb];exact Ic.refl _)|(rw[Py Za Gb,uw,wd Gb];exact Ic.refl _)|(rw[Py Za Gb,uw];exact uf (JB Za)))⟩,uu⟩⟩
  have h1:=cu r1;(iterate 3 refine qy ?_ (hg:=(Jc r1)));refine Cb ?_;refine aj _ rfl ?_ ?_<;>intro r2
  .have h2:=Bc (ai r1 r2);refine Mb ?_;exact Ld (j+1) ⟨tt,⟨⟨_,rfl,(by first|(rw[RE Za Gb];exact Ic.refl _)|(rw[Py Za Gb,uw,wd Gb];exact Ic.refl _)|(rw[Py Za Gb,uw];exact uf (JB Za)))⟩,uu⟩⟩
  have h2:=Ac (ai r1 r2);refine Wb ?_;refine m7 (ka 1 (ka 2 (ka 3 (ka 4 (ka 8 (ka 9 (ka 10 kn))))))) (kb 0 (kb 1 km)) ⟨[(13,some (vI (Di ((eqMs (d7 l) a b (gm s j)) a j) ((eqMs (d7 l) a b (gm s j)) b j)))),(14,some (vI (Sh ((eqMs (d7 l) a b (gm s j)) a j) ((eqMs (d7 l) a b (gm s j)) b j))))],[(901,some (.nest 89 3 1 l.length (λi=>(l.getD i default).length) (mg (eqMs (d7 l) a b (gm s j))) none))]⟩ ?_ ?_
  ·
   refine Mb ?_;refine Kb ?_ ?_<;>intro h3
   .refine Mb ?_;exact⟨⟨⟨_,rfl,(ed (by simp only[Qe];unfold Di;split<;>omega))⟩,⟨_,rfl,(ed (by simp only[Qe];unfold Sh;split<;>omega))⟩,tt⟩,uu⟩
   refine dj ?_;exact⟨⟨⟨_,rfl,(ed (by simp only[Qe];unfold Di;split<;>omega))⟩,⟨_,rfl,(ed (by simp only[Qe];unfold Sh;split<;>omega))⟩,tt⟩,uu⟩
  refine Eb ?_;refine bz (ka 1 (ka 2 (ka 3 (ka 4 (ka 8 (ka 9 (ka 10 (ka 13 (ka 14 kn))))))))) (kb 0 (kb 1 km)) (λi=>⟨[(15,some (vI i))],[(901,some (.nest 89 3 1 l.length (λi=>(l.getD i default).length) (mg (nc (eqMs (d7 l) a b (gm s j)) (Sh ((eqMs (d7 l) a b (gm s j)) a j) ((eqMs (d7 l) a b (gm s j)) b j)) (Di ((eqMs (d7 l) a b (gm s j)) a j) ((eqMs (d7 l) a b (gm s j)) b j)) i 0)) none))]⟩) l.length ⟨tt,⟨⟨_,rfl,(by rw[sU];exact Ic.refl _)⟩,Aa⟩⟩ ?_;rintro i hi;refine Wb ?_;refine Kb ?_ ?_<;>intro h4
  ·
   have hri:=hrow i Za;refine Wb ?_;refine bz (ka 1 (ka 2 (ka 3 (ka 4 (ka 8 (ka 9 (ka 10 (ka 13 (ka 14 (ka 15 kn)))))))))) (kb 0 (kb 1 km)) (λk=>⟨[(16,some (vI k))],[(901,some (.nest 89 3 1 l.length (λi=>(l.getD i default).length) (mg (nc (eqMs (d7 l) a b (gm s j)) (Sh ((eqMs (d7 l) a b (gm s j)) a j) ((eqMs (d7 l) a b (gm s j)) b j)) (Di ((eqMs (d7 l) a b (gm s j)) a j) ((eqMs (d7 l) a b (gm s j)) b j)) i k)) none))]⟩) n.toNat kk ?_;rintro k hk;refine Wb ?_;refine Kb ?_ ?_<;>intro h5
   ·
    refine ce ?_;(iterate 2 refine rq rfl rfl rfl rfl rfl ?_ (hp:=(by(try simp only[Qe,nM]);(repeat' apply And.intro)<;>first|trivial|rfl|omega|exact Re rfl)));refine Tb ?_;refine Kb ?_ ?_<;>intro h6
    .refine Jb ?_;refine rq rfl rfl rfl rfl rfl ?_ (hp:=(by(try simp only[Qe,nM]);(repeat' apply And.intro)<;>first|trivial|rfl|omega|exact Re rfl));refine rs rfl rfl rfl rfl rfl ?_ (hp:=(by(try simp only[Qe,nM]);(repeat' apply And.intro)<;>first|trivial|rfl|omega|exact Re rfl));refine Mb ?_;exact Ld (k+1) ⟨tt,⟨⟨_,rfl,(by first|exact fE (SD Gb) Ec Ec|(rw[LD Gb];exact Ic.refl _))⟩,uu⟩⟩
    refine Mb ?_;exact Ld (k+1) ⟨tt,⟨⟨_,rfl,(by first|exact fE (SD Gb) Ec Ec|(rw[LD Gb];exact Ic.refl _))⟩,uu⟩⟩
   refine Mb ?_;exact Ld (i+1) ⟨tt,⟨⟨_,rfl,(uf (OS Za))⟩,uu⟩⟩
  refine Mb ?_;exact Ld (j+1) ⟨tt,⟨⟨_,rfl,(by first|(rw[RE Za Gb];exact Ic.refl _)|(rw[Py Za Gb,uw,wd Gb];exact Ic.refl _)|(rw[Py Za Gb,uw];exact uf (JB Za)))⟩,uu⟩⟩
 obtain rfl:j=n.toNat:=by omega
 refine Cb ?_;have hme:=b2d (s:=s) (n:=n.toNat) Za hs;refine UQ 901 rfl ?_;refine b5 9 rfl rfl rfl ?_;refine Mc ?_;refine rc rfl rfl rfl rfl rfl rfl dJ (VJ n (e9 l (eqMs (d7 l) a b (am s))) (by rw[mq];omega)) (⟨Sa,Ob.one (by rw[hme];exact b6h rfl),Aa⟩) rfl rfl ?_;refine Tf ?_;exact Ta
def lC{p:Prop}(h:p:=by first|omega|(simp only[Qe];omega)):p:=h
def gC{p:Prop}(h:p:=by first|exact xe Za Gb Za Za|exact wq (Ie.1 Gb)):p:=h
def U2 (n:Int) (l:List Rw) (x:Fd) (a b:Nat) (h0:0<=n) (h1:n<=16) (hrow:∀i,i<l.length->(l.getD i default).length=n.toNat) (hl2:l.length<=4294967296) (ha:a<l.length) (hb:b<l.length):a6 Ab 177 [pT n l,x.pc,pI (a:Int),pI (b:Int)] (a7 [pT n (ax (l++[(dz (l.getD a default) (l.getD b default) (x.lhs|||x.rhs))]))]):=by
 refine Nb (nt:=51) func177 ?_;refine Rc ?_;refine m9 0 ?_;refine m9 1 ?_;refine m9 2 ?_;refine Cb ?_;have hra:=hrow a ha;have hrb:=hrow b hb;refine gy ?_;refine m9 3 ?_;refine Eb ?_;refine Ed 4 true ?_;refine Wb ?_;refine bz (ka 2 (ka 4 (ka 5 (ka 8 (ka 9 kn))))) (kb 0 (kb 1 (kb 2 km))) (λj=>⟨[(10,some (vI j))],[(3,some (.arr true 1 3 (0+(l.getD b default).length) (lf zC (nb (l.getD a default) (l.getD b default) (x.lhs|||x.rhs) j))))]⟩) n.toNat ⟨tt,⟨⟨_,rfl,(FS (λ_ _=>rfl))⟩,Aa⟩⟩ ?_;rintro j hj;refine Wb ?_;refine Kb ?_ ?_<;>intro h0
 ·
  refine dg ?_;refine rc rfl rfl rfl rfl rfl rfl Gu (Dt (x.lhs|||x.rhs) (j:Int)) (⟨Sb (by rw[Dh]),Sa,Aa⟩) rfl rfl ?_;refine cn ?_;refine We ?_ ?_<;>intro h1
  .refine Cc ?_;(iterate 3 refine rq rfl rfl rfl rfl rfl ?_ (hp:=(by(try simp only[Qe,nM]);(repeat' apply And.intro)<;>first|trivial|rfl|omega|exact Re rfl)));refine rs rfl rfl rfl rfl rfl ?_ (hp:=(by(try simp only[Qe,nM]);(repeat' apply And.intro)<;>first|trivial|rfl|omega|exact Re rfl));refine Mb ?_;exact Ld (j+1) ⟨tt,⟨⟨_,rfl,gC⟩,uu⟩⟩
  refine Mb ?_;exact Ld (j+1) ⟨tt,⟨⟨_,rfl,gC⟩,uu⟩⟩
 obtain rfl:j=n.toNat:=by omega
 refine Cb ?_;refine b5 9 rfl rfl rfl ?_;refine Eb ?_;refine Ke NI (aT l (λi hi=>by rw[hrow i hi];omega) Za) trivial ?_;refine qy ?_;refine m9 5 ?_;refine Ed 6 true ?_;refine ke rfl rfl rfl rfl rfl rfl dJ (a6.eat (hcs:=[.one (.p (.raw (.int .i64 n))), .one (.ref 901 (l++[(dz (l.getD a default) (l.getD b default) (x.lhs|||x.rhs))]).length)]) (o1:=[(901, .arr true 1 89 (l++[(dz (l.getD a default) (l.getD b default) (x.lhs|||x.rhs))]).length (lf rC (l++[(dz (l.getD a default) (l.getD b default) (x.lhs|||x.rhs))])))]) (VJ n (l++[(dz (l.getD a default) (l.getD b default) (x.lhs|||x.rhs))]) Uh) rfl (by(repeat' apply And.intro)<;>first|trivial|rfl) Ta) (⟨Ra,Da (HV.ref 901) Ec,Aa⟩) ⟨⟨_,rfl,(cr rfl (AR lC lC))⟩,Aa⟩ rfl rfl ?_;refine Ef ?_;exact Ta
def WY (n:Int) (l:List Rw) (p m:List Fd) (i a b:Nat) (h0:0<=n) (h1:n<=16) (hrow:∀i,i<l.length->(l.getD i default).length=n.toNat) (ha:a<l.length) (hb:b<l.length) (hi:i<p.length):a6 Ab 218 [pT n l,pP (Ub p),pP (Ub m), .agg [.raw (.bool false), .raw (.int .i64 (i:Int)), .raw (.int .i64 (a:Int)), .raw (.int .i64 (b:Int))]] (a7 [pB (fb l (p.getD i default) a b)]):=by
 refine Nb (nt:=85) func218 ?_;refine Rc ?_;refine m9 0 ?_;refine m9 1 ?_;refine Tb ?_;have hra:=hrow a ha;have hrb:=hrow b hb;refine MC ?_;refine Tb ?_;refine Fb bB (aB (l.getD a default) (l.getD b default) (p.getD i default).lhs Za Za) ?_;refine qy ?_;refine af rfl rfl ?_ ?_<;>intro r0
 ·
  have h0:=r0;(iterate 8 refine qy ?_ (hg:=(Lc r0)));refine Fb bB (aB (l.getD a default) (l.getD b default) (p.getD i default).rhs Za Za) ?_ (hg:=(Lc r0));refine qy ?_ (hg:=(Lc r0));refine Tb ?_
  exact Nc rfl rfl rfl (⟨Vb (by first|exact(dF Gb).symm|simp_all [fb]),Aa⟩)
 have h0:=r0;(iterate 10 refine k9 (Vd r0) ?_);refine Tb ?_
 exact Nc rfl rfl rfl (⟨Vb (by first|exact(dF Gb).symm|simp_all [fb]),Aa⟩)
def IY (n:Int) (l:List Rw) (p m:List Fd) (i a b:Nat) (h0:0<=n) (h1:n<=16) (hrow:∀i,i<l.length->(l.getD i default).length=n.toNat) (ha:a<l.length) (hb:b<l.length) (hi:i<m.length):a6 Ab 218 [pT n l,pP (Ub p),pP (Ub m), .agg [.raw (.bool true), .raw (.int .i64 (i:Int)), .raw (.int .i64 (a:Int)), .raw (.int .i64 (b:Int))]] (a7 [pB (Iw l (m.getD i default) a b)]):=by
 refine Nb (nt:=85) func218 ?_;refine Rc ?_;refine m9 0 ?_;refine m9 1 ?_;refine Tb ?_;have hra:=hrow a ha;have hrb:=hrow b hb;refine MC ?_;refine qy ?_;refine m9 2 ?_;refine Cc ?_;refine Fb bB (aB (l.getD a default) (l.getD b default) (m.getD i default).lhs Za Za) ?_;refine Cb ?_;refine Xd ?_ ?_<;>intro h0
 .refine Kc ?_;exact⟨Vb (by unfold Iw;simp_all),Aa⟩
 refine Tb ?_;refine m9 3 ?_;refine qy ?_;refine Ed 4 true ?_;refine Wb ?_;refine bz (ka 4 (ka 9 (ka 11 (ka 12 kn)))) (kb 0 (kb 2 km)) (λj=>⟨[(13,some (vI j))],[(3,some (.arr true 1 3 (0+(l.getD b default).length) (lf zC (nb (l.getD a default) (l.getD b default) (m.getD i default).rhs j))))]⟩) n.toNat ⟨tt,⟨⟨_,rfl,(FS (λ_ _=>rfl))⟩,Aa⟩⟩ ?_;rintro j hj;refine Wb ?_;refine Kb ?_ ?_<;>intro h1
 ·
  refine Wb ?_;refine Fb Gu (Dt (m.getD i default).rhs (j:Int)) ?_;refine cn ?_;refine We ?_ ?_<;>intro h2
  .refine Eb ?_;(iterate 3 refine rq rfl rfl rfl rfl rfl ?_ (hp:=(by(try simp only[Qe,nM]);(repeat' apply And.intro)<;>first|trivial|rfl|omega|exact Re rfl)));refine rs rfl rfl rfl rfl rfl ?_ (hp:=(by(try simp only[Qe,nM]);(repeat' apply And.intro)<;>first|trivial|rfl|omega|exact Re rfl));refine Mb ?_;exact Ld (j+1) ⟨tt,⟨⟨_,rfl,gC⟩,uu⟩⟩
  refine Mb ?_;exact Ld (j+1) ⟨tt,⟨⟨_,rfl,gC⟩,uu⟩⟩
 obtain rfl:j=n.toNat:=by omega
 refine Cb ?_;refine b5 12 rfl rfl rfl ?_;refine Tb ?_;refine rc rfl rfl rfl rfl rfl rfl KH (JH n l (dz (l.getD a default) (l.getD b default) (m.getD i default).rhs)) (⟨Sa,AR lC lC,Aa⟩) rfl rfl ?_;refine Ef ?_;exact⟨Vb (by unfold Iw;simp_all),Aa⟩
end
section
open Go.Proofs
def Ji(p:List Fd)(k:Nat):Bool:=decide (p.length<=k)
def Ki(p:List Fd)(k:Nat):Nat:=if p.length<=k then k-p.length else k
def ZB(l:List Rw)(p m:List Fd)(s:St):Bool:=if s.1=true then Iw l (m.getD s.2.1 default) s.2.2.1 s.2.2.2 else fb l (p.getD s.2.1 default) s.2.2.1 s.2.2.2
def JX(n:Int)(l:List Rw)(p m:List Fd)(k a b:Nat)(hT:Bd n l=true)(ha:a<l.length)(hb:b<l.length)(hk:k<p.length+m.length) :
 a6 Ab 218 [pT n l,pP (Ub p),pP (Ub m),St.pc (Ji p k,Ki p k,a,b)] (a7 [pB (ZB l p m (Ji p k,Ki p k,a,b))]):=by
 obtain⟨h0,h1,h2,h3⟩:=jc hT;by_cases h:p.length<=k
 .have e1:Ji p k=true:=Fa h
  have e2:Ki p k=k-p.length:=Ba h;rw[e1,e2];exact IY n l p m (k-p.length) a b h0 h1 h3 ha hb Za
 have e1:Ji p k=false:=Ha h;have e2:Ki p k=k:=Ca h;rw[e1,e2];exact WY n l p m k a b h0 h1 h3 ha hb Za
def jv(l:List Rw)(p m:List Fd)(k a b:Nat):Bool:=decide (a≠b)&&ZB l p m (Ji p k,Ki p k,a,b)
def Er(l:List Rw)(p m:List Fd):Option St:=(fw (jv l p m) (p.length+m.length) l.length).map λx=>(Ji p x.1,Ki p x.1,x.2.1,x.2.2)
section
variable {l:List Rw}{p m:List Fd}{k a b:Nat}
def bem(h:¬a=b)(h2:ZB l p m (Ji p k,Ki p k,a,b)=true):jv l p m k a b=true:=by unfold jv;rw[Fa h,h2];rfl
def US(h:a=b):jv l p m k a b=false:=by unfold jv;rw[Ha (λe=>e h)];rfl
def PT(h2:ZB l p m (Ji p k,Ki p k,a,b)=false):jv l p m k a b=false:=by unfold jv;rw[h2,Bool.and_false]
def bdx(h:fw (jv l p m) (p.length+m.length) l.length=some (k,a,b)):Er l p m=some (Ji p k,Ki p k,a,b):=by unfold Er;rw[h];rfl
def bbj(h:fw (jv l p m) (p.length+m.length) l.length=none):Er l p m=none:=by unfold Er;rw[h];rfl
end
end
section
open Go.Proofs
def W3(n:Int)(l:List Rw)(p m:List Fd)(hT:Bd n l=true)(hp:p.length<=64)(hm:m.length<=64):a6 Ab 175 [pT n l,pP (Ub p),pP (Ub m)] (a7 [St.pc ((Er l p m).getD (false,0,0,0)),pB (Er l p m).isSome]):=by
 refine Nb (nt:=66) func175 ?_;refine cw ?_;obtain⟨hn0,hn16,hl256,hrow⟩:=jc hT;refine cj 1 rfl λhn1=>?_;refine cj 2 rfl λhn2=>?_;refine gy ?_;refine m9 0 ?_;refine m9 1 ?_;refine Wb ?_;refine aa (ι:=Nat) (ka 1 (ka 2 (ka 3 (ka 6 kn)))) (kb 0 (kb 1 km)) (λk=>⟨[(8,some (vI k))],[]⟩) (λk=>k<=p.length+m.length/\∀i',i'<k->∀a',a'<l.length->∀b',b'<l.length->jv l p m i' a' b'=false) (λk=>p.length+m.length-k) (0) (⟨Zb _,aw⟩) kk ?_;rintro k ⟨hk,hK⟩;refine dg ?_;refine Kb ?_ ?_<;>intro h0
 ·
  refine Jb ?_;refine m9 2 ?_;refine Cb ?_;refine m7 (ka 1 (ka 2 (ka 3 (ka 6 (ka 8 (ka 9 kn)))))) (kb 0 (kb 1 km)) ⟨[],[(2,some (.box [.p (.raw (.bool (Ji p k))), .p (.raw (.int .i64 (Ki p k:Int))), .p (.raw (.int .i64 0)), .p (.raw (.int .i64 0))]))]⟩ ?_ ?_
  ·
   refine Jb ?_;refine Kb ?_ ?_<;>intro h1
   .refine Wb ?_;exact⟨tt,⟨⟨_,rfl,(by unfold Ji Ki;first|(rw[Fa Za,Ba Za];refine⟨Ra,Va (by congr 2;omega),Ra,Ra,Aa⟩)|(rw[Ha Za,Ca Za];exact⟨Ra,Ra,Ra,Ra,Aa⟩))⟩,uu⟩⟩
   refine dj ?_;exact⟨tt,⟨⟨_,rfl,(by unfold Ji Ki;first|(rw[Fa Za,Ba Za];refine⟨Ra,Va (by congr 2;omega),Ra,Ra,Aa⟩)|(rw[Ha Za,Ca Za];exact⟨Ra,Ra,Ra,Ra,Aa⟩))⟩,uu⟩⟩
  refine Mb ?_;refine aa (ι:=Nat×Nat) (ka 1 (ka 2 (ka 3 (ka 6 (ka 8 (ka 9 kn)))))) (kb 0 (kb 1 km)) (λy=>⟨[],[(2,some (.box [.p (.raw (.bool (Ji p k))), .p (.raw (.int .i64 (Ki p k:Int))), .p (.raw (.int .i64 (y.1:Int))), .p (.raw (.int .i64 (y.2:Int)))]))]⟩) (λy=>y.1<=l.length/\∀a',a'<y.1->∀b',b'<l.length->jv l p m k a' b'=false) (λy=>l.length-y.1) ((0,0)) (⟨Zb _,aw⟩) kk ?_;rintro y ⟨hy,hA⟩;refine ce ?_;refine Kb ?_ ?_<;>intro h2
  ·
   refine Cc ?_;refine aa (ι:=Nat) (ka 1 (ka 2 (ka 3 (ka 6 (ka 8 (ka 9 kn)))))) (kb 0 (kb 1 km)) (λb=>⟨[],[(2,some (.box [.p (.raw (.bool (Ji p k))), .p (.raw (.int .i64 (Ki p k:Int))), .p (.raw (.int .i64 (y.1:Int))), .p (.raw (.int .i64 (b:Int)))]))]⟩) (λb=>b<=l.length/\∀b',b'<b->jv l p m k y.1 b'=false) (λb=>l.length-b) (0) (⟨Zb _,aw⟩) kk ?_;rintro b ⟨hb,hB⟩;refine ce ?_;refine Kb ?_ ?_<;>intro h3
   ·
    refine dg ?_;refine af rfl rfl ?_ ?_<;>intro r4
    ·
     have h4:=Ac (ct r4);(iterate 4 refine qy ?_ (hg:=(Lc r4)));refine Fb (Ib func218) (JX n l p m k y.1 b hT Za Za Za) ?_ (hg:=(Lc r4));refine Cb ?_;refine aj _ rfl ?_ ?_<;>intro r5
     .have h5:=bp r4 r5;refine Mb ?_;refine Db ?_;have he:=bdx (OL (P:=jv l p m) (i:=k) (a:=y.1) (b:=b) Za Za Za (bem Za Gb) hK hA hB);exact f9 rfl rfl (by rw[he];exact Ta)
     have h5:=bp r4 r5;refine Wb ?_;refine Rb (b+1) kk ?_;exact⟨by show b+1<=_;omega,al hB (by first|exact US Za|exact PT Gb)⟩
    have h4:=Bc (cu r4);(iterate 5 refine k9 (Vd r4) ?_);refine dg ?_;refine Rb (b+1) kk ?_
    exact⟨by show b+1<=_;omega,al hB (by first|exact US Za|exact PT Gb)⟩
   refine Wb ?_;refine Rb (y.1+1,b) kk ?_;exact⟨by show y.1+1<=_;omega,al hA (λb' hb'=>hB b' Za)⟩
  refine Mb ?_;refine Rb (k+1) kk ?_;exact⟨by show k+1<=_;omega,al hK (λa' ha'=>hA a' Za)⟩
 refine Jb ?_;refine Db ?_;have he:=bbj (KL (P:=jv l p m) (I:=p.length+m.length) (L:=l.length) λj hj=>hK j Za);exact f9 rfl rfl (by rw[he];exact Ta)
end
section
def GB {α:Type} {f g:Nat->Option α}:∀{ks:List Nat},(∀k,k∈ks->f k=g k)->ks.findSome? f=ks.findSome? g
 | [],_=>rfl
 | k::ks,h=>by
  have h1:=h k Ec;have h2:=GB (ks:=ks) λj hj=>h j (by simp[hj]);simp only[List.findSome?_cons,h1,h2]
def JJ {p q:Nat->Bool}:∀{ks:List Nat},(∀k,k∈ks->p k=q k)->ks.find? p=ks.find? q
 | [],_=>rfl
 | k::ks,h=>by
  have h1:=h k Ec;have h2:=JJ (ks:=ks) λj hj=>h j (by simp[hj]);simp only[List.find?_cons,h1,h2]
def bcr {s t:AS} {i:Nat}:bw (s|||t) (i:Int)=(bw s (i:Int)||bw t (i:Int)):=by
 by_cases h:i<32
 .rw[j6 h,j6 h,j6 h,Rl]
 rw[Hu Za,Hu Za,Hu Za];rfl
def b9s{a b:Rw}{s t:AS}(hl:a.length=b.length)(h:ll a b s=true):dz a b t=dz a b (s|||t):=by
 have h:=Ga h;unfold dz;refine Mn λi hi=>?_;have hi:=Fe.1 hi;rw[bcr];by_cases h1:bw s (i:Int)=true
 .have:=h i Za h1
  rw[h1,Bool.true_or,Ba rfl];split
  .rfl
  exact this.symm
 rw[Ie.2 h1,Bool.false_or]
def b33 (a:Rw) (s:AS):dz a a s=a:=by
 refine ny (lg a a s) λj hj=>?_;rw[lg]at hj;unfold dz;rw[Oc,Pe,Hi hj];show(if bw s (j:Int)=true then a.getD j default else a.getD j default)=_;split<;>rfl
section
variable {a:Nat}{l:List Rw}
def zL{x:Fd}:fb l x a a=false:=bK (Cx λ_ _ _=>rfl)
def rL {x:Fd} (ha:a<l.length):fk l x a a=false:=by
 refine xJ ?_;rw[b33,Yf];exact⟨_,nB ha,Fa rfl⟩
def b78 {n:Int} {x:Fd} {b:Nat} (hT:Bd n l=true) (ha:a<l.length) (hb:b<l.length):Iw l x a b=fk l x a b:=by
 obtain⟨_,_,_,h3⟩:=jc hT;unfold Iw fk;by_cases h:ll (l.getD a default) (l.getD b default) x.lhs=true
 .rw[b9s (by rw[h3 a ha,h3 b hb]) h]
 rw[Ie.2 h];rfl
def bdb {p m:List Fd} {k b:Nat} (hk:k<p.length):jv l p m k a b=fb l (p.getD k default) a b:=by
 have e1:Ji p k=false:=Ha Za;have e2:Ki p k=k:=Ca Za;unfold jv;rw[e1,e2];by_cases h:a=b
 .subst h;rw[zL,Ha (λe=>e rfl)];rfl
 rw[Fa h];rfl
def bat {n:Int} {p m:List Fd} {k b:Nat} (hT:Bd n l=true) (ha:a<l.length) (hb:b<l.length):jv l p m (p.length+k) a b=fk l (m.getD k default) a b:=by
 have e1:Ji p (p.length+k)=true:=Fa Za;have e2:Ki p (p.length+k)=k:=(Ba Za).trans Za;unfold jv;rw[e1,e2];by_cases h:a=b
 .subst h;rw[rL ha,Ha (λe=>e rfl)];rfl
 rw[Fa h,<- b78 hT ha hb];rfl
def zJ{n:Int}{p m:List Fd}(hT:Bd n l=true):Er l p m=f0 l p m:=by
 have e1:(List.range p.length).findSome? (λi=>(List.range l.length).findSome? λa=>((List.range l.length).find? λb=>jv l p m i a b).map λb=>(i,a,b))=fw (λi a b=>fb l (p.getD i default) a b) p.length l.length :=
  GB λi hi=>GB λa _=>by rw[JJ λb _=>bdb (Fe.1 hi)]
 have e2:(List.range m.length).findSome? (λi=>(List.range l.length).findSome? λa=>((List.range l.length).find? λb=>jv l p m (p.length+i) a b).map λb=>(p.length+i,a,b))=(fw (λi a b=>fk l (m.getD i default) a b) m.length l.length).map λx=>(p.length+x.1,x.2):=by
  unfold fw;rw[List.map_findSome?];refine GB λi _=>?_;show _=Option.map _ ((List.range l.length).findSome? _);rw[List.map_findSome?];refine GB λa ha=>?_;rw[JJ λb hb=>bat hT (Fe.1 ha) (Fe.1 hb)];show _=Option.map _ (Option.map _ _);rw[Option.map_map];rfl
 have e:fw (jv l p m) (p.length+m.length) l.length=(fw (λi a b=>fb l (p.getD i default) a b) p.length l.length).or ((fw (λi a b=>fk l (m.getD i default) a b) m.length l.length).map λx=>(p.length+x.1,x.2)):=by
  rw[<- e1,<- e2];unfold fw;rw[List.range_add,nC,List.findSome?_map];rfl
 unfold Er f0;rw[e]
 cases h:fw (λi a b=>fb l (p.getD i default) a b) p.length l.length with
 | some x =>
  obtain⟨i,a,b⟩:=x;have hi:=(qL h).1;show some (Ji p i,Ki p i,a,b)=some (false,i,a,b);rw[show Ji p i=false from Ha Za,show Ki p i=i from Ca Za]
 | none =>
  rw[Option.none_or]
  cases fw (λi a b=>fk l (m.getD i default) a b) m.length l.length with
  |none=>rfl
  | some x =>
   obtain⟨i,a,b⟩:=x;show some (Ji p (p.length+i),Ki p (p.length+i),a,b)=some (true,i,a,b);rw[show Ji p (p.length+i)=true from Fa Za,show Ki p (p.length+i)=i from (Ba Za).trans Za]
end
end
end Go.Hx

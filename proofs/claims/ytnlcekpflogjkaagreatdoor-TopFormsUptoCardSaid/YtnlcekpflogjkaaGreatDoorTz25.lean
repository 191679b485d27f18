/- A part of the proof: SrZ Ch5 X6 X7 Ch6 X9 X10 Ch7 X11 Ch8 X12 Ch9. -/
import Derived.Shelf.SlSortCmp.NoneTotal
import Derived.Test.YtnlcekpflogjkaaGreatDoorTz23
import Derived.Test.YtnlcekpflogjkaaGreatDoorTz24
set_option linter.all false
set_option maxRecDepth 100000
set_option maxHeartbeats 1000000
namespace Go.Hx
section
open Go.Proofs Go.RowKit Go.Sort
section
variable {w:World}
def aqz{w':World}(h:Below w.heap.size w w'):∃q os,w'=grow (w.drewN q) os:=by
 refine⟨w'.drawn-w.drawn,w'.heap.extract w.heap.size w'.heap.size, ?_⟩;have hd:=h.drawn;obtain⟨h1,h2,h3,h4,h5,_⟩:=h
 cases w with
 |mk hp tp dr os out =>
 cases w' with
 |mk hp' tp' dr' os' out' =>
 dsimp only at *;subst h1 h2 h3;unfold grow World.drewN;simp only[World.mk.injEq,true_and,and_true];refine⟨?_,by omega⟩;apply Array.ext_getElem?;intro k;rw[Array.getElem?_append];by_cases hk:k<hp.size
 · rw[if_pos hk,h5 k hk]
 rw[if_neg hk,Array.getElem?_extract];by_cases hk2:k<hp'.size
 · rw [if_pos bx5]
   congr 1;omega
 rw[if_neg bx5,bvn bx5]
variable {os:Array Obj}{α:Type}{d:Array α}{enc:α->Value}
def ars [Inhabited α] {g m:Nat} {cur:Array Value} {e:TypeId} {fr:Nat×Nat} (h:w.heap[g]? = some (.cells cur e fr)):
 (sortWorld enc w g 0 m d os).heap[g]? = some (.cells (putCells enc 0 d cur) e fr):=by
 have hlt:=(bt5.1 h).1;unfold sortWorld;rw[heap_grow_old _ _ (by simpa using hlt)];unfold putRow mapBlock;simp only[heap_ahead,bvs,if_true,h];rfl
def a2g [Inhabited α] {g m:Nat} {b:Nat} (hb:b<w.heap.size) (hne:b≠g):(sortWorld enc w g 0 m d os).heap[b]? = w.heap[b]?:=by
 unfold sortWorld;rw[heap_grow_old _ _ (by simpa using hb)];unfold putRow mapBlock;simp only[heap_ahead,bvs,if_neg (Ne.symm hne)]
def ar1 [Inhabited α] {g m:Nat}:Below 0 w (sortWorld enc w g 0 m d os) :=
 ⟨rfl,rfl,rfl,by unfold sortWorld;simp,fun k hk=>absurd hk (bt9 k),by unfold sortWorld grow;simp⟩
def azf[Inhabited α]{cur:Array Value}(h:d.size<=cur.size):(putCells enc 0 d cur).toList.take d.size=d.toList.map enc:=by
 apply bvo;intro k;rw[bug,btm,bv9,bv9];by_cases hk:k<d.size
 · rw [if_pos hk]
   unfold putCells;rw[Array.getElem?_mapIdx,bul bx5,bul hk];simp only[bts,bu1,Nat.sub_zero];rw[if_pos ⟨bt6 _,hk⟩,getElem!_pos d k hk]
 rw[if_neg hk,bvn bx5];rfl
def avt{P:Program}{ρ:Go.Shelf.Ren}{β:Type}[Inhabited β](L:SlLaysF.n6 P ρ)(pc:β->PV)(h1:∀imm x v,au imm (pc x) v->v.oneCell'=true)(cf:β->β->Int)(hO:SWO (ltOf cf))(hT:∀x y,(ltOf cf) x y=false->(ltOf cf) y x=false->x=y)
 (g:Nat) (caps:Nat->PV) (hg:∀args w,(callFunc g args).run P w=.ok (.enter g args) w) (hc:∀x y,a7 P g [.one (pc x), .one (pc y)] (ae [.one (.raw (.int .i64 (cf x y)))])) (id:Nat) (e:TypeId) (l:List β) (hsz:l.length<=8589934592) :
 dv P (ρ.f 6) [.one (.ref id l.length), .one (.p (.fn g 0 caps))] [(id, .arr true 1 e l.length (lf (fun x _=>pc x) l))] (.tup [])
  [(id, .arr true 1 e l.length (lf (fun x _=>pc x) (l.mergeSort fun x y=>!(ltOf cf) y x)))] [id]:=by
 intro w c us hM hus
 match us,hus with
 | [u,v],⟨hu,hv,_⟩ =>
  obtain⟨cs,rfl,hcl,_⟩:=hv;have hcs:cs=[]:=bui hcl;subst hcs;have hl1:lk [(id,aa.arr true 1 e l.length (lf (fun x _=>pc x) l))] id=some (.arr true 1 e l.length (lf (fun x _=>pc x) l)):=by simp[lk]
  have hu2:=(hu.2.2 _ _ _ _ hl1 rfl).2 rfl;subst hu2;have hob:=hM.objs id _ hl1;obtain⟨h0,hmax,h5⟩:=hob;have hlen:(l.mergeSort fun x y=>!(ltOf cf) y x).length=l.length:=bx4 _
  have hev:∀f':Nat->Nat->PV,Evo c (lk [(id,aa.arr true 1 e l.length (lf (fun x _=>pc x) l))]) c (lk [(id,aa.arr true 1 e l.length f')]) id:=fun f' =>
   .inr (.inr ⟨_, .arr true 1 e l.length f',1,e,l.length,l.length,hl1,rfl,by simp[lk],rfl,bt2 _,fun _=>rfl,fun _ _ _ _ _ _ _ h=>by cases h⟩)
  rcases buz l.length with hz|hpos
  ·
   have hl:l=[]:=bui hz;subst hl
   have hform:∃ad cap,c.own id=.slice ad 0 cap:=by
    rcases h5 with⟨_,xs,h2,_⟩|⟨_,_,ad,cap,hv,_⟩
    · rcases h2.2 with⟨hv,_⟩|⟨g,cap,cur,hv,_⟩
      · exact⟨none,0,hv⟩
      exact⟨_,cap,hv⟩
    exact⟨ad,cap,hv⟩
   obtain⟨ad,cap,hown⟩:=hform;have hms:([]:List β).mergeSort (fun x y=>!(ltOf cf) y x)=[]:=by simp
   rw[hown,hms];refine(AnyF.slices_SortFunc_none { L with } ad cap (.func (.func g) #[] #[]) w).mono ?_;rintro e' w' ⟨rfl,rfl⟩
   exact ⟨_,c,rfl,⟨[],rfl,trivial⟩,hM,Below.refl _ _,fun _ _ _=>⟨rfl,rfl⟩,fun id0 ob b ho hb=>.inr ⟨id0,ob,ho,hb⟩,fun id0 hid=>by
    rw[btu.1 hid]
    exact Evo.refl _ _ _⟩
  obtain ⟨h6,xs,h2,h4⟩:c.blk id=fm (c.own id)/\∃xs,w.ownsRow 0 e 1 (c.own id) l.length xs/\∀i j,i<l.length->j<1->∃x,xs[i*1+j]? = some x/\au c.imm (lf (fun x _=>pc x) l i j) x:=by
   rcases h5 with h5|⟨h6|h6,_⟩
   · exact h5
   · cases h6
   omega
  obtain⟨hxl,hrow⟩:=h2
  rcases hrow with⟨_,hz⟩|⟨b,cap,cur,hown,hbase,hheap,hnc,hcm,hcs,htake⟩
  · omega
  have hblk:c.blk id b:=by rw[h6,hown];rfl
  have hlt:b<w.heap.size:=(bt5.1 hheap).1
  have hval:∀i,i<l.length->∃x,cur[i]? = some x/\au c.imm (pc (l.getD i default)) x:=fun i hi=>by
   obtain⟨x,hx,hr⟩:=h4 i 0 hi bx5;rw[bw2,bv4,<- htake,bug,if_pos bx5,bv9]at hx;exact⟨x,hx,hr⟩
  let A:={ p:β×Value // au c.imm (pc p.1) p.2 }
  let enc:A->Value:=fun p=>p.1.2
  let fst:A->β:=fun p=>p.1.1
  let cf':A->A->Int:=fun p q=>cf (fst p) (fst q)
  have hO':SWO (ltOf cf'):=⟨fun x=>hO.irrefl _,fun x y z=>hO.trans _ _ _,fun x y z=>hO.ntrans _ _ _⟩
  obtain ⟨d,hds,hdv⟩:∃d:Array A,d.size=l.length/\∀i,(hi:i<d.size)->cur[i]? = some (enc d[i])/\fst d[i]=l.getD i default:=by
   refine⟨Array.ofFn (n:=l.length) fun i=>⟨(l.getD i default,(hval i i.2).choose),(hval i i.2).choose_spec.2⟩,by simp,fun i hi=>?_⟩;rw[Array.getElem_ofFn];exact⟨(hval i (by simpa using hi)).choose_spec.1,rfl⟩
  have hd0:0<d.size:=by omega
  haveI:Inhabited A:=⟨d[0]⟩;have hen:∀x:A,(enc x).oneCell'=true:=fun x=>h1 _ _ _ x.2
  have hH:Holds enc w b 0 d:=fun j hj=>by
   rw[bu1];refine⟨?_,by simp[World.frozen?,hheap]⟩;rw[getElem!_pos d j hj];simp[World.cell?,hheap,(hdv j hj).1]
  have hcmp:CmpLays1 P g #[] enc cf' b 0 d.size w:=by
   intro m os dk hdk x y
   have hcimm:∀b' ob,c.imm b'=some ob->(sortWorld enc w b 0 m dk os).heap[b']? = some ob:=fun b' ob hb'=>by
    have hne:b'≠b:=fun he=>by
     have:=hM.sep id _ b hl1 hblk;rw[<- he,hb']at this;cases this
    have hw:=hM.imm b' ob hb';rw[a2g (bt5.1 hw).1 hne];exact hw
   have h:=hc (fst x) (fst y) (sortWorld enc w b 0 m dk os) c.imm [enc x,enc y] c.tab hcimm ⟨x.2,y.2,trivial⟩;refine h.mono ?_;rintro e' w' ⟨v,imm',rfl,hr,_,_,hb⟩;obtain⟨q,os',hq⟩:=aqz hb;exact⟨by rw[hr.1],q,os',hq⟩
  have hS:=Any.slices_SortFunc L enc hen cf' hO' g #[] b 0 cap d w hg hcmp hH hlt bx5;rw[hds]at hS;rw[hown];refine Calls.mono hS ?_;rintro e' w' ⟨rfl,d',m,os,hperm,hsorted,rfl⟩;have hsz':d'.size=l.length:=by rw[hperm.1,hds]
  obtain ⟨S,hSl,hSp⟩:∃S:List A,S=d'.toList/\S.map fst=l.mergeSort fun x y=>!(ltOf cf) y x:=by
   refine⟨_,rfl, ?_⟩
   have hp:(d'.toList.map fst).Perm l:=by
    obtain⟨_,_,hp⟩:=hperm;have e1:d'.extract 0 l.length=d':=by rw[<- hsz'];exact Array.extract_size
    have e2:d.extract 0 l.length=d:=by rw[<- hds];exact Array.extract_size
    rw[e1,e2]at hp;refine(hp.map fst).trans ?_
    have:d.toList.map fst=l:=by
     refine pl (by simp[hds]) fun j hj=>?_;have hj:j<d.size:=by simpa using hj
     rw[<- (hdv j hj).2,bt1,btm,bv9,bul hj];rfl
    rw[this]
   refine List.Perm.eq_of_pairwise (le:=fun x y=>(!(ltOf cf) y x)=true) ?_ ?_ ?_ (hp.trans (List.mergeSort_perm _ _).symm)
   · intro a b _ _ h1 h2
     simp only[btv]at h1 h2;exact hT a b h2 h1
   · rw [List.pairwise_map,bv2]
     intro i j hi hj hij;have hi':i<d'.size:=by simpa using hi
     have hj':j<d'.size:=by simpa using hj
     have:=hsorted i j (bt6 _) hij bx5;rw[getElem!_pos d' j hj',getElem!_pos d' i hi']at this;simp only[Array.getElem_toList,btv];exact this
   refine bww ?_ ?_ _
   · intro a b c h1 h2
     simp only[btv]at h1 h2 ⊢;exact hO.ntrans c b a h2 h1
   intro a b
   cases h:(ltOf cf) b a with
   |false=>simp
   |true=>simp[hO.asymmA h]
  obtain rfl:d'=S.toArray:=by rw[hSl]
  rw[<- hSp]at hlen ⊢;rw[btw]at hlen
  refine ⟨_,c,rfl,⟨[],rfl,trivial⟩,⟨fun id0 ob ho=>?_,fun id0 id1 ob0 ob1 b' ho0 ho1 _ _=>(ji ho0).1.trans (ji ho1).1.symm,fun b' ob hb'=>?_,fun id0 ob b' ho hb'=>?_⟩,ar1,
   fun b' hb' hno=>⟨a2g hb' (fun he=>hno id _ hl1 (by rw[he];exact hblk)),rfl⟩,fun id0 ob b' ho hb'=>.inr ⟨id,_,hl1,by rw[<- (ji ho).1];exact hb'⟩,fun id0 hid=>by
    rw[btu.1 hid]
    exact hev _⟩
  · obtain ⟨rfl,rfl⟩:=ji ho
    refine⟨h0,hmax, .inl ⟨h6,S.map enc,⟨by simp[hlen], .inr ⟨b,cap,putCells enc 0 S.toArray cur,hown,hbase,ars hheap,hnc,hcm,by simpa [putCells]using hcs, ?_⟩⟩,fun i j hi hj=>?_⟩⟩
    · have:=azf (enc:=enc) (d:=S.toArray) (cur:=cur) (by rw[buj,hlen,hcs];omega)
      rw[buj,hlen]at this;rw[bw2];exact this
    obtain rfl:j=0:=by omega
    have hi':i<S.length:=by rw[hlen];exact hi
    refine⟨enc S[i], ?_, ?_⟩
    · rw [bw2,bv4,btm,bt0 hi']
      rfl
    show au c.imm (pc ((S.map fst).getD i default)) _;rw[bt1,btm,bt0 hi'];exact S[i].2
  · have hne:b'≠b:=fun he=>by
     have:=hM.sep id _ b hl1 hblk;rw[<- he,hb']at this;cases this
    have hw:=hM.imm b' ob hb';rw[a2g (bt5.1 hw).1 hne];exact hw
  have:=(ji ho).1;subst this;exact hM.sep id0 _ b' hl1 hb'
 | [],h=>exact h.elim
 | [_],⟨_,h⟩=>exact h.elim
 |_::_::_::_,⟨_,_,h⟩=>exact h.elim
end
end
section
open Go.Proofs Go.RowKit Go.Sort
structure CpZ (l:List Rw) (k p q:Nat) (m:List Rw):Prop where
 len:m.length=l.length
 kq:k<q
 pq:p<q
 ql:q<=l.length
 pre:m.take p=ja (l.take q)
 high:∀j,q-1<=j->m.getD j default=l.getD j default
section
variable {k:Nat}{l:List Rw}
theorem CpZ.start (h1:1<=k) (hk:k<l.length) (h:∀j,0<j->j<k->¬l.getD j default=l.getD (j-1) default) (hd:l.getD k default=l.getD (k-1) default):CpZ l k k (k+1) l :=
 ⟨rfl,by omega,by omega,by omega,by rw[lx bx5 hk,if_pos hd.symm,btq,uc bx5 h],fun _ _=>rfl⟩
theorem CpZ.skip {p q:Nat} {m:List Rw} (h:CpZ l k p q m) (hq:q<l.length) (he:m.getD q default=m.getD (q-1) default):CpZ l k p (q+1) m:=by
 have hk:=h.kq;refine⟨h.len,by omega,by have:=h.pq;omega,hq, ?_,fun j hj=>h.high j bx5⟩;rw[h.high q bx5,h.high (q-1) bx5]at he;rw[lx bx5 hq,if_pos he.symm,btq,h.pre]
theorem CpZ.keep {p q:Nat} {m:List Rw} (h:CpZ l k p q m) (hq:q<l.length) (he:¬m.getD q default=m.getD (q-1) default):CpZ l k (p+1) (q+1) (m.set p (m.getD q default)):=by
 have hk:=h.kq;have hp:=h.pq;have hl:=h.len;refine⟨by simp[hl],by omega,by omega,hq, ?_,fun j hj=>by rw[getD_set_ne' bx5];exact h.high j bx5⟩;have e:=h.high q bx5;rw[e,h.high (q-1) bx5]at he;rw[lx bx5 hq,if_neg (fun e=>he e.symm),<- h.pre,aj (by simp[hl];omega),nk bx5,e];congr 1;rw[List.take_set,bve bxi]
def ao0 (hk:l.length<=k) (h:∀j,0<j->j<k->¬l.getD j default=l.getD (j-1) default):CoP (.sl l.length 1 false (lf rC l)) (rl (ja l)):=by
 have:=uc (bt2 l.length) fun j h1 h2=>h j h1 bx5;rw[btb]at this;rw[this];exact CoP.refl _
variable {a:Nat}
def b5v {m:List Rw} {p q n d:Nat} {cl:Bool} {z:List Value} (hC:CpZ l k p q m) (hq:¬q<l.length) (ha:p<=a):CoP (.sl (iu (bv n (some (p:Int))) none) 1 cl (sm (ow (lf rC m) a d z) none)) (rl (ja l)):=by
 have e:=hC.pre;have h1:=hC.ql;have h2:=hC.len;have h3:=hC.pq;rw[show q=l.length by omega,btb]at e;have el:(ja l).length=p:=by rw[<- e];simp;omega
 exact aa5 (by rw[el];rfl) rfl bx5 (by rw[el,e])
def a5z:∀{l:List Rw} {p:Option Rw},l.Pairwise (fun a b=>ltZ b a=false)->(∀x,p=some x->∀y∈l,ltZ y x=false)->(mi p l).Pairwise (fun a b=>ltZ a b=true)/\∀x,p=some x->∀y∈mi p l,ltZ x y=true
 | [],p,_,_=>⟨by simp[mi],fun x _ y hy=>by simp[mi]at hy⟩
 | z :: l,p,h,hp=>by
  obtain⟨h1,h2⟩:=btz.1 h;simp only[mi];split
  · rename_i e
    subst e;exact a5z h2 fun x hx y hy=>hp x hx y (bub _ hy)
  rename_i hne
  obtain ⟨q1,q2⟩:=a5z (p:=some z) h2 fun x hx y hy=>by
   simp only[bsy]at hx;subst hx;exact h1 y hy
  refine⟨btz.2 ⟨fun y hy=>q2 z rfl y hy,q1⟩,fun x hx y hy=>?_⟩
  have hxz:ltZ x z=true:=by
   have h3:=hp x hx z buc
   rcases a42 (a:=x) (b:=z) (fun e=>hne (by rw[hx,e]))with h4|h4
   · exact h4
   rw[h3]at h4;cases h4
  rcases btd.1 hy with rfl|hy
  · exact hxz
  exact oi hxz (q2 z rfl y hy)
variable {a' b':Nat}
def a9x{b:Nat}(h:l.getD a' default=l.getD b' default)(ha:a'=a)(hb:b'=b):l.getD a default=l.getD b default:=by subst ha hb;exact h
def a9k{b:Nat}(h:¬l.getD a' default=l.getD b' default)(ha:a'=a)(hb:b'=b):¬l.getD a default=l.getD b default:=by subst ha hb;exact h
def agb{b:Nat}(h:decide (l.getD a' default=l.getD b' default)=true)(ha:a'=a)(hb:b'=b):l.getD a default=l.getD b default:=a9x (of_decide_eq_true h) ha hb
def ah8{b:Nat}(h:decide (l.getD a' default=l.getD b' default)=false)(ha:a'=a)(hb:b'=b):¬l.getD a default=l.getD b default:=a9k (of_decide_eq_false h) ha hb
def ya {a b:Rw}:ltOf sv a b=ltZ a b:=by
 rw[bv5];show decide (sv a b<0)=true<->_;rw[decide_eq_true_iff];exact a5i
def azl {x y z:Rw} (h:ltZ x y=false) (k:ltZ y z=false):ltZ x z=false:=by
 rw[btf];intro e;by_cases hyz:y=z
 · subst hyz;rw[h]at e;cases e
 rcases a42 hyz with h2|h2
 · rw[k]at h2;cases h2
 rw[oi e h2]at h;cases h
def b37:SWO (ltOf sv) where
 irrefl x:=by rw[ya];exact wj x
 trans x y z h k:=by rw[ya]at *;exact oi h k
 ntrans x y z h k:=by rw[ya]at *;exact azl h k
def srZ(l:List Rw):List Rw:=l.mergeSort fun x y=>!ltZ y x
def b9e{x:Rw}:x∈srZ l<->x∈l:=by unfold srZ;exact List.mem_mergeSort
def auk(l:List Rw):(srZ l).length=l.length:=bx4 _
def b7c(l:List Rw):ja (srZ l)=ck l:=by
 refine ami (a5z ?_ fun x hx=>by cases hx).1 fun z=>by rw[apx,b9e]
 have h:=bww (le:=fun x y:Rw=>!ltZ y x) (fun a b c h k=>by
  simp only[btv]at *
  exact azl k h) (fun a b=>by
  simp only[buk,btv];by_cases e:ltZ b a=true
  · right
    rw[btf];intro e2;have:=oi e e2;rw[wj]at this;cases this
  left
  exact btf.2 e) l
 refine h.imp fun {a b} hab=>?_;simpa using hab
def bby {r:Rw} (h:(l.any fun x=>decide (x=r))=false):r∉l:=fun e=>by
 rw[buu]at h;exact h r e (decide_eq_true rfl)
def bay:Go.Hx.goodFn bxr 197:=⟨Tryz.f197,Tryz.func197,by kernel_rfl,by kernel_rfl⟩
def bgy (id:Nat) (caps:Nat->PV) (l:List Rw) (hsz:l.length<=8589934592):dv bxr 197 [.one (.ref id l.length), .one (.p (.fn 198 0 caps))] [(id, .arr true 1 124 l.length (lf rC l))] (.tup [])
 [(id, .arr true 1 124 l.length (lf rC (srZ l)))] [id]:=by
 have h:=avt Tryz.laysSortZ (fun r:Rw=>zl r) (fun imm x v hr=>by obtain⟨ad,cap,h1,_⟩:=hr;rw[h1];rfl) sv b37 (fun x y h k=>by
  rw[ya]at h k;apply Classical.byContradiction;intro hne
  rcases a42 hne with h2|h2
  · rw[h]at h2;cases h2
  rw[k]at h2;cases h2) 198 caps (enters_of Tryz.func198 (by kernel_rfl) rfl) (fun x y=>b7y x y) id 124 l hsz
 have e:(fun x y:Rw=>!(ltOf sv) y x)=fun x y=>!ltZ y x:=by
  funext x y;rw[ya]
 rw[e]at h;exact h
end
end
section
open Go.Proofs
def bkh(l:List Rw):dv bxr 199 [.one (.ref 900 l.length), .one (.p (.fn 145 0 fun _=>.any))] [(900, .arr true 1 124 l.length (lf rC l))] (.v (.one (.p (rl (ja l))))) [] []:=by
 refine hfx (nt:=66) Tryz.func199 ?_;refine dt ?_;refine a9d 900 rfl fun hlen=>?_;refine cr ?_;refine hcd ?_ ?_<;>intro h0
 · refine w_5 ?_;refine bj 4 rfl rfl rfl ?_;refine hrr ?_;exact⟨_,_,rfl,bx7,ao0 (k:=l.length) (bt2 _) (fun j h1 h2=>by omega),trivial⟩
 refine w_7 ?_;refine am (ι:=Nat) (ka 0 (ka 1 kn)) (kb 900 km) (fun k=>⟨[(5,some (vI k))],[]⟩) (fun k=>1<=k/\k<=l.length/\∀j,0<j->j<k->¬l.getD j default=l.getD (j-1) default) (fun k=>l.length-k) (1) (⟨bt2 _,by omega,fun j h1 h2=>by omega⟩) kk ?_;rintro k ⟨hk1,hk,hI⟩;refine w_8 ?_;refine hcd ?_ ?_<;>intro h1
 ·
  refine jk ?_;refine qcx ait (b48 _ _) ?_;refine w_2 ?_;refine hcb ?_ ?_<;>intro h2
  ·
   refine mq ?_;refine am (ι:=Nat×Nat×List Rw) (ka 0 (ka 1 (ka 6 kn))) km (fun x=>⟨[(5,some (vI x.1)),(7,some (vI ((x.2.1:Int)-k)))],[(900,some (.arr true 1 124 l.length (lf rC x.2.2)))]⟩) (fun x=>CpZ l k x.1 x.2.1 x.2.2) (fun x=>l.length-x.2.1) ((k,k+1,l)) (CpZ.start hk1 bx5 hI (by first|exact a9x bx6 rfl bx5|exact agb bx6 rfl bx5)) ⟨⟨zy,⟨_,rfl,(coi bx9)⟩,trivial⟩,uu⟩ ?_;rintro⟨p,q,m⟩ hC;have hC0:=hC;obtain⟨hml,hkq,hpq,hql,_,_⟩:=hC0;dsimp only at hC hml hkq hpq hql;refine w_8 ?_;refine hcd ?_ ?_<;>intro h3
   ·
    simp only[iu,bv,btc]at h3;refine jk ?_;refine qcx ait (b48 _ _) ?_;refine w_3 ?_;refine hcv ?_ ?_<;>intro h4
    ·
     refine am9 ?_
     first | (refine lpz (p+1, q+1, m.set p (m.getD q default)) ⟨⟨⟨_, rfl, (coi bxb)⟩, ⟨_, rfl, (coi bxb)⟩, tt⟩, ⟨⟨_, rfl, (po id hml.symm bx5 (by dsimp only;omega) bxe)⟩, trivial⟩⟩ ?_;exact hC.keep bx5 (by first|exact a9k bx6 bxe bxe|exact ah8 bx6 bxe bxe))
           |(refine lpz (p,q+1,m) ⟨⟨⟨_,rfl,(coi bx9)⟩,⟨_,rfl,(coi bx9)⟩,tt⟩,uu⟩ ?_;exact hC.skip bx5 (by first|exact a9x bx6 bxh bxh|exact agb bx6 bxh bxh))
    refine w_6 ?_
    first | (refine lpz (p+1, q+1, m.set p (m.getD q default)) ⟨⟨⟨_, rfl, (coi bxb)⟩, ⟨_, rfl, (coi bxb)⟩, tt⟩, ⟨⟨_, rfl, (po id hml.symm bx5 (by dsimp only;omega) bxe)⟩, trivial⟩⟩ ?_;exact hC.keep bx5 (by first|exact a9k bx6 bxe bxe|exact ah8 bx6 bxe bxe))
          |(refine lpz (p,q+1,m) ⟨⟨⟨_,rfl,(coi bx9)⟩,⟨_,rfl,(coi bx9)⟩,tt⟩,uu⟩ ?_;exact hC.skip bx5 (by first|exact a9x bx6 bxh bxh|exact agb bx6 bxh bxh))
   simp only[iu,bv,btc]at h3;refine w_6 ?_;refine r9 0 true ?_;refine w_5 ?_;refine avg rfl rfl rfl rfl rfl ?_;refine w_2 ?_;refine hrr ?_;exact⟨_,_,rfl,bx7,b5v hC bx5 (by simp[bv]),trivial⟩
  refine w_6 ?_;refine lpz (k+1) kk ?_;refine⟨by omega,by show k+1<=_;omega,fun j h1 h2=>?_⟩
  rcases bvx (bwd h2)with h|h
  · exact hI j h1 h
  subst h
  first|exact a9k bx6 rfl bx5|exact ah8 bx6 rfl bx5
 refine w_6 ?_;refine bj 4 rfl rfl rfl ?_;refine hrr ?_;exact⟨_,_,rfl,bx7,ao0 (k:=k) bx5 hI,trivial⟩
end
section
open Go.Proofs
def aik:goodFn bxr 148:=wgx Tryz.func148
def agi (n:Int) (l:List Rw) (hl:l.length<=8589934592):dv bxr 148 [.agg [.p (.raw (.int .i64 n)), .ref 900 l.length]] [(900, .arr true 1 124 l.length (lf rC l))] (.v (.agg [.p (.raw (.int .i64 n)), .p (rl (ck l))])) [] []:=by
 refine hfx (nt:=11) Tryz.func148 ?_;refine sx7 ?_;refine m9 0 ?_;refine m9 1 ?_;refine w_5 ?_;refine fc9 bay (bgy 900 _ l hl) uu ?_;refine w_5 ?_;refine l6 rfl rfl rfl rfl rfl rfl (wgx Tryz.func199) (bkh (srZ l)) (⟨congrArg (HV.ref 900) (auk l).symm,CoP.refl _,trivial⟩) ⟨⟨_,rfl,jn rfl (auk l).symm⟩,trivial⟩ rfl rfl ?_;refine w_8 ?_;refine hrr ?_;exact⟨_,_,rfl,bx7,CoR.of_eq (by rw[<- b7c];rfl),trivial⟩
end
section
abbrev nM(l:List Rw):Nat->Nat:=fun i=>(l.getD i default).length
abbrev i7(l:List Rw):Nat->Nat->Int:=fun i r=>(l.getD i default).getD r default
abbrev mg(M:Nat->Nat->Int):Nat->Nat->Nat->PV:=fun i r _=>.raw (.int .i64 (M i r))
section
variable {e et:TypeId}{i k:Nat}
def axx{l:List Rw}{f:Nat->Nat->PV}(hk:k=(l.getD i default).length)(hf:f=lf zC (l.getD i default)):
 CoO (.nest e et 1 (i+1) (fw (nM l) i k) (gk (mg (i7 l)) i f) none) (.nest e et 1 (i+1) (nM l) (mg (i7 l)) none):=by
 subst hk hf
 have hm:∀j,fw (nM l) i (l.getD i default).length j=nM l j:=fun j=>by
  by_cases h:j=i
  · subst h;rw[se]
  rw[qz h]
 refine⟨rfl,rfl,rfl,rfl,rfl,fun j _=>(hm j).symm,fun j r c hj hr hc=>CoP.of_eq ?_⟩;by_cases h:j=i
 · subst h
   rw[ahi];rfl
 rw[ad8 h]
abbrev hiI(x y:Int):Int:=if x<y then y else x
abbrev loI(x y:Int):Int:=if y<x then y else x
def p8(M:Nat->Nat->Int)(hi lo:Int)(i k:Nat):Nat->Nat->Int:=fun i' r=>if(i'<i\/(i'=i/\r<k))/\M i' r=hi then lo else M i' r
def eqM(M:Nat->Nat->Int)(a b j:Nat):Nat->Nat->Int:=fun i r=>if M i r=hiI (M a j) (M b j)then loI (M a j) (M b j)else M i r
def eqMs(M:Nat->Nat->Int)(a b:Nat)(js:List Nat):Nat->Nat->Int:=js.foldl (fun M j=>eqM M a b j) M
def fv(l:List Rw)(M:Nat->Nat->Int):List Rw:=(List.range l.length).map fun i=>(List.range (l.getD i default).length).map (M i)
def sc(l:List Rw)(M:Nat->Nat->Int):(fv l M).length=l.length:=by unfold fv;simp
variable {M:Nat->Nat->Int}
def ako {l:List Rw} (h:i<l.length):(fv l M).getD i default=(List.range (l.getD i default).length).map (M i):=by
 unfold fv;rw[bt1,btm,bus h];rfl
variable {hi lo:Int}
def ayb:p8 M hi lo 0 0=M:=by
 funext i r;unfold p8;rw[if_neg bx5]
def b18 (h:p8 M hi lo i k i k=hi):p8 M hi lo i (k+1)=fun i' r=>if i'=i/\r=k then lo else p8 M hi lo i k i' r:=by
 have h0:M i k=hi:=by
  unfold p8 at h;rwa [if_neg bx5]at h
 funext i' r;unfold p8;by_cases e:i'=i/\r=k
 · rw[if_pos e,if_pos ⟨.inr ⟨e.1,by omega⟩,by rw[e.1,e.2];exact h0⟩]
 rw[if_neg e];by_cases e2:(i'<i\/(i'=i/\r<k))/\M i' r=hi
 · rw[if_pos e2,if_pos ⟨e2.1.imp_right fun x=>⟨x.1,by omega⟩,e2.2⟩]
 rw[if_neg e2,if_neg fun e3=>e2 ⟨by omega,e3.2⟩]
def azu (h:¬p8 M hi lo i k i k=hi):p8 M hi lo i (k+1)=p8 M hi lo i k:=by
 have h0:¬M i k=hi:=by
  unfold p8 at h;rwa [if_neg bx5]at h
 funext i' r;unfold p8;by_cases e:i'=i/\r=k
 · rw[if_neg (fun x=>h0 (by rw[<- e.1,<- e.2];exact x.2)),if_neg (fun x=>h0 (by rw[<- e.1,<- e.2];exact x.2))]
 by_cases e2:(i'<i\/(i'=i/\r<k))/\M i' r=hi
 · rw[if_pos e2,if_pos ⟨e2.1.imp_right fun x=>⟨x.1,by omega⟩,e2.2⟩]
 rw[if_neg e2,if_neg fun e3=>e2 ⟨by omega,e3.2⟩]
variable {M':Nat->Nat->Int}{m:Nat->Nat}{n:Nat}
def asi{i0 k0:Nat}{v:Int}(hM:M'=fun i' r=>if i'=i/\r=k then v else M i' r)(hi:i0=i)(hk:k0=k):
 CoO (.nest e et 1 n m (sn (mg M) i0 k0 0 [.raw (.int .i64 v)]) none) (.nest e et 1 n m (mg M') none):=by
 subst hi hk hM;refine⟨rfl,rfl,rfl,rfl,rfl,fun j _=>rfl,fun j r c hj hr hc=>CoP.of_eq ?_⟩;obtain rfl:c=0:=by omega
 unfold sn;by_cases h:j=i0
 · rw [if_pos h]
   unfold fz;by_cases h2:r=k0
   · rw [if_pos ⟨h2,by omega,by simp⟩]
     show _=PV.raw (.int .i64 (if j=i0/\r=k0 then v else M j r));rw[if_pos ⟨h,h2⟩];rfl
   rw[if_neg (fun x=>h2 x.1)];show _=PV.raw (.int .i64 (if j=i0/\r=k0 then v else M j r));rw[if_neg (fun x=>h2 x.2)]
 rw[if_neg h];show _=PV.raw (.int .i64 (if j=i0/\r=k0 then v else M j r));rw[if_neg (fun x=>h x.1)]
def abt (h:∀i r,i<n->r<m i->M' i r=M i r):CoO (.nest e et 1 n m (mg M) none) (.nest e et 1 n m (mg M') none) :=
 ⟨rfl,rfl,rfl,rfl,rfl,fun _ _=>rfl,fun j r c hj hr hc=>CoP.of_eq (by show PV.raw (.int .i64 (M j r))=PV.raw (.int .i64 (M' j r));rw[h j r hj hr])⟩
def b56 (hk:¬k<m i):∀i' r,i'<n->r<m i'->p8 M hi lo (i+1) 0 i' r=p8 M hi lo i k i' r:=fun i' r h1 h2=>by
 unfold p8;by_cases e2:(i'<i\/(i'=i/\r<k))/\M i' r=hi
 · rw[if_pos e2,if_pos ⟨by omega,e2.2⟩]
 rw [if_neg e2,if_neg fun e3=>e2 ⟨by
  rcases bwr i' i with h|h
  · exact .inl h
  right;obtain rfl:i'=i:=by omega
  exact⟨rfl,by omega⟩,e3.2⟩]
def aoo {a b j:Nat} (hn:¬i<n):∀i' r,i'<n->r<m i'->eqM M a b j i' r=p8 M (hiI (M a j) (M b j)) (loI (M a j) (M b j)) i 0 i' r:=fun i' r h1 h2=>by
 unfold p8 eqM;by_cases e2:M i' r=hiI (M a j) (M b j)
 · rw[if_pos e2,if_pos ⟨by omega,e2⟩]
 rw[if_neg e2,if_neg fun e3=>e2 e3.2]
def ac9 {a b j:Nat} (h:M a j=M b j):eqM M a b j=M:=by
 funext i r;unfold eqM;have e1:hiI (M a j) (M b j)=M b j:=by unfold hiI;rw[if_neg bx5,h]
 have e2:loI (M a j) (M b j)=M b j:=by unfold loI;rw[if_neg bx5,h]
 rw[e1,e2];by_cases e:M i r=M b j
 · rw[if_pos e,e]
 rw[if_neg e]
def a1s {a b:Nat} {js:List Nat} (h:i<js.length):eqMs M a b (js.take (i+1))=eqM (eqMs M a b (js.take i)) a b (js.getD i default):=by
 unfold eqMs;rw[aj h,btr];rfl
def b03(s:AS):(ak s).length<=32:=bth (buo _ _) bx8
def b6n {l:List Nat} {j:Nat} (h:j<l.length):l.getD j default∈l:=by
 rw[bt1,bt0 h];exact bti h
def bdu {l:List Rw} (hn:n=l.length):CoO (.arr true 1 e n (a2b 1 (nM l) (mg M))) (.arr true 1 e (fv l M).length (lf rC (fv l M))):=by
 subst hn;refine⟨fun h=>h,rfl,rfl,sc l M,fun i j hi hj=>?_⟩;show CoP (.sl (l.getD i default).length 1 false (mg M i)) (zl ((fv l M).getD i default));rw[ako hi];refine CoP.sl bx8 (.inl rfl) (fun h=>h) fun r c hr hc=>CoP.of_eq ?_;show PV.raw (.int .i64 (M i r))=PV.raw (.int .i64 (((List.range (l.getD i default).length).map (M i)).getD r default));rw[bt1,btm,bus hr];rfl
end
end
section
open Go.Proofs
def b3u (n:Int) (l:List Rw) (hl:∀i,i<l.length->(l.getD i default).length<=17592186044416) (hl2:l.length<=5864062014805):dv bxr 189 [.agg [.p (.raw (.int .i64 n)), .p (rl l)]] [] (.v (.agg [.p (.raw (.int .i64 n)), .ref 901 l.length])) [(901, .nest 124 3 1 l.length (nM l) (mg (i7 l)) none)] []:=by
 refine hfx (nt:=25) Tryz.func189 ?_;refine sx7 ?_;refine m9 0 ?_;refine m9 1 ?_;refine w_6 ?_;refine m9 2 ?_;refine w_2 ?_;refine aij 2 1 901 124 3 1 (nM l) (mg (i7 l)) bxc rfl rfl rfl rfl ?_;refine w_9 ?_;refine bw (ka 2 (ka 3 (ka 10 (ka 11 kn)))) (kb 1 km) (fun i=>⟨[(12,some (vI i))],[(2,some (.box [.p (.raw (.int .i64 n)), .ref 901 i])),(901,some (.nest 124 3 1 i (nM l) (mg (i7 l)) none))]⟩) l.length kk ?_;rintro i hi;refine w_5 ?_;refine hcd ?_ ?_<;>intro h0
 · refine mq ?_;refine fc9 ah9 ((ahc (l.getD i default).length false (lf zC (l.getD i default)) (hl i bx5)).swap 0 907) trivial ?_;refine m9 3 ?_;refine r9 4 true ?_;refine w_4 ?_;refine ayu 901 907 rfl rfl ?_;refine w_4 ?_;exact lpx (i+1) ⟨tt,⟨u9,⟨_,rfl,(axx rfl rfl)⟩,uu⟩⟩
 obtain rfl:i=l.length:=by omega
 refine w_6 ?_;refine hrr ?_;exact⟨_,_,rfl,bx7,CoR.refl _,uu⟩
end
section
open Go.Proofs
def bea(n:Int)(l:List Rw)(s:AS)(a b:Nat)(hl:∀i,i<l.length->(l.getD i default).length<=17592186044416)(hl2:l.length<=8589934592)(ha:a<l.length)(hb:b<l.length)(hs:∀j,j∈ak s->∀i,i<l.length->j<(l.getD i default).length):a7 bxr 194 [pT n l,pA s,pI (a:Int),pI (b:Int)] (ae [pT n (ck (fv l (eqMs (i7 l) a b (ak s))))]):=by
 refine hpx (nt:=76) Tryz.func194 ?_;refine sx7 ?_;refine m9 0 ?_;refine m9 1 ?_;refine w_4 ?_;refine fc9 aib (b3u n l hl bx5) trivial ?_;refine m9 2 ?_;refine w_6 ?_;refine qcx a3z (amf s) ?_;refine w_4 ?_;refine bw (ka 2 (ka 3 (ka 8 (ka 9 (ka 20 (ka 21 kn)))))) (kb 1 (kb 2 km)) (fun q=>⟨[(22,some (vI q))],[(901,some (.nest 124 3 1 l.length (fun i=>(l.getD i default).length) (mg (eqMs (i7 l) a b ((ak s).take q))) none))]⟩) ((ak s).length) kk ?_;rintro q hq;have hm32:=b03 s;refine w_5 ?_;refine hcd ?_ ?_<;>intro h0
 ·
  have hjm:((ak s).getD q default)∈ak s:=b6n bx5;have hja:=hs _ hjm a ha;have hjb:=hs _ hjm b hb;refine a2y ?_;refine rq rfl rfl rfl rfl rfl ?_ (hp:=(by(try simp only[btc,nM]);(repeat' apply And.intro)<;>first|trivial|rfl|omega|exact bt4 rfl));refine w_7 ?_;refine rq rfl rfl rfl rfl rfl ?_ (hp:=(by(try simp only[btc,nM]);(repeat' apply And.intro)<;>first|trivial|rfl|omega|exact bt4 rfl));refine gh ?_;refine hcd ?_ ?_<;>intro h1
  ·
   refine w_5 ?_
   first | (refine lpz (q+1) ⟨tt, ⟨⟨_, rfl, (by rw[a1s bx5, ac9 bx6]; exact CoO.refl _)⟩, uu⟩⟩ ?_; show q+1<=_; omega)
         |(refine lpz (q+1) ⟨tt,⟨⟨_,rfl,(by rw[a1s bx5];exact abt (aoo bx5))⟩,uu⟩⟩ ?_;show q+1<=_;omega)
  refine w_9 ?_;refine bw (ka 2 (ka 3 (ka 8 (ka 9 (ka 12 (ka 13 (ka 20 (ka 21 (ka 22 (ka 46 (ka 47 kn))))))))))) (kb 1 (kb 2 km)) (fun i=>⟨[(48,some (vI i))],[(901,some (.nest 124 3 1 l.length (fun i=>(l.getD i default).length) (mg (p8 (eqMs (i7 l) a b ((ak s).take q)) (hiI ((eqMs (i7 l) a b ((ak s).take q)) a ((ak s).getD q default)) ((eqMs (i7 l) a b ((ak s).take q)) b ((ak s).getD q default))) (loI ((eqMs (i7 l) a b ((ak s).take q)) a ((ak s).getD q default)) ((eqMs (i7 l) a b ((ak s).take q)) b ((ak s).getD q default))) i 0)) none))]⟩) l.length ⟨tt,⟨⟨_,rfl,(by rw[ayb];exact CoO.refl _)⟩,trivial⟩⟩ ?_;rintro i hi;refine w_5 ?_;refine hcd ?_ ?_<;>intro h2
  ·
   have hli:=hl i bx5;refine ss ?_;refine bw (ka 2 (ka 3 (ka 8 (ka 9 (ka 12 (ka 13 (ka 15 (ka 20 (ka 21 (ka 22 (ka 46 (ka 47 (ka 48 (ka 53 kn)))))))))))))) (kb 1 (kb 2 km)) (fun k=>⟨[(54,some (vI k))],[(901,some (.nest 124 3 1 l.length (fun i=>(l.getD i default).length) (mg (p8 (eqMs (i7 l) a b ((ak s).take q)) (hiI ((eqMs (i7 l) a b ((ak s).take q)) a ((ak s).getD q default)) ((eqMs (i7 l) a b ((ak s).take q)) b ((ak s).getD q default))) (loI ((eqMs (i7 l) a b ((ak s).take q)) a ((ak s).getD q default)) ((eqMs (i7 l) a b ((ak s).take q)) b ((ak s).getD q default))) i k)) none))]⟩) ((l.getD i default).length) kk ?_;rintro k hk;refine w_5 ?_;refine hcd ?_ ?_<;>intro h3
   ·
    refine gh ?_;(iterate 2 refine rq rfl rfl rfl rfl rfl ?_ (hp:=(by(try simp only[btc,nM]);(repeat' apply And.intro)<;>first|trivial|rfl|omega|exact bt4 rfl)));refine w_5 ?_;refine hcd ?_ ?_<;>intro h4
    · refine w_6 ?_;refine rq rfl rfl rfl rfl rfl ?_ (hp:=(by(try simp only[btc,nM]);(repeat' apply And.intro)<;>first|trivial|rfl|omega|exact bt4 rfl));refine rs rfl rfl rfl rfl rfl ?_ (hp:=(by(try simp only[btc,nM]);(repeat' apply And.intro)<;>first|trivial|rfl|omega|exact bt4 rfl));refine w_5 ?_;exact lpx (k+1) ⟨tt,⟨⟨_,rfl,(by first|exact asi (b18 bx6) bx8 bx8|(rw[azu bx6];exact CoO.refl _))⟩,uu⟩⟩
    refine w_5 ?_;exact lpx (k+1) ⟨tt,⟨⟨_,rfl,(by first|exact asi (b18 bx6) bx8 bx8|(rw[azu bx6];exact CoO.refl _))⟩,uu⟩⟩
   refine w_5 ?_;exact lpx (i+1) ⟨tt,⟨⟨_,rfl,(abt (b56 bx5))⟩,uu⟩⟩
  refine w_5 ?_
  first | (refine lpz (q+1) ⟨tt, ⟨⟨_, rfl, (by rw[a1s bx5, ac9 bx6]; exact CoO.refl _)⟩, uu⟩⟩ ?_; show q+1<=_; omega)
        |(refine lpz (q+1) ⟨tt,⟨⟨_,rfl,(by rw[a1s bx5];exact abt (aoo bx5))⟩,uu⟩⟩ ?_;show q+1<=_;omega)
 obtain rfl:q=(ak s).length:=by omega
 refine w_2 ?_;refine ahy 901 rfl ?_;refine w_2 ?_;refine l6 rfl rfl rfl rfl rfl rfl aik ((agi n (fv l (eqMs (i7 l) a b (ak s))) (by rw[sc];omega)).swap 900 901) (⟨⟨CoP.refl _,congrArg (HV.ref 901) (sc _ _).symm,trivial⟩,trivial⟩) ⟨⟨_,rfl,(by rw[btb];exact bdu rfl)⟩,trivial⟩ rfl rfl ?_;refine v_2 ?_;exact CoL.refl _
end
section
def wl(n:Int)(l:List Rw)(row:Rw):Int×List Rw×Int:=if 256<(ck (l++[row])).length then(0,[],3) else(n,ck (l++[row]),0)
def m7{s:Nat}{f:Nat->Nat->PV}:CoP (.sl 0 s true f) (rl []):=CoP.sl rfl (.inr rfl) (fun h=>by cases h) fun i j hi _=>absurd hi (bt9 i)
def fdE(n:Int)(l:List Rw)(a b:Nat)(x:Fd):Int×List Rw×Int:=if ov (l.getD a default) (l.getD b default) x.lhs=true then(n,ck (fv l (eqMs (i7 l) a b (ak x.rhs))),0) else(0,[],1)
def mvE(n:Int)(l:List Rw)(a b:Nat)(x:Fd):Int×List Rw×Int:=if ov (l.getD a default) (l.getD b default) x.lhs=true then wl n l (ij (l.getD a default) (l.getD b default) (x.lhs|||x.rhs)) else(0,[],1)
def sg {n:Int} {l:List Rw} (h:tok n l=true):0<=n/\n<=16/\l.length<=256/\∀i,i<l.length->(l.getD i default).length=n.toNat:=by
 unfold tok at h;rw[bt3,decide_eq_true_iff,decide_eq_true_iff]at h;obtain⟨⟨h0,h1,h2⟩,h3⟩:=h;refine⟨h0,h1,h2,fun i hi=>?_⟩;have:=h3 i hi;unfold qq at this;rw[bt3,bt3,decide_eq_true_iff]at this;omega
def ai0 {n:Int} (h0:0<=n) (h1:n<=16) {x:Fd} (h:inU n x=true) {j:Nat} (hj:j∈ak x.rhs):j<n.toNat:=by
 obtain⟨_,h3⟩:=(a38 h0 h1).1 h;obtain⟨h4,h5⟩:=io.1 hj;have h6:x.rhs>>>n.toNat=0:=(s8 (n:=n.toNat) bx5).1 (by unfold a6 at h3;rwa [bua bx5]at h3)
 rcases bwr j n.toNat with h|h
 · exact h
 rw[b62.1 h6 j h4 h]at h5;cases h5
end
section
open Go.Proofs
def bpu (n:Int) (l:List Rw) (row:Rw) (hl:∀i,i<l.length->(l.getD i default).length<=17592186044416) (hl2:l.length<=4294967296):a7 bxr 195 [pT n l,pZ row] (ae [pT (wl n l row).1 (wl n l row).2.1,pI (wl n l row).2.2]):=by
 refine hpx (nt:=23) Tryz.func195 ?_;refine sx7 ?_;refine m9 0 ?_;refine m9 1 ?_;refine w_5 ?_;refine fc9 aib (att n l hl bx5) trivial ?_;refine m9 2 ?_;refine w_7 ?_;refine m9 3 ?_;refine r9 4 true ?_;refine w_6 ?_;refine l6 rfl rfl rfl rfl rfl rfl aik ((agi n (l++[row]) bxi).swap 900 901) (⟨⟨CoP.refl _,congrArg (HV.ref 901) bx8,trivial⟩,trivial⟩) ⟨⟨_,rfl,bq rfl (CoP.refl _)⟩,trivial⟩ rfl rfl ?_;refine cr ?_;refine hcd ?_ ?_<;>intro h0
 · refine w_6 ?_;refine hrr ?_;have he:wl n l row=(0,[],3):=if_pos bx5;exact f9 rfl rfl (by rw[he];exact⟨CoC.agg ⟨CoP.refl _,m7,trivial⟩,CoC.refl _,trivial⟩)
 refine w_7 ?_;refine hrr ?_;have he:wl n l row=(n,ck (l++[row]),0):=if_neg bx5;exact f9 rfl rfl (by rw[he];exact CoL.refl _)
def beg (n:Int) (l:List Rw) (p m:List Fd) (i a b:Nat) (hT:tok n l=true) (ha:a<l.length) (hb:b<l.length) (hi:i<p.length) (hu:inU n (p.getD i default)=true):a7 bxr 147 [pT n l,pP (fdl p),pP (fdl m), .agg [.raw (.bool false), .raw (.int .i64 (i:Int)), .raw (.int .i64 (a:Int)), .raw (.int .i64 (b:Int))]] (ae [pT (fdE n l a b (p.getD i default)).1 (fdE n l a b (p.getD i default)).2.1,pI (fdE n l a b (p.getD i default)).2.2]):=by
 refine hpx (nt:=75) Tryz.func147 ?_;refine dt ?_;obtain⟨hn0,hn16,hl256,hrow⟩:=sg hT;have hra:=hrow a ha;have hrb:=hrow b hb;have hbig:∀i,i<l.length->(l.getD i default).length<=17592186044416:=fun i hi=>by rw[hrow i hi];omega
 refine gy ?_;refine m9 0 ?_;refine m9 1 ?_;refine m9 2 ?_;refine bkl ?_;refine w_7 ?_;refine qcx a47 (a6s (l.getD a default) (l.getD b default) (p.getD i default).lhs bx5 bx5) ?_;refine w_2 ?_;refine hcv ?_ ?_<;>intro h0
 · refine w_6 ?_;refine hrr ?_;have he:fdE n l a b (p.getD i default)=(0,[],1):=if_neg bxf;exact f9 rfl rfl (by rw[he];exact⟨CoC.agg ⟨CoP.refl _,m7,trivial⟩,CoC.refl _,trivial⟩)
 refine qb ?_;refine qcx (wgx Tryz.func194) (bea n l (p.getD i default).rhs a b hbig bx5 ha hb (fun j hj i hi=>by rw[hrow i hi];exact ai0 hn0 hn16 hu hj)) ?_;refine w_4 ?_;refine hrr ?_;have he:fdE n l a b (p.getD i default)=(n,ck (fv l (eqMs (i7 l) a b (ak (p.getD i default).rhs))),0):=if_pos bxf;exact f9 rfl rfl (by rw[he];exact CoL.refl _)
def bcx (n:Int) (l:List Rw) (p m:List Fd) (i a b:Nat) (hT:tok n l=true) (ha:a<l.length) (hb:b<l.length) (hi:i<m.length):a7 bxr 147 [pT n l,pP (fdl p),pP (fdl m), .agg [.raw (.bool true), .raw (.int .i64 (i:Int)), .raw (.int .i64 (a:Int)), .raw (.int .i64 (b:Int))]] (ae [pT (mvE n l a b (m.getD i default)).1 (mvE n l a b (m.getD i default)).2.1,pI (mvE n l a b (m.getD i default)).2.2]):=by
 refine hpx (nt:=75) Tryz.func147 ?_;refine dt ?_;obtain⟨hn0,hn16,hl256,hrow⟩:=sg hT;have hra:=hrow a ha;have hrb:=hrow b hb;have hbig:∀i,i<l.length->(l.getD i default).length<=17592186044416:=fun i hi=>by rw[hrow i hi];omega
 refine gy ?_;refine m9 0 ?_;refine m9 1 ?_;refine m9 2 ?_;refine bkl ?_;refine w_4 ?_;refine m9 3 ?_;refine w_9 ?_;refine qcx a47 (a6s (l.getD a default) (l.getD b default) (m.getD i default).lhs bx5 bx5) ?_;refine w_2 ?_;refine hcv ?_ ?_<;>intro h0
 · refine w_6 ?_;refine hrr ?_;have he:mvE n l a b (m.getD i default)=(0,[],1):=if_neg bxf;exact f9 rfl rfl (by rw[he];exact⟨CoC.agg ⟨CoP.refl _,m7,trivial⟩,CoC.refl _,trivial⟩)
 refine gv ?_;refine rc rfl rfl rfl rfl rfl rfl (wgx Tryz.func196) (ay8 (l.getD a default) (l.getD b default) ((m.getD i default).lhs|||(m.getD i default).rhs) bx5 bx5) (⟨CoC.refl _,CoC.refl _,cci (by rw[bOr];rfl),trivial⟩) rfl rfl ?_;refine qcx (wgx Tryz.func195) (bpu n l (ij (l.getD a default) (l.getD b default) ((m.getD i default).lhs|||(m.getD i default).rhs)) hbig bx5) ?_;refine w_6 ?_;refine hrr ?_;have he:mvE n l a b (m.getD i default)=wl n l (ij (l.getD a default) (l.getD b default) ((m.getD i default).lhs|||(m.getD i default).rhs)):=if_pos bxf;exact f9 rfl rfl (by rw[he];exact CoL.refl _)
end
section
def o7 (P:Nat->Nat->Nat->Bool) (I L:Nat):Option (Nat×Nat×Nat) :=
 (List.range I).findSome? fun i=>(List.range L).findSome? fun a=>((List.range L).find? fun b=>P i a b).map fun b=>(i,a,b)
def agn{α:Type}{f:Nat->Option α}:∀{n k:Nat} {x:α},k<n->f k=some x->(∀j,j<k->f j=none)->(List.range n).findSome? f=some x
 | n + 1,k,x,hk,h,hb=>by
  rw[bu3,List.findSome?_append];by_cases e:k<n
  · rw[agn e h hb];rfl
  obtain rfl:k=n:=by omega
  have:(List.range k).findSome? f=none:=by
   rw[List.findSome?_eq_none_iff];intro j hj;exact hb j (btg.1 hj)
  rw[this];simp[h]
def ais {α:Type} {f:Nat->Option α} {n:Nat} (h:∀j,j<n->f j=none):(List.range n).findSome? f=none:=by
 rw[List.findSome?_eq_none_iff];intro j hj;exact h j (btg.1 hj)
def a9r {p:Nat->Bool} {n:Nat} (h:∀j,j<n->p j=false):(List.range n).find? p=none:=by
 rw[bva];intro j hj;rw[h j (btg.1 hj)];decide
def bf2 {p:Nat->Bool} {n k:Nat} (hk:k<n) (h:p k=true) (hb:∀j,j<k->p j=false):(List.range n).find? p=some k:=by
 induction n with
 |zero=>omega
 | succ n ih =>
  rw[bu3,List.find?_append];by_cases e:k<n
  · rw[ih e];rfl
  obtain rfl:k=n:=by omega
  rw[a9r hb];simp[h]
section
variable {P:Nat->Nat->Nat->Bool}
def ab2 {I L i a b:Nat} (hi:i<I) (ha:a<L) (hb:b<L) (h:P i a b=true) (h1:∀i',i'<i->∀a',a'<L->∀b',b'<L->P i' a' b'=false) (h2:∀a',a'<a->∀b',b'<L->P i a' b'=false) (h3:∀b',b'<b->P i a b'=false):
 o7 P I L=some (i,a,b):=by
 refine agn hi ?_ fun j hj=>ais fun a' ha'=>by rw[a9r fun b' hb'=>h1 j hj a' ha' b' hb'];rfl
 refine agn ha ?_ fun a' ha'=>by rw[a9r fun b' hb'=>h2 a' ha' b' hb'];rfl
 rw[bf2 hb h h3];rfl
def ab4 {I L:Nat} (h:∀i',i'<I->∀a',a'<L->∀b',b'<L->P i' a' b'=false):o7 P I L=none :=
 ais fun i hi=>ais fun a ha=>by rw[a9r fun b hb=>h i hi a ha b hb];rfl
def jq(l:List Rw)(x:Fd)(a b:Nat):Bool:=ov (l.getD a default) (l.getD b default) x.lhs&&!ov (l.getD a default) (l.getD b default) x.rhs
def jt(l:List Rw)(x:Fd)(a b:Nat):Bool:=ov (l.getD a default) (l.getD b default) x.lhs&&!(l.any fun r=>decide (r=ij (l.getD a default) (l.getD b default) (x.lhs|||x.rhs)))
end
section
variable {l:List Rw}{x:Fd}{a b:Nat}
def bf1(h:ov (l.getD a default) (l.getD b default) x.lhs=true)(h2:ov (l.getD a default) (l.getD b default) x.rhs=false):jq l x a b=true:=by unfold jq;rw[h,h2];rfl
def aqr(h:ov (l.getD a default) (l.getD b default) x.lhs=false):jq l x a b=false:=by unfold jq;rw[h];rfl
def als(h:ov (l.getD a default) (l.getD b default) x.rhs=true):jq l x a b=false:=by unfold jq;rw[h];simp
def bax(h:ov (l.getD a default) (l.getD b default) x.lhs=true)(h2:(l.any fun r=>decide (r=ij (l.getD a default) (l.getD b default) (x.lhs|||x.rhs)))=false):jt l x a b=true:=by unfold jt;rw[h,h2];rfl
def apb(h:ov (l.getD a default) (l.getD b default) x.lhs=false):jt l x a b=false:=by unfold jt;rw[h];rfl
def anz(h:(l.any fun r=>decide (r=ij (l.getD a default) (l.getD b default) (x.lhs|||x.rhs)))=true):jt l x a b=false:=by unfold jt;rw[h];simp
end
abbrev St:=Bool×Nat×Nat×Nat
abbrev St.pc(s:St):PC:=.agg [.raw (.bool s.1), .raw (.int .i64 (s.2.1:Int)), .raw (.int .i64 (s.2.2.1:Int)), .raw (.int .i64 (s.2.2.2:Int))]
def gp (l:List Rw) (p m:List Fd):Option St :=
 match o7 (fun i a b=>jq l (p.getD i default) a b) p.length l.length with
 |some x=>some (false,x)
 |none=>(o7 (fun i a b=>jt l (m.getD i default) a b) m.length l.length).map fun x=>(true,x)
def bbg{l:List Rw}{p m:List Fd}{x:Nat×Nat×Nat}(h:o7 (fun i a b=>jq l (p.getD i default) a b) p.length l.length=some x):gp l p m=some (false,x):=by unfold gp;rw[h]
def bep{l:List Rw}{p m:List Fd}{x:Nat×Nat×Nat}(h0:o7 (fun i a b=>jq l (p.getD i default) a b) p.length l.length=none)(h:o7 (fun i a b=>jt l (m.getD i default) a b) m.length l.length=some x):gp l p m=some (true,x):=by unfold gp;rw[h0,h];rfl
def bbe{l:List Rw}{p m:List Fd}(h0:o7 (fun i a b=>jq l (p.getD i default) a b) p.length l.length=none)(h:o7 (fun i a b=>jt l (m.getD i default) a b) m.length l.length=none):gp l p m=none:=by unfold gp;rw[h0,h];rfl
end
section
open Go.Proofs
def bj0(n:Int)(l:List Rw)(p m:List Fd)(hT:tok n l=true):a7 bxr 190 [pT n l,pP (fdl p),pP (fdl m)] (ae [St.pc ((gp l p m).getD (false,0,0,0)),pB (gp l p m).isSome]):=by
 refine hpx (nt:=132) Tryz.func190 ?_;refine dt ?_;obtain⟨hn0,hn16,hl256,hrow⟩:=sg hT;refine e9 1 rfl fun hn1=>?_;refine e9 2 rfl fun hn2=>?_;refine gy ?_;refine m9 0 ?_;refine m9 1 ?_;refine cr ?_;refine am (ι:=Nat) (ka 2 (ka 3 (ka 6 (ka 16 (ka 17 kn))))) (kb 0 (kb 1 km)) (fun i=>⟨[(18,some (vI i))],[]⟩) (fun i=>i<=p.length/\(∀i',i'<i->∀a',a'<l.length->∀b',b'<l.length->jq l (p.getD i' default) a' b'=false)) (fun i=>p.length-i) (0) (⟨bt6 _,d5⟩) kk ?_;rintro i ⟨hi,hI⟩;refine w_5 ?_;refine hcd ?_ ?_<;>intro h0
 ·
  refine w_8 ?_;refine m9 2 ?_;refine gv ?_;refine am (ι:=Nat) (ka 2 (ka 3 (ka 6 (ka 8 (ka 9 (ka 16 (ka 17 (ka 18 (ka 25 kn))))))))) (kb 0 (kb 1 (kb 2 km))) (fun a=>⟨[(26,some (vI a))],[]⟩) (fun a=>a<=l.length/\(∀a',a'<a->∀b',b'<l.length->jq l (p.getD i default) a' b'=false)) (fun a=>l.length-a) (0) (⟨bt6 _,d5⟩) kk ?_;rintro a ⟨ha,hA⟩;refine w_5 ?_;refine hcd ?_ ?_<;>intro h1
  ·
   refine ss ?_;refine am (ι:=Nat) (ka 2 (ka 3 (ka 6 (ka 8 (ka 9 (ka 10 (ka 16 (ka 17 (ka 18 (ka 25 (ka 26 (ka 31 kn)))))))))))) (kb 0 (kb 1 (kb 2 km))) (fun b=>⟨[(32,some (vI b))],[]⟩) (fun b=>b<=l.length/\(∀b',b'<b->jq l (p.getD i default) a b'=false)) (fun b=>l.length-b) (0) (⟨bt6 _,d5⟩) kk ?_;rintro b ⟨hb,hB⟩;refine w_5 ?_;refine hcd ?_ ?_<;>intro h2
   ·
    refine amk ?_;refine qcx a47 (a6s (l.getD a default) (l.getD b default) (p.getD i default).lhs (by rw[hrow _ bx5,hrow _ bx5]) (by rw[hrow _ bx5];omega)) ?_;refine qy ?_;refine al rfl rfl ?_ ?_<;>intro r3
    ·
     have h3:=r3;(iterate 12 refine qy ?_ (hg:=(gtt r3)));refine qcx a47 (a6s (l.getD a default) (l.getD b default) (p.getD i default).rhs (by rw[hrow _ bx5,hrow _ bx5]) (by rw[hrow _ bx5];omega)) ?_ (hg:=(gtt r3));refine qy ?_ (hg:=(gtt r3));refine w_3 ?_;refine ax _ rfl ?_ ?_<;>intro r4
     · have h4:=cj (br r3 r4);refine w_9 ?_;refine hrr ?_;have he:=bbg (m:=m) (ab2 (P:=fun i a b=>jq l (p.getD i default) a b) (i:=i) (a:=a) (b:=b) bx5 bx5 bx5 (bf1 bx6 bx6) hI hA hB);exact f9 rfl rfl (by rw[he];exact CoL.refl _)
     have h4:=cn (br r3 r4);refine w_5 ?_;refine lpz (b+1) kk ?_;exact⟨by show b+1<=_;omega,c6 hB (by first|exact aqr bx6|exact als bx6)⟩
    have h3:=r3;(iterate 14 refine k9 (gft r3) ?_);refine w_9 ?_;refine lpz (b+1) kk ?_
    exact⟨by show b+1<=_;omega,c6 hB (by first|exact aqr bx6|exact als bx6)⟩
   refine w_5 ?_;refine lpz (a+1) kk ?_;exact⟨by show a+1<=_;omega,c6 hA (fun b' hb'=>hB b' bx5)⟩
  refine w_5 ?_;refine lpz (i+1) kk ?_;exact⟨by show i+1<=_;omega,c6 hI (fun a' ha'=>hA a' bx5)⟩
 obtain rfl:i=p.length:=by omega
 have hno:=ab4 (P:=fun i a b=>jq l (p.getD i default) a b) (I:=p.length) (L:=l.length) hI;refine w_9 ?_;refine am (ι:=Nat) (ka 3 (ka 6 (ka 71 (ka 72 kn)))) (kb 0 (kb 1 km)) (fun k=>⟨[(73,some (vI k))],[]⟩) (fun k=>k<=m.length/\(∀i',i'<k->∀a',a'<l.length->∀b',b'<l.length->jt l (m.getD i' default) a' b'=false)) (fun k=>m.length-k) (0) (⟨bt6 _,d5⟩) kk ?_;rintro k ⟨hk,hK⟩;refine w_5 ?_;refine hcd ?_ ?_<;>intro h5
 ·
  refine w_8 ?_;refine m9 3 ?_;refine gv ?_;refine am (ι:=Nat) (ka 3 (ka 6 (ka 12 (ka 13 (ka 71 (ka 72 (ka 73 (ka 80 kn)))))))) (kb 0 (kb 1 (kb 3 km))) (fun c=>⟨[(81,some (vI c))],[]⟩) (fun c=>c<=l.length/\(∀a',a'<c->∀b',b'<l.length->jt l (m.getD k default) a' b'=false)) (fun c=>l.length-c) (0) (⟨bt6 _,d5⟩) kk ?_;rintro c ⟨hc,hC⟩;refine w_5 ?_;refine hcd ?_ ?_<;>intro h6
  ·
   refine ss ?_;refine am (ι:=Nat) (ka 3 (ka 6 (ka 12 (ka 13 (ka 14 (ka 71 (ka 72 (ka 73 (ka 80 (ka 81 (ka 86 kn))))))))))) (kb 0 (kb 1 (kb 3 km))) (fun d=>⟨[(87,some (vI d))],[]⟩) (fun d=>d<=l.length/\(∀b',b'<d->jt l (m.getD k default) c b'=false)) (fun d=>l.length-d) (0) (⟨bt6 _,d5⟩) kk ?_;rintro d ⟨hd,hD⟩;refine w_5 ?_;refine hcd ?_ ?_<;>intro h7
   ·
    refine amk ?_;refine qcx a47 (a6s (l.getD c default) (l.getD d default) (m.getD k default).lhs (by rw[hrow _ bx5,hrow _ bx5]) (by rw[hrow _ bx5];omega)) ?_;refine qy ?_;refine al rfl rfl ?_ ?_<;>intro r8
    ·
     have h8:=r8;(iterate 16 refine qy ?_ (hg:=(gtt r8)));refine rc rfl rfl rfl rfl rfl rfl (wgx Tryz.func196) (ay8 (l.getD c default) (l.getD d default) ((m.getD k default).lhs|||(m.getD k default).rhs) (by rw[hrow _ bx5,hrow _ bx5]) (by rw[hrow _ bx5];omega)) (⟨CoC.refl _,CoC.refl _,cci (by rw[bOr];rfl),trivial⟩) rfl (gtt r8) ?_;refine qcx (wgx Tryz.func94) (b8k n l (ij (l.getD c default) (l.getD d default) ((m.getD k default).lhs|||(m.getD k default).rhs))) ?_ (hg:=(gtt r8));refine qy ?_ (hg:=(gtt r8));refine w_3 ?_;refine ax _ rfl ?_ ?_<;>intro r9
     · have h9:=cj (br r8 r9);refine w_9 ?_;refine hrr ?_;have he:=bep hno (ab2 (P:=fun i a b=>jt l (m.getD i default) a b) (i:=k) (a:=c) (b:=d) bx5 bx5 bx5 (bax bx6 bx6) hK hC hD);exact f9 rfl rfl (by rw[he];exact CoL.refl _)
     have h9:=cn (br r8 r9);refine w_5 ?_;refine lpz (d+1) kk ?_;exact⟨by show d+1<=_;omega,c6 hD (by first|exact apb bx6|exact anz bx6)⟩
    have h8:=r8;(iterate 19 refine k9 (gft r8) ?_);refine w_9 ?_;refine lpz (d+1) kk ?_
    exact⟨by show d+1<=_;omega,c6 hD (by first|exact apb bx6|exact anz bx6)⟩
   refine w_5 ?_;refine lpz (c+1) kk ?_;exact⟨by show c+1<=_;omega,c6 hC (fun b' hb'=>hD b' bx5)⟩
  refine w_5 ?_;refine lpz (k+1) kk ?_;exact⟨by show k+1<=_;omega,c6 hK (fun a' ha'=>hC a' bx5)⟩
 refine w_7 ?_;refine hrr ?_;have he:=bbe hno (ab4 (P:=fun i a b=>jt l (m.getD i default) a b) (I:=m.length) (L:=l.length) fun j hj=>hK j bx5);exact f9 rfl rfl (by rw[he];exact CoL.refl _)
end
section
def stV(n:Int)(i:Nat)(p:AS)(c:Nat):Int:=if en p (c:Int)=true then(c:Int)else n+(i:Int)*n+(c:Int)
def stT(n:Int)(i:Nat)(p:AS)(k:Nat):Rw:=(List.range n.toNat).map fun c=>if c<k then stV n i p c else 0
def stR(n:Int)(i:Nat)(p:AS):Rw:=(List.range n.toNat).map fun c=>stV n i p c
def cq(n:Int)(ps:List AS):List Rw:=(List.range ps.length).map fun i=>stR n i (ps.getD i default)
def aht(n:Int)(i:Nat)(p:AS):(stR n i p).length=n.toNat:=by unfold stR;simp
def zo(n:Int)(ps:List AS):(cq n ps).length=ps.length:=by unfold cq;simp
section
variable {i:Nat}{n:Int}{ps:List AS}
def b1j (h:i<ps.length):(cq n ps).getD i default=stR n i (ps.getD i default):=by
 unfold cq;rw[bt1,btm,bus h];rfl
variable {k:Nat}
def as3 (n:Int) (i:Nat) (p:AS) (h:n.toNat<=k):stT n i p k=stR n i p:=by
 unfold stT stR;refine bvd fun c hc=>?_;have:=btg.1 hc;rw[if_pos bx5]
variable {p:AS}
def aox {c:Nat} (h:c<n.toNat):(stT n i p k).getD c default=if c<k then stV n i p c else 0:=by
 unfold stT;rw[bt1,btm,bus h];rfl
def apl {N:Nat} {f:Nat->Nat->PV} (hN:N=n.toNat) (hf:∀a,f a 0=.raw (.int .i64 0)):CoO (.arr true 1 3 N f) (.arr true 1 3 N (lf zC (stT n i p 0))) :=
 ⟨fun h=>h,rfl,rfl,rfl,fun a j ha hj=>by
  obtain rfl:j=0:=by omega
  refine CoP.of_eq ?_;rw[hf];show _=PV.raw (.int .i64 ((stT n i p 0).getD a default))
  rw[aox bx5,if_neg bx5]⟩
def abz:∀c,c<n.toNat->(stT n i p (k+1)).getD c default=if c=k then stV n i p k else(stT n i p k).getD c default:=fun c hc=>by
 rw[aox hc,aox hc];by_cases h:c=k
 · rw[if_pos h,if_pos bx5,h]
 rw[if_neg h];by_cases h2:c<k
 · rw[if_pos h2,if_pos bx5]
 rw[if_neg h2,if_neg bx5]
def b00{a b N:Nat}{x:Int}(h:en p (k:Int)=true)(hN:N=n.toNat)(ha:a=k)(hb:b=k):
 CoO (.arr true 1 3 N (fz (fz (lf zC (stT n i p k)) a 0 [.raw (.int .i64 x)]) b 0 [.raw (.int .i64 (k:Int))])) (.arr true 1 3 N (lf zC (stT n i p (k+1)))):=by
 subst ha hb;refine⟨fun h=>h,rfl,rfl,rfl,fun c j hc hj=>CoP.of_eq ?_⟩;obtain rfl:j=0:=by omega
 show _=PV.raw (.int .i64 ((stT n i p (b+1)).getD c default));rw[abz c bx5];unfold fz;by_cases e:c=b
 · rw [if_pos ⟨e,by omega,by simp⟩,if_pos e]
   unfold stV;rw[if_pos h];rfl
 rw[if_neg (fun x=>e x.1),if_neg (fun x=>e x.1),if_neg e];rfl
def axs{a N:Nat}(h:¬en p (k:Int)=true)(hN:N=n.toNat)(ha:a=k):
 CoO (.arr true 1 3 N (fz (lf zC (stT n i p k)) a 0 [.raw (.int .i64 (n+(i:Int)*n+(k:Int)))])) (.arr true 1 3 N (lf zC (stT n i p (k+1)))):=by
 subst ha;refine⟨fun h=>h,rfl,rfl,rfl,fun c j hc hj=>CoP.of_eq ?_⟩;obtain rfl:j=0:=by omega
 show _=PV.raw (.int .i64 ((stT n i p (a+1)).getD c default));rw[abz c bx5];unfold fz;by_cases e:c=a
 · rw [if_pos ⟨e,by omega,by simp⟩,if_pos e]
   unfold stV;rw[if_neg h];rfl
 rw[if_neg (fun x=>e x.1),if_neg e];rfl
def b85 {s:AS}:(asI s).fdiv (2^(min n.toNat 32))=0<->s>>>n.toNat=0:=by
 rw[a0o,show(0:Int)=asI 0 from rfl,cb]
def bqb (h0:0<=n) (h1:n<=16) (hi:i<=64):0<=(i:Int)*n/\(i:Int)*n<=1024:=by
 refine⟨Int.mul_nonneg bx5 h0, ?_⟩;have h2:(i:Int)*n<=(i:Int)*16:=Int.mul_le_mul_of_nonneg_left h1 bx5;omega
def jh (n:Int) (ps:List AS):Int×List Rw×Int :=
 if n<0\/16<n then(0,[],7)else if 64<ps.length then(0,[],3)else if ps.all (fun p=>decide (p>>>n.toNat=0))=true then(n,ck (cq n ps),0) else(0,[],1)
def ani(h:n<0\/16<n):jh n ps=(0,[],7):=if_pos h
def b3y(h:¬(n<0\/16<n))(h2:64<ps.length):jh n ps=(0,[],3):=by unfold jh;rw[if_neg h,if_pos h2]
def b5n (h:¬(n<0\/16<n)) (h2:¬64<ps.length) (hi:i<ps.length) (h3:¬(ps.getD i default)>>>n.toNat=0):jh n ps=(0,[],1):=by
 unfold jh;rw[if_neg h,if_neg h2,if_neg (fun e=>absurd (awq (l:=ps) (p:=fun p:AS=>decide (p>>>n.toNat=0)) hi (decide_eq_false h3)) (by rw[e];decide))]
def aml (h:¬(n<0\/16<n)) (h2:¬64<ps.length) (h3:∀j,j<ps.length->(ps.getD j default)>>>n.toNat=0):jh n ps=(n,ck (cq n ps),0):=by
 unfold jh;rw[if_neg h,if_neg h2,if_pos (av8 (l:=ps) (p:=fun p:AS=>decide (p>>>n.toNat=0)) fun j hj=>decide_eq_true (h3 j hj))]
def b3e (hi:i<ps.length) (hk:n.toNat<=k):CoP (.sl n.toNat 1 false (lf zC (stT n i (ps.getD i default) k))) (lf rC (cq n ps) i 0):=by
 show CoP _ (zl ((cq n ps).getD i default));rw[b1j hi,as3 n i _ hk];exact CoP.sl (aht _ _ _) (.inl rfl) (fun h=>h) fun a j ha hj=>CoP.refl _
end
end
end Go.Hx

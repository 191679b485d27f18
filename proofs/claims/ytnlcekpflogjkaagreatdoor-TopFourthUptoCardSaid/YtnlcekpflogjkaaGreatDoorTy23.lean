/- A part of the proof: SrZ Ch5 X6 X7 Ch6 X9 X10 Ch7 X11 Ch8 X12 Ch9. -/
import Derived.Shelf.SlSortCmp.NoneTotal
import Derived.Test.YtnlcekpflogjkaaGreatDoorTy21
import Derived.Test.YtnlcekpflogjkaaGreatDoorTy22
set_option linter.all false
set_option maxRecDepth 100000
set_option maxHeartbeats 1000000
namespace Go.Hx
section
open Go.Proofs Go.RowKit Go.Sort
section
variable {w:World}
def arn{w':World}(h:Below w.heap.size w w'):∃q os,w'=grow (w.drewN q) os:=by
 refine⟨w'.drawn-w.drawn,w'.heap.extract w.heap.size w'.heap.size, ?_⟩;have hd:=h.drawn;obtain⟨h1,h2,h3,h4,h5,_⟩:=h
 cases w with
 |mk hp tp dr os out =>
 cases w' with
 |mk hp' tp' dr' os' out' =>
 dsimp only at *;subst h1 h2 h3;unfold grow World.drewN;simp only[World.mk.injEq,true_and,and_true];refine⟨?_,by omega⟩;apply Array.ext_getElem?;intro k;rw[Array.getElem?_append];by_cases hk:k<hp.size
 · rw[if_pos hk,h5 k hk]
 rw[if_neg hk,Array.getElem?_extract];by_cases hk2:k<hp'.size
 · rw [if_pos bww]
   congr 1;omega
 rw[if_neg bww,bvk bww]
variable {os:Array Obj}{α:Type}{d:Array α}{enc:α->Value}
def as4 [Inhabited α] {g m:Nat} {cur:Array Value} {e:TypeId} {fr:Nat×Nat} (h:w.heap[g]? = some (.cells cur e fr)):
 (sortWorld enc w g 0 m d os).heap[g]? = some (.cells (putCells enc 0 d cur) e fr):=by
 have hlt:=(bt3.1 h).1;unfold sortWorld;rw[heap_grow_old _ _ (by simpa using hlt)];unfold putRow mapBlock;simp only[heap_ahead,bvn,if_true,h];rfl
def a2p [Inhabited α] {g m:Nat} {b:Nat} (hb:b<w.heap.size) (hne:b≠g):(sortWorld enc w g 0 m d os).heap[b]? = w.heap[b]?:=by
 unfold sortWorld;rw[heap_grow_old _ _ (by simpa using hb)];unfold putRow mapBlock;simp only[heap_ahead,bvn,if_neg (Ne.symm hne)]
def arj [Inhabited α] {g m:Nat}:Below 0 w (sortWorld enc w g 0 m d os) :=
 ⟨rfl,rfl,rfl,by unfold sortWorld;simp,fun k hk=>absurd hk (bt1 k),by unfold sortWorld grow;simp⟩
def b13[Inhabited α]{cur:Array Value}(h:d.size<=cur.size):(putCells enc 0 d cur).toList.take d.size=d.toList.map enc:=by
 apply bvu;intro k;rw[btx,btf,bup,bup];by_cases hk:k<d.size
 · rw [if_pos hk]
   unfold putCells;rw[Array.getElem?_mapIdx,bue bww,bue hk];simp only[btr,btk,Nat.sub_zero];rw[if_pos ⟨bsx _,hk⟩,getElem!_pos d k hk]
 rw[if_neg hk,bvk bww];rfl
def ax5{P:Program}{ρ:Go.Shelf.Ren}{β:Type}[Inhabited β](L:SlLaysF.n6 P ρ)(pc:β->PV)(h1:∀imm x v,aq imm (pc x) v->v.oneCell'=true)(cf:β->β->Int)(hO:SWO (ltOf cf))(hT:∀x y,(ltOf cf) x y=false->(ltOf cf) y x=false->x=y)
 (g:Nat) (caps:Nat->PV) (hg:∀args w,(callFunc g args).run P w=.ok (.enter g args) w) (hc:∀x y,a6 P g [.one (pc x), .one (pc y)] (ae [.one (.raw (.int .i64 (cf x y)))])) (id:Nat) (e:TypeId) (l:List β) (hsz:l.length<=8589934592) :
 d9 P (ρ.f 6) [.one (.ref id l.length), .one (.p (.fn g 0 caps))] [(id, .arr true 1 e l.length (lf (fun x _=>pc x) l))] (.tup [])
  [(id, .arr true 1 e l.length (lf (fun x _=>pc x) (l.mergeSort fun x y=>!(ltOf cf) y x)))] [id]:=by
 intro w c us hM hus
 match us,hus with
 | [u,v],⟨hu,hv,_⟩ =>
  obtain⟨cs,rfl,hcl,_⟩:=hv;have hcs:cs=[]:=bua hcl;subst hcs;have hl1:lk [(id,a7.arr true 1 e l.length (lf (fun x _=>pc x) l))] id=some (.arr true 1 e l.length (lf (fun x _=>pc x) l)):=by simp[lk]
  have hu2:=(hu.2.2 _ _ _ _ hl1 rfl).2 rfl;subst hu2;have hob:=hM.objs id _ hl1;obtain⟨h0,hmax,h5⟩:=hob;have hlen:(l.mergeSort fun x y=>!(ltOf cf) y x).length=l.length:=bw0 _
  have hev:∀f':Nat->Nat->PV,Evo c (lk [(id,a7.arr true 1 e l.length (lf (fun x _=>pc x) l))]) c (lk [(id,a7.arr true 1 e l.length f')]) id:=fun f' =>
   .inr (.inr ⟨_, .arr true 1 e l.length f',1,e,l.length,l.length,hl1,rfl,by simp[lk],rfl,bsw _,fun _=>rfl,fun _ _ _ _ _ _ _ h=>by cases h⟩)
  rcases buc l.length with hz|hpos
  ·
   have hl:l=[]:=bua hz;subst hl
   have hform:∃ad cap,c.own id=.slice ad 0 cap:=by
    rcases h5 with⟨_,xs,h2,_⟩|⟨_,_,ad,cap,hv,_⟩
    · rcases h2.2 with⟨hv,_⟩|⟨g,cap,cur,hv,_⟩
      · exact⟨none,0,hv⟩
      exact⟨_,cap,hv⟩
    exact⟨ad,cap,hv⟩
   obtain⟨ad,cap,hown⟩:=hform;have hms:([]:List β).mergeSort (fun x y=>!(ltOf cf) y x)=[]:=by simp
   rw[hown,hms];refine(AnyF.slices_SortFunc_none { L with } ad cap (.func (.func g) #[] #[]) w).mono ?_;rintro e' w' ⟨rfl,rfl⟩
   exact ⟨_,c,rfl,⟨[],rfl,trivial⟩,hM,Below.refl _ _,fun _ _ _=>⟨rfl,rfl⟩,fun id0 ob b ho hb=>.inr ⟨id0,ob,ho,hb⟩,fun id0 hid=>by
    rw[bte.1 hid]
    exact Evo.refl _ _ _⟩
  obtain ⟨h6,xs,h2,h4⟩:c.blk id=ew (c.own id)/\∃xs,w.ownsRow 0 e 1 (c.own id) l.length xs/\∀i j,i<l.length->j<1->∃x,xs[i*1+j]? = some x/\aq c.imm (lf (fun x _=>pc x) l i j) x:=by
   rcases h5 with h5|⟨h6|h6,_⟩
   · exact h5
   · cases h6
   omega
  obtain⟨hxl,hrow⟩:=h2
  rcases hrow with⟨_,hz⟩|⟨b,cap,cur,hown,hbase,hheap,hnc,hcm,hcs,htake⟩
  · omega
  have hblk:c.blk id b:=by rw[h6,hown];rfl
  have hlt:b<w.heap.size:=(bt3.1 hheap).1
  have hval:∀i,i<l.length->∃x,cur[i]? = some x/\aq c.imm (pc (l.getD i default)) x:=fun i hi=>by
   obtain⟨x,hx,hr⟩:=h4 i 0 hi bww;rw[bvs,bur,<- htake,btx,if_pos bww,bup]at hx;exact⟨x,hx,hr⟩
  let A:={ p:β×Value // aq c.imm (pc p.1) p.2 }
  let enc:A->Value:=fun p=>p.1.2
  let fst:A->β:=fun p=>p.1.1
  let cf':A->A->Int:=fun p q=>cf (fst p) (fst q)
  have hO':SWO (ltOf cf'):=⟨fun x=>hO.irrefl _,fun x y z=>hO.trans _ _ _,fun x y z=>hO.ntrans _ _ _⟩
  obtain ⟨d,hds,hdv⟩:∃d:Array A,d.size=l.length/\∀i,(hi:i<d.size)->cur[i]? = some (enc d[i])/\fst d[i]=l.getD i default:=by
   refine⟨Array.ofFn (n:=l.length) fun i=>⟨(l.getD i default,(hval i i.2).choose),(hval i i.2).choose_spec.2⟩,by simp,fun i hi=>?_⟩;rw[Array.getElem_ofFn];exact⟨(hval i (by simpa using hi)).choose_spec.1,rfl⟩
  have hd0:0<d.size:=by omega
  haveI:Inhabited A:=⟨d[0]⟩;have hen:∀x:A,(enc x).oneCell'=true:=fun x=>h1 _ _ _ x.2
  have hH:Holds enc w b 0 d:=fun j hj=>by
   rw[btk];refine⟨?_,by simp[World.frozen?,hheap]⟩;rw[getElem!_pos d j hj];simp[World.cell?,hheap,(hdv j hj).1]
  have hcmp:CmpLays1 P g #[] enc cf' b 0 d.size w:=by
   intro m os dk hdk x y
   have hcimm:∀b' ob,c.imm b'=some ob->(sortWorld enc w b 0 m dk os).heap[b']? = some ob:=fun b' ob hb'=>by
    have hne:b'≠b:=fun he=>by
     have:=hM.sep id _ b hl1 hblk;rw[<- he,hb']at this;cases this
    have hw:=hM.imm b' ob hb';rw[a2p (bt3.1 hw).1 hne];exact hw
   have h:=hc (fst x) (fst y) (sortWorld enc w b 0 m dk os) c.imm [enc x,enc y] c.tab hcimm ⟨x.2,y.2,trivial⟩;refine h.mono ?_;rintro e' w' ⟨v,imm',rfl,hr,_,_,hb⟩;obtain⟨q,os',hq⟩:=arn hb;exact⟨by rw[hr.1],q,os',hq⟩
  have hS:=Any.slices_SortFunc L enc hen cf' hO' g #[] b 0 cap d w hg hcmp hH hlt bww;rw[hds]at hS;rw[hown];refine Calls.mono hS ?_;rintro e' w' ⟨rfl,d',m,os,hperm,hsorted,rfl⟩;have hsz':d'.size=l.length:=by rw[hperm.1,hds]
  obtain ⟨S,hSl,hSp⟩:∃S:List A,S=d'.toList/\S.map fst=l.mergeSort fun x y=>!(ltOf cf) y x:=by
   refine⟨_,rfl, ?_⟩
   have hp:(d'.toList.map fst).Perm l:=by
    obtain⟨_,_,hp⟩:=hperm;have e1:d'.extract 0 l.length=d':=by rw[<- hsz'];exact Array.extract_size
    have e2:d.extract 0 l.length=d:=by rw[<- hds];exact Array.extract_size
    rw[e1,e2]at hp;refine(hp.map fst).trans ?_
    have:d.toList.map fst=l:=by
     refine o8 (by simp[hds]) fun j hj=>?_;have hj:j<d.size:=by simpa using hj
     rw[<- (hdv j hj).2,bsv,btf,bup,bue hj];rfl
    rw[this]
   refine List.Perm.eq_of_pairwise (le:=fun x y=>(!(ltOf cf) y x)=true) ?_ ?_ ?_ (hp.trans (List.mergeSort_perm _ _).symm)
   · intro a b _ _ h1 h2
     simp only[bu4]at h1 h2;exact hT a b h2 h1
   · rw [List.pairwise_map,bv3]
     intro i j hi hj hij;have hi':i<d'.size:=by simpa using hi
     have hj':j<d'.size:=by simpa using hj
     have:=hsorted i j (bsx _) hij bww;rw[getElem!_pos d' j hj',getElem!_pos d' i hi']at this;simp only[Array.getElem_toList,bu4];exact this
   refine bwl ?_ ?_ _
   · intro a b c h1 h2
     simp only[bu4]at h1 h2 ⊢;exact hO.ntrans c b a h2 h1
   intro a b
   cases h:(ltOf cf) b a with
   |false=>simp
   |true=>simp[hO.asymmA h]
  obtain rfl:d'=S.toArray:=by rw[hSl]
  rw[<- hSp]at hlen ⊢;rw[btn]at hlen
  refine ⟨_,c,rfl,⟨[],rfl,trivial⟩,⟨fun id0 ob ho=>?_,fun id0 id1 ob0 ob1 b' ho0 ho1 _ _=>(fy ho0).1.trans (fy ho1).1.symm,fun b' ob hb'=>?_,fun id0 ob b' ho hb'=>?_⟩,arj,
   fun b' hb' hno=>⟨a2p hb' (fun he=>hno id _ hl1 (by rw[he];exact hblk)),rfl⟩,fun id0 ob b' ho hb'=>.inr ⟨id,_,hl1,by rw[<- (fy ho).1];exact hb'⟩,fun id0 hid=>by
    rw[bte.1 hid]
    exact hev _⟩
  · obtain ⟨rfl,rfl⟩:=fy ho
    refine⟨h0,hmax, .inl ⟨h6,S.map enc,⟨by simp[hlen], .inr ⟨b,cap,putCells enc 0 S.toArray cur,hown,hbase,as4 hheap,hnc,hcm,by simpa [putCells]using hcs, ?_⟩⟩,fun i j hi hj=>?_⟩⟩
    · have:=b13 (enc:=enc) (d:=S.toArray) (cur:=cur) (by rw[bu0,hlen,hcs];omega)
      rw[bu0,hlen]at this;rw[bvs];exact this
    obtain rfl:j=0:=by omega
    have hi':i<S.length:=by rw[hlen];exact hi
    refine⟨enc S[i], ?_, ?_⟩
    · rw [bvs,bur,btf,bsu hi']
      rfl
    show aq c.imm (pc ((S.map fst).getD i default)) _;rw[bsv,btf,bsu hi'];exact S[i].2
  · have hne:b'≠b:=fun he=>by
     have:=hM.sep id _ b hl1 hblk;rw[<- he,hb']at this;cases this
    have hw:=hM.imm b' ob hb';rw[a2p (bt3.1 hw).1 hne];exact hw
  have:=(fy ho).1;subst this;exact hM.sep id0 _ b' hl1 hb'
 | [],h=>exact h.elim
 | [_],⟨_,h⟩=>exact h.elim
 |_::_::_::_,⟨_,_,h⟩=>exact h.elim
end
end
section
open Go.Proofs Go.RowKit Go.Sort
structure CpZ (l:List Rw) (k p q:Nat) (m:List Rw):Prop where
 len:m.length=l.length
 kq:k<q
 pq:p<q
 ql:q<=l.length
 pre:m.take p=gi (l.take q)
 high:∀j,q-1<=j->m.getD j default=l.getD j default
section
variable {k:Nat}{l:List Rw}
theorem CpZ.start (h1:1<=k) (hk:k<l.length) (h:∀j,0<j->j<k->¬l.getD j default=l.getD (j-1) default) (hd:l.getD k default=l.getD (k-1) default):CpZ l k k (k+1) l :=
 ⟨rfl,by omega,by omega,by omega,by rw[kz bww hk,if_pos hd.symm,btu,qc bww h],fun _ _=>rfl⟩
theorem CpZ.skip {p q:Nat} {m:List Rw} (h:CpZ l k p q m) (hq:q<l.length) (he:m.getD q default=m.getD (q-1) default):CpZ l k p (q+1) m:=by
 have hk:=h.kq;refine⟨h.len,by omega,by have:=h.pq;omega,hq, ?_,fun j hj=>h.high j bww⟩;rw[h.high q bww,h.high (q-1) bww]at he;rw[kz bww hq,if_pos he.symm,btu,h.pre]
theorem CpZ.keep {p q:Nat} {m:List Rw} (h:CpZ l k p q m) (hq:q<l.length) (he:¬m.getD q default=m.getD (q-1) default):CpZ l k (p+1) (q+1) (m.set p (m.getD q default)):=by
 have hk:=h.kq;have hp:=h.pq;have hl:=h.len;refine⟨by simp[hl],by omega,by omega,hq, ?_,fun j hj=>by rw[getD_set_ne' bww];exact h.high j bww⟩;have e:=h.high q bww;rw[e,h.high (q-1) bww]at he;rw[kz bww hq,if_neg (fun e=>he e.symm),<- h.pre,aj (by simp[hl];omega),l3 bww,e];congr 1;rw[List.take_set,bwg bxc]
def amz (hk:l.length<=k) (h:∀j,0<j->j<k->¬l.getD j default=l.getD (j-1) default):CoP (.sl l.length 1 false (lf rC l)) (rl (gi l)):=by
 have:=qc (bsw l.length) fun j h1 h2=>h j h1 bww;rw[bt6]at this;rw[this];exact CoP.refl _
variable {a:Nat}
def b40 {m:List Rw} {p q n d:Nat} {cl:Bool} {z:List Value} (hC:CpZ l k p q m) (hq:¬q<l.length) (ha:p<=a):CoP (.sl (dv (b7 n (some (p:Int))) none) 1 cl (nj (o5 (lf rC m) a d z) none)) (rl (gi l)):=by
 have e:=hC.pre;have h1:=hC.ql;have h2:=hC.len;have h3:=hC.pq;rw[show q=l.length by omega,bt6]at e;have el:(gi l).length=p:=by rw[<- e];simp;omega
 exact aae (by rw[el];rfl) rfl bww (by rw[el,e])
def a5l:∀{l:List Rw} {p:Option Rw},l.Pairwise (fun a b=>ltZ b a=false)->(∀x,p=some x->∀y∈l,ltZ y x=false)->(jq p l).Pairwise (fun a b=>ltZ a b=true)/\∀x,p=some x->∀y∈jq p l,ltZ x y=true
 | [],p,_,_=>⟨by simp[jq],fun x _ y hy=>by simp[jq]at hy⟩
 | z :: l,p,h,hp=>by
  obtain⟨h1,h2⟩:=bty.1 h;simp only[jq];split
  · rename_i e
    subst e;exact a5l h2 fun x hx y hy=>hp x hx y (btp _ hy)
  rename_i hne
  obtain ⟨q1,q2⟩:=a5l (p:=some z) h2 fun x hx y hy=>by
   simp only[bst]at hx;subst hx;exact h1 y hy
  refine⟨bty.2 ⟨fun y hy=>q2 z rfl y hy,q1⟩,fun x hx y hy=>?_⟩
  have hxz:ltZ x z=true:=by
   have h3:=hp x hx z bu5
   rcases a42 (a:=x) (b:=z) (fun e=>hne (by rw[hx,e]))with h4|h4
   · exact h4
   rw[h3]at h4;cases h4
  rcases bt7.1 hy with rfl|hy
  · exact hxz
  exact oe hxz (q2 z rfl y hy)
variable {a' b':Nat}
def a9u{b:Nat}(h:l.getD a' default=l.getD b' default)(ha:a'=a)(hb:b'=b):l.getD a default=l.getD b default:=by subst ha hb;exact h
def a92{b:Nat}(h:¬l.getD a' default=l.getD b' default)(ha:a'=a)(hb:b'=b):¬l.getD a default=l.getD b default:=by subst ha hb;exact h
def ahk{b:Nat}(h:decide (l.getD a' default=l.getD b' default)=true)(ha:a'=a)(hb:b'=b):l.getD a default=l.getD b default:=a9u (of_decide_eq_true h) ha hb
def ai8{b:Nat}(h:decide (l.getD a' default=l.getD b' default)=false)(ha:a'=a)(hb:b'=b):¬l.getD a default=l.getD b default:=a92 (of_decide_eq_false h) ha hb
def xx {a b:Rw}:ltOf sq a b=ltZ a b:=by
 rw[bw6];show decide (sq a b<0)=true<->_;rw[decide_eq_true_iff];exact a5x
def b2k {x y z:Rw} (h:ltZ x y=false) (k:ltZ y z=false):ltZ x z=false:=by
 rw[btb];intro e;by_cases hyz:y=z
 · subst hyz;rw[h]at e;cases e
 rcases a42 hyz with h2|h2
 · rw[k]at h2;cases h2
 rw[oe e h2]at h;cases h
def b6d:SWO (ltOf sq) where
 irrefl x:=by rw[xx];exact wv x
 trans x y z h k:=by rw[xx]at *;exact oe h k
 ntrans x y z h k:=by rw[xx]at *;exact b2k h k
def srZ(l:List Rw):List Rw:=l.mergeSort fun x y=>!ltZ y x
def ba4{x:Rw}:x∈srZ l<->x∈l:=by unfold srZ;exact List.mem_mergeSort
def asx(l:List Rw):(srZ l).length=l.length:=bw0 _
def b42(l:List Rw):gi (srZ l)=bn l:=by
 refine aqx (a5l ?_ fun x hx=>by cases hx).1 fun z=>by rw[acx,ba4]
 have h:=bwl (le:=fun x y:Rw=>!ltZ y x) (fun a b c h k=>by
  simp only[bu4]at *
  exact b2k k h) (fun a b=>by
  simp only[bud,bu4];by_cases e:ltZ b a=true
  · right
    rw[btb];intro e2;have:=oe e e2;rw[wv]at this;cases this
  left
  exact btb.2 e) l
 refine h.imp fun {a b} hab=>?_;simpa using hab
def bdy {r:Rw} (h:(l.any fun x=>decide (x=r))=false):r∉l:=fun e=>by
 rw[buk]at h;exact h r e (decide_eq_true rfl)
def bdx:Go.Hx.goodFn bxn 197:=⟨Tryz.f197,Tryz.func197,by kernel_rfl,by kernel_rfl⟩
def bk9 (id:Nat) (caps:Nat->PV) (l:List Rw) (hsz:l.length<=8589934592):d9 bxn 197 [.one (.ref id l.length), .one (.p (.fn 198 0 caps))] [(id, .arr true 1 124 l.length (lf rC l))] (.tup [])
 [(id, .arr true 1 124 l.length (lf rC (srZ l)))] [id]:=by
 have h:=ax5 Tryz.laysSortZ (fun r:Rw=>zl r) (fun imm x v hr=>by obtain⟨ad,cap,h1,_⟩:=hr;rw[h1];rfl) sq b6d (fun x y h k=>by
  rw[xx]at h k;apply Classical.byContradiction;intro hne
  rcases a42 hne with h2|h2
  · rw[h]at h2;cases h2
  rw[k]at h2;cases h2) 198 caps (enters_of Tryz.func198 (by kernel_rfl) rfl) (fun x y=>b8r x y) id 124 l hsz
 have e:(fun x y:Rw=>!(ltOf sq) y x)=fun x y=>!ltZ y x:=by
  funext x y;rw[xx]
 rw[e]at h;exact h
end
end
section
open Go.Proofs
def bkt(l:List Rw):d9 bxn 199 [.one (.ref 900 l.length), .one (.p (.fn 145 0 fun _=>.any))] [(900, .arr true 1 124 l.length (lf rC l))] (.v (.one (.p (rl (gi l))))) [] []:=by
 refine hfx (nt:=66) Tryz.func199 ?_;refine d5 ?_;refine aa5 900 rfl fun hlen=>?_;refine da ?_;refine hcd ?_ ?_<;>intro h0
 · refine w_5 ?_;refine bh 4 rfl rfl rfl ?_;refine hrr ?_;exact⟨_,_,rfl,bwy,amz (k:=l.length) (bsw _) (fun j h1 h2=>by omega),trivial⟩
 refine w_7 ?_;refine ai (ι:=Nat) (ka 0 (ka 1 kn)) (kb 900 km) (fun k=>⟨[(5,some (vI k))],[]⟩) (fun k=>1<=k/\k<=l.length/\∀j,0<j->j<k->¬l.getD j default=l.getD (j-1) default) (fun k=>l.length-k) (1) (⟨bsw _,by omega,fun j h1 h2=>by omega⟩) kk ?_;rintro k ⟨hk1,hk,hI⟩;refine w_8 ?_;refine hcd ?_ ?_<;>intro h1
 ·
  refine j5 ?_;refine qcx aij (b7b _ _) ?_;refine w_2 ?_;refine hcb ?_ ?_<;>intro h2
  ·
   refine jo ?_;refine ai (ι:=Nat×Nat×List Rw) (ka 0 (ka 1 (ka 6 kn))) km (fun x=>⟨[(5,some (vI x.1)),(7,some (vI ((x.2.1:Int)-k)))],[(900,some (.arr true 1 124 l.length (lf rC x.2.2)))]⟩) (fun x=>CpZ l k x.1 x.2.1 x.2.2) (fun x=>l.length-x.2.1) ((k,k+1,l)) (CpZ.start hk1 bww hI (by first|exact a9u bwx rfl bww|exact ahk bwx rfl bww)) ⟨⟨zy,⟨_,rfl,(coi bwz)⟩,trivial⟩,uu⟩ ?_;rintro⟨p,q,m⟩ hC;have hC0:=hC;obtain⟨hml,hkq,hpq,hql,_,_⟩:=hC0;dsimp only at hC hml hkq hpq hql;refine w_8 ?_;refine hcd ?_ ?_<;>intro h3
   ·
    simp only[dv,b7,bt8]at h3;refine j5 ?_;refine qcx aij (b7b _ _) ?_;refine w_3 ?_;refine hcv ?_ ?_<;>intro h4
    ·
     refine a5y ?_
     first | (refine lpz (p+1, q+1, m.set p (m.getD q default)) ⟨⟨⟨_, rfl, (coi bx1)⟩, ⟨_, rfl, (coi bx1)⟩, tt⟩, ⟨⟨_, rfl, (pl id hml.symm bww bxf bx4)⟩, trivial⟩⟩ ?_;exact hC.keep bww (by first|exact a92 bwx bx4 bx4|exact ai8 bwx bx4 bx4))
           |(refine lpz (p,q+1,m) ⟨⟨⟨_,rfl,(coi bwz)⟩,⟨_,rfl,(coi bwz)⟩,tt⟩,uu⟩ ?_;exact hC.skip bww (by first|exact a9u bwx bx6 bx6|exact ahk bwx bx6 bx6))
    refine w_6 ?_
    first | (refine lpz (p+1, q+1, m.set p (m.getD q default)) ⟨⟨⟨_, rfl, (coi bx1)⟩, ⟨_, rfl, (coi bx1)⟩, tt⟩, ⟨⟨_, rfl, (pl id hml.symm bww bxf bx4)⟩, trivial⟩⟩ ?_;exact hC.keep bww (by first|exact a92 bwx bx4 bx4|exact ai8 bwx bx4 bx4))
          |(refine lpz (p,q+1,m) ⟨⟨⟨_,rfl,(coi bwz)⟩,⟨_,rfl,(coi bwz)⟩,tt⟩,uu⟩ ?_;exact hC.skip bww (by first|exact a9u bwx bx6 bx6|exact ahk bwx bx6 bx6))
   simp only[dv,b7,bt8]at h3;refine w_6 ?_;refine r9 0 true ?_;refine w_5 ?_;refine aii rfl rfl rfl rfl rfl ?_;refine w_2 ?_;refine hrr ?_;exact⟨_,_,rfl,bwy,b40 hC bww (by simp[b7]),trivial⟩
  refine w_6 ?_;refine lpz (k+1) kk ?_;refine⟨by omega,by show k+1<=_;omega,fun j h1 h2=>?_⟩
  rcases bvr (bvv h2)with h|h
  · exact hI j h1 h
  subst h
  first|exact a92 bwx rfl bww|exact ai8 bwx rfl bww
 refine w_6 ?_;refine bh 4 rfl rfl rfl ?_;refine hrr ?_;exact⟨_,_,rfl,bwy,amz (k:=k) bww hI,trivial⟩
end
section
open Go.Proofs
def ahn:goodFn bxn 148:=wgx Tryz.func148
def agq (n:Int) (l:List Rw) (hl:l.length<=8589934592):d9 bxn 148 [.agg [.p (.raw (.int .i64 n)), .ref 900 l.length]] [(900, .arr true 1 124 l.length (lf rC l))] (.v (.agg [.p (.raw (.int .i64 n)), .p (rl (bn l))])) [] []:=by
 refine hfx (nt:=11) Tryz.func148 ?_;refine sx7 ?_;refine m9 0 ?_;refine m9 1 ?_;refine w_5 ?_;refine fc9 bdx (bk9 900 _ l hl) uu ?_;refine w_5 ?_;refine j7 rfl rfl rfl rfl rfl rfl (wgx Tryz.func199) (bkt (srZ l)) (⟨congrArg (HV.ref 900) (asx l).symm,CoP.refl _,trivial⟩) ⟨⟨_,rfl,jw rfl (asx l).symm⟩,trivial⟩ rfl rfl ?_;refine w_8 ?_;refine hrr ?_;exact⟨_,_,rfl,bwy,CoR.of_eq (by rw[<- b42];rfl),trivial⟩
end
section
abbrev nM(l:List Rw):Nat->Nat:=fun i=>(l.getD i default).length
abbrev gp(l:List Rw):Nat->Nat->Int:=fun i r=>(l.getD i default).getD r default
abbrev mg(M:Nat->Nat->Int):Nat->Nat->Nat->PV:=fun i r _=>.raw (.int .i64 (M i r))
section
variable {e et:TypeId}{i k:Nat}
def azd{l:List Rw}{f:Nat->Nat->PV}(hk:k=(l.getD i default).length)(hf:f=lf zC (l.getD i default)):
 CoO (.nest e et 1 (i+1) (fk (nM l) i k) (fv (mg (gp l)) i f) none) (.nest e et 1 (i+1) (nM l) (mg (gp l)) none):=by
 subst hk hf
 have hm:∀j,fk (nM l) i (l.getD i default).length j=nM l j:=fun j=>by
  by_cases h:j=i
  · subst h;rw[s6]
  rw[qw h]
 refine⟨rfl,rfl,rfl,rfl,rfl,fun j _=>(hm j).symm,fun j r c hj hr hc=>CoP.of_eq ?_⟩;by_cases h:j=i
 · subst h
   rw[agu];rfl
 rw[acp h]
abbrev hiI(x y:Int):Int:=if x<y then y else x
abbrev loI(x y:Int):Int:=if y<x then y else x
def og(M:Nat->Nat->Int)(hi lo:Int)(i k:Nat):Nat->Nat->Int:=fun i' r=>if(i'<i\/(i'=i/\r<k))/\M i' r=hi then lo else M i' r
def eqM(M:Nat->Nat->Int)(a b j:Nat):Nat->Nat->Int:=fun i r=>if M i r=hiI (M a j) (M b j)then loI (M a j) (M b j)else M i r
def eqMs(M:Nat->Nat->Int)(a b:Nat)(js:List Nat):Nat->Nat->Int:=js.foldl (fun M j=>eqM M a b j) M
def fg(l:List Rw)(M:Nat->Nat->Int):List Rw:=(List.range l.length).map fun i=>(List.range (l.getD i default).length).map (M i)
def s7(l:List Rw)(M:Nat->Nat->Int):(fg l M).length=l.length:=by unfold fg;simp
variable {M:Nat->Nat->Int}
def ak1 {l:List Rw} (h:i<l.length):(fg l M).getD i default=(List.range (l.getD i default).length).map (M i):=by
 unfold fg;rw[bsv,btf,bu8 h];rfl
variable {hi lo:Int}
def b09:og M hi lo 0 0=M:=by
 funext i r;unfold og;rw[if_neg bww]
def b0o (h:og M hi lo i k i k=hi):og M hi lo i (k+1)=fun i' r=>if i'=i/\r=k then lo else og M hi lo i k i' r:=by
 have h0:M i k=hi:=by
  unfold og at h;rwa [if_neg bww]at h
 funext i' r;unfold og;by_cases e:i'=i/\r=k
 · rw[if_pos e,if_pos ⟨.inr ⟨e.1,by omega⟩,by rw[e.1,e.2];exact h0⟩]
 rw[if_neg e];by_cases e2:(i'<i\/(i'=i/\r<k))/\M i' r=hi
 · rw[if_pos e2,if_pos ⟨e2.1.imp_right fun x=>⟨x.1,by omega⟩,e2.2⟩]
 rw[if_neg e2,if_neg fun e3=>e2 ⟨by omega,e3.2⟩]
def azj (h:¬og M hi lo i k i k=hi):og M hi lo i (k+1)=og M hi lo i k:=by
 have h0:¬M i k=hi:=by
  unfold og at h;rwa [if_neg bww]at h
 funext i' r;unfold og;by_cases e:i'=i/\r=k
 · rw[if_neg (fun x=>h0 (by rw[<- e.1,<- e.2];exact x.2)),if_neg (fun x=>h0 (by rw[<- e.1,<- e.2];exact x.2))]
 by_cases e2:(i'<i\/(i'=i/\r<k))/\M i' r=hi
 · rw[if_pos e2,if_pos ⟨e2.1.imp_right fun x=>⟨x.1,by omega⟩,e2.2⟩]
 rw[if_neg e2,if_neg fun e3=>e2 ⟨by omega,e3.2⟩]
variable {M':Nat->Nat->Int}{m:Nat->Nat}{n:Nat}
def aus{i0 k0:Nat}{v:Int}(hM:M'=fun i' r=>if i'=i/\r=k then v else M i' r)(hi:i0=i)(hk:k0=k):
 CoO (.nest e et 1 n m (sd (mg M) i0 k0 0 [.raw (.int .i64 v)]) none) (.nest e et 1 n m (mg M') none):=by
 subst hi hk hM;refine⟨rfl,rfl,rfl,rfl,rfl,fun j _=>rfl,fun j r c hj hr hc=>CoP.of_eq ?_⟩;obtain rfl:c=0:=by omega
 unfold sd;by_cases h:j=i0
 · rw [if_pos h]
   unfold eu;by_cases h2:r=k0
   · rw [if_pos ⟨h2,by omega,by simp⟩]
     show _=PV.raw (.int .i64 (if j=i0/\r=k0 then v else M j r));rw[if_pos ⟨h,h2⟩];rfl
   rw[if_neg (fun x=>h2 x.1)];show _=PV.raw (.int .i64 (if j=i0/\r=k0 then v else M j r));rw[if_neg (fun x=>h2 x.2)]
 rw[if_neg h];show _=PV.raw (.int .i64 (if j=i0/\r=k0 then v else M j r));rw[if_neg (fun x=>h x.1)]
def abm (h:∀i r,i<n->r<m i->M' i r=M i r):CoO (.nest e et 1 n m (mg M) none) (.nest e et 1 n m (mg M') none) :=
 ⟨rfl,rfl,rfl,rfl,rfl,fun _ _=>rfl,fun j r c hj hr hc=>CoP.of_eq (by show PV.raw (.int .i64 (M j r))=PV.raw (.int .i64 (M' j r));rw[h j r hj hr])⟩
def b5q (hk:¬k<m i):∀i' r,i'<n->r<m i'->og M hi lo (i+1) 0 i' r=og M hi lo i k i' r:=fun i' r h1 h2=>by
 unfold og;by_cases e2:(i'<i\/(i'=i/\r<k))/\M i' r=hi
 · rw[if_pos e2,if_pos ⟨by omega,e2.2⟩]
 rw [if_neg e2,if_neg fun e3=>e2 ⟨by
  rcases bwf i' i with h|h
  · exact .inl h
  right;obtain rfl:i'=i:=by omega
  exact⟨rfl,by omega⟩,e3.2⟩]
def aog {a b j:Nat} (hn:¬i<n):∀i' r,i'<n->r<m i'->eqM M a b j i' r=og M (hiI (M a j) (M b j)) (loI (M a j) (M b j)) i 0 i' r:=fun i' r h1 h2=>by
 unfold og eqM;by_cases e2:M i' r=hiI (M a j) (M b j)
 · rw[if_pos e2,if_pos ⟨by omega,e2⟩]
 rw[if_neg e2,if_neg fun e3=>e2 e3.2]
def acd {a b j:Nat} (h:M a j=M b j):eqM M a b j=M:=by
 funext i r;unfold eqM;have e1:hiI (M a j) (M b j)=M b j:=by unfold hiI;rw[if_neg bww,h]
 have e2:loI (M a j) (M b j)=M b j:=by unfold loI;rw[if_neg bww,h]
 rw[e1,e2];by_cases e:M i r=M b j
 · rw[if_pos e,e]
 rw[if_neg e]
def a1e {a b:Nat} {js:List Nat} (h:i<js.length):eqMs M a b (js.take (i+1))=eqM (eqMs M a b (js.take i)) a b (js.getD i default):=by
 unfold eqMs;rw[aj h,btq];rfl
def b2v(s:AS):(am s).length<=32:=btc (buj _ _) bx0
def b5g {l:List Nat} {j:Nat} (h:j<l.length):l.getD j default∈l:=by
 rw[bsv,bsu h];exact bta h
def bcp {l:List Rw} (hn:n=l.length):CoO (.arr true 1 e n (a18 1 (nM l) (mg M))) (.arr true 1 e (fg l M).length (lf rC (fg l M))):=by
 subst hn;refine⟨fun h=>h,rfl,rfl,s7 l M,fun i j hi hj=>?_⟩;show CoP (.sl (l.getD i default).length 1 false (mg M i)) (zl ((fg l M).getD i default));rw[ak1 hi];refine CoP.sl bx0 (.inl rfl) (fun h=>h) fun r c hr hc=>CoP.of_eq ?_;show PV.raw (.int .i64 (M i r))=PV.raw (.int .i64 (((List.range (l.getD i default).length).map (M i)).getD r default));rw[bsv,btf,bu8 hr];rfl
end
end
section
open Go.Proofs
def b57 (n:Int) (l:List Rw) (hl:∀i,i<l.length->(l.getD i default).length<=17592186044416) (hl2:l.length<=5864062014805):d9 bxn 189 [.agg [.p (.raw (.int .i64 n)), .p (rl l)]] [] (.v (.agg [.p (.raw (.int .i64 n)), .ref 901 l.length])) [(901, .nest 124 3 1 l.length (nM l) (mg (gp l)) none)] []:=by
 refine hfx (nt:=25) Tryz.func189 ?_;refine sx7 ?_;refine m9 0 ?_;refine m9 1 ?_;refine w_6 ?_;refine m9 2 ?_;refine w_2 ?_;refine aiw 2 1 901 124 3 1 (nM l) (mg (gp l)) bx3 rfl rfl rfl rfl ?_;refine w_9 ?_;refine br (ka 2 (ka 3 (ka 10 (ka 11 kn)))) (kb 1 km) (fun i=>⟨[(12,some (vI i))],[(2,some (.box [.p (.raw (.int .i64 n)), .ref 901 i])),(901,some (.nest 124 3 1 i (nM l) (mg (gp l)) none))]⟩) l.length kk ?_;rintro i hi;refine w_5 ?_;refine hcd ?_ ?_<;>intro h0
 · refine jo ?_;refine fc9 ahb ((ahu (l.getD i default).length false (lf zC (l.getD i default)) (hl i bww)).swap 0 907) trivial ?_;refine m9 3 ?_;refine r9 4 true ?_;refine w_4 ?_;refine b2y 901 907 rfl rfl ?_;refine w_4 ?_;exact lpx (i+1) ⟨tt,⟨u9,⟨_,rfl,(azd rfl rfl)⟩,uu⟩⟩
 obtain rfl:i=l.length:=by omega
 refine w_6 ?_;refine hrr ?_;exact⟨_,_,rfl,bwy,CoR.refl _,uu⟩
end
section
open Go.Proofs
def bfi(n:Int)(l:List Rw)(s:AS)(a b:Nat)(hl:∀i,i<l.length->(l.getD i default).length<=17592186044416)(hl2:l.length<=8589934592)(ha:a<l.length)(hb:b<l.length)(hs:∀j,j∈am s->∀i,i<l.length->j<(l.getD i default).length):a6 bxn 194 [pT n l,pA s,pI (a:Int),pI (b:Int)] (ae [pT n (bn (fg l (eqMs (gp l) a b (am s))))]):=by
 refine hpx (nt:=76) Tryz.func194 ?_;refine sx7 ?_;refine m9 0 ?_;refine m9 1 ?_;refine w_4 ?_;refine fc9 ags (b57 n l hl bww) trivial ?_;refine m9 2 ?_;refine w_6 ?_;refine qcx a3h (aob s) ?_;refine w_4 ?_;refine br (ka 2 (ka 3 (ka 8 (ka 9 (ka 20 (ka 21 kn)))))) (kb 1 (kb 2 km)) (fun q=>⟨[(22,some (vI q))],[(901,some (.nest 124 3 1 l.length (fun i=>(l.getD i default).length) (mg (eqMs (gp l) a b ((am s).take q))) none))]⟩) ((am s).length) kk ?_;rintro q hq;have hm32:=b2v s;refine w_5 ?_;refine hcd ?_ ?_<;>intro h0
 ·
  have hjm:((am s).getD q default)∈am s:=b5g bww;have hja:=hs _ hjm a ha;have hjb:=hs _ hjm b hb;refine sv ?_;refine rq rfl rfl rfl rfl rfl ?_ (hp:=(by(try simp only[bt8,nM]);(repeat' apply And.intro)<;>first|trivial|rfl|omega|exact bt0 rfl));refine w_7 ?_;refine rq rfl rfl rfl rfl rfl ?_ (hp:=(by(try simp only[bt8,nM]);(repeat' apply And.intro)<;>first|trivial|rfl|omega|exact bt0 rfl));refine fh ?_;refine hcd ?_ ?_<;>intro h1
  ·
   refine w_5 ?_
   first | (refine lpz (q+1) ⟨tt, ⟨⟨_, rfl, (by rw[a1e bww, acd bwx]; exact CoO.refl _)⟩, uu⟩⟩ ?_; show q+1<=_; omega)
         |(refine lpz (q+1) ⟨tt,⟨⟨_,rfl,(by rw[a1e bww];exact abm (aog bww))⟩,uu⟩⟩ ?_;show q+1<=_;omega)
  refine w_9 ?_;refine br (ka 2 (ka 3 (ka 8 (ka 9 (ka 12 (ka 13 (ka 20 (ka 21 (ka 22 (ka 46 (ka 47 kn))))))))))) (kb 1 (kb 2 km)) (fun i=>⟨[(48,some (vI i))],[(901,some (.nest 124 3 1 l.length (fun i=>(l.getD i default).length) (mg (og (eqMs (gp l) a b ((am s).take q)) (hiI ((eqMs (gp l) a b ((am s).take q)) a ((am s).getD q default)) ((eqMs (gp l) a b ((am s).take q)) b ((am s).getD q default))) (loI ((eqMs (gp l) a b ((am s).take q)) a ((am s).getD q default)) ((eqMs (gp l) a b ((am s).take q)) b ((am s).getD q default))) i 0)) none))]⟩) l.length ⟨tt,⟨⟨_,rfl,(by rw[b09];exact CoO.refl _)⟩,trivial⟩⟩ ?_;rintro i hi;refine w_5 ?_;refine hcd ?_ ?_<;>intro h2
  ·
   have hli:=hl i bww;refine ov ?_;refine br (ka 2 (ka 3 (ka 8 (ka 9 (ka 12 (ka 13 (ka 15 (ka 20 (ka 21 (ka 22 (ka 46 (ka 47 (ka 48 (ka 53 kn)))))))))))))) (kb 1 (kb 2 km)) (fun k=>⟨[(54,some (vI k))],[(901,some (.nest 124 3 1 l.length (fun i=>(l.getD i default).length) (mg (og (eqMs (gp l) a b ((am s).take q)) (hiI ((eqMs (gp l) a b ((am s).take q)) a ((am s).getD q default)) ((eqMs (gp l) a b ((am s).take q)) b ((am s).getD q default))) (loI ((eqMs (gp l) a b ((am s).take q)) a ((am s).getD q default)) ((eqMs (gp l) a b ((am s).take q)) b ((am s).getD q default))) i k)) none))]⟩) ((l.getD i default).length) kk ?_;rintro k hk;refine w_5 ?_;refine hcd ?_ ?_<;>intro h3
   ·
    refine fh ?_;(iterate 2 refine rq rfl rfl rfl rfl rfl ?_ (hp:=(by(try simp only[bt8,nM]);(repeat' apply And.intro)<;>first|trivial|rfl|omega|exact bt0 rfl)));refine w_5 ?_;refine hcd ?_ ?_<;>intro h4
    · refine w_6 ?_;refine rq rfl rfl rfl rfl rfl ?_ (hp:=(by(try simp only[bt8,nM]);(repeat' apply And.intro)<;>first|trivial|rfl|omega|exact bt0 rfl));refine rs rfl rfl rfl rfl rfl ?_ (hp:=(by(try simp only[bt8,nM]);(repeat' apply And.intro)<;>first|trivial|rfl|omega|exact bt0 rfl));refine w_5 ?_;exact lpx (k+1) ⟨tt,⟨⟨_,rfl,(by first|exact aus (b0o bwx) bx0 bx0|(rw[azj bwx];exact CoO.refl _))⟩,uu⟩⟩
    refine w_5 ?_;exact lpx (k+1) ⟨tt,⟨⟨_,rfl,(by first|exact aus (b0o bwx) bx0 bx0|(rw[azj bwx];exact CoO.refl _))⟩,uu⟩⟩
   refine w_5 ?_;exact lpx (i+1) ⟨tt,⟨⟨_,rfl,(abm (b5q bww))⟩,uu⟩⟩
  refine w_5 ?_
  first | (refine lpz (q+1) ⟨tt, ⟨⟨_, rfl, (by rw[a1e bww, acd bwx]; exact CoO.refl _)⟩, uu⟩⟩ ?_; show q+1<=_; omega)
        |(refine lpz (q+1) ⟨tt,⟨⟨_,rfl,(by rw[a1e bww];exact abm (aog bww))⟩,uu⟩⟩ ?_;show q+1<=_;omega)
 obtain rfl:q=(am s).length:=by omega
 refine w_2 ?_;refine ais 901 rfl ?_;refine w_2 ?_;refine j7 rfl rfl rfl rfl rfl rfl ahn ((agq n (fg l (eqMs (gp l) a b (am s))) (by rw[s7];omega)).swap 900 901) (⟨⟨CoP.refl _,congrArg (HV.ref 901) (s7 _ _).symm,trivial⟩,trivial⟩) ⟨⟨_,rfl,(by rw[bt6];exact bcp rfl)⟩,trivial⟩ rfl rfl ?_;refine v_2 ?_;exact CoL.refl _
end
section
def vb(n:Int)(l:List Rw)(row:Rw):Int×List Rw×Int:=if 256<(bn (l++[row])).length then(0,[],3) else(n,bn (l++[row]),0)
def ed{s:Nat}{f:Nat->Nat->PV}:CoP (.sl 0 s true f) (rl []):=CoP.sl rfl (.inr rfl) (fun h=>by cases h) fun i j hi _=>absurd hi (bt1 i)
def fdE(n:Int)(l:List Rw)(a b:Nat)(x:Fd):Int×List Rw×Int:=if ou (l.getD a default) (l.getD b default) x.lhs=true then(n,bn (fg l (eqMs (gp l) a b (am x.rhs))),0) else(0,[],1)
def mvE(n:Int)(l:List Rw)(a b:Nat)(x:Fd):Int×List Rw×Int:=if ou (l.getD a default) (l.getD b default) x.lhs=true then vb n l (ej (l.getD a default) (l.getD b default) (x.lhs|||x.rhs)) else(0,[],1)
def pk {n:Int} {l:List Rw} (h:tok n l=true):0<=n/\n<=16/\l.length<=256/\∀i,i<l.length->(l.getD i default).length=n.toNat:=by
 unfold tok at h;rw[bt5,decide_eq_true_iff,decide_eq_true_iff]at h;obtain⟨⟨h0,h1,h2⟩,h3⟩:=h;refine⟨h0,h1,h2,fun i hi=>?_⟩;have:=h3 i hi;unfold qt at this;rw[bt5,bt5,decide_eq_true_iff]at this;omega
def aga {n:Int} (h0:0<=n) (h1:n<=16) {x:Fd} (h:inU n x=true) {j:Nat} (hj:j∈am x.rhs):j<n.toNat:=by
 obtain⟨_,h3⟩:=(a9g h0 h1).1 h;obtain⟨h4,h5⟩:=oc.1 hj;have h6:x.rhs>>>n.toNat=0:=(rp (n:=n.toNat) bww).1 (by unfold aa at h3;rwa [btz bww]at h3)
 rcases bwf j n.toNat with h|h
 · exact h
 rw[b41.1 h6 j h4 h]at h5;cases h5
end
section
open Go.Proofs
def bp6 (n:Int) (l:List Rw) (row:Rw) (hl:∀i,i<l.length->(l.getD i default).length<=17592186044416) (hl2:l.length<=4294967296):a6 bxn 195 [pT n l,pZ row] (ae [pT (vb n l row).1 (vb n l row).2.1,pI (vb n l row).2.2]):=by
 refine hpx (nt:=23) Tryz.func195 ?_;refine sx7 ?_;refine m9 0 ?_;refine m9 1 ?_;refine w_5 ?_;refine fc9 ags (aun n l hl bww) trivial ?_;refine m9 2 ?_;refine w_7 ?_;refine m9 3 ?_;refine r9 4 true ?_;refine w_6 ?_;refine j7 rfl rfl rfl rfl rfl rfl ahn ((agq n (l++[row]) bxc).swap 900 901) (⟨⟨CoP.refl _,congrArg (HV.ref 901) bx0,trivial⟩,trivial⟩) ⟨⟨_,rfl,bw rfl (CoP.refl _)⟩,trivial⟩ rfl rfl ?_;refine da ?_;refine hcd ?_ ?_<;>intro h0
 · refine w_6 ?_;refine hrr ?_;have he:vb n l row=(0,[],3):=if_pos bww;exact f9 rfl rfl (by rw[he];exact⟨CoC.agg ⟨CoP.refl _,ed,trivial⟩,CoC.refl _,trivial⟩)
 refine w_7 ?_;refine hrr ?_;have he:vb n l row=(n,bn (l++[row]),0):=if_neg bww;exact f9 rfl rfl (by rw[he];exact CoL.refl _)
def ahf:goodFn bxn 147:=wgx Tryz.func147
def aty (n:Int) (l:List Rw) (p m:List Fd) (i a b:Nat) (hT:tok n l=true) (ha:a<l.length) (hb:b<l.length) (hi:i<p.length) (hu:inU n (p.getD i default)=true):a6 bxn 147 [pT n l,pP (fdl p),pP (fdl m), .agg [.raw (.bool false), .raw (.int .i64 (i:Int)), .raw (.int .i64 (a:Int)), .raw (.int .i64 (b:Int))]] (ae [pT (fdE n l a b (p.getD i default)).1 (fdE n l a b (p.getD i default)).2.1,pI (fdE n l a b (p.getD i default)).2.2]):=by
 refine hpx (nt:=75) Tryz.func147 ?_;refine d5 ?_;obtain⟨hn0,hn16,hl256,hrow⟩:=pk hT;have hra:=hrow a ha;have hrb:=hrow b hb;have hbig:∀i,i<l.length->(l.getD i default).length<=17592186044416:=fun i hi=>by rw[hrow i hi];omega
 refine gy ?_;refine m9 0 ?_;refine m9 1 ?_;refine m9 2 ?_;refine bkq ?_;refine w_7 ?_;refine qcx a3l (a8h (l.getD a default) (l.getD b default) (p.getD i default).lhs bww bww) ?_;refine w_2 ?_;refine hcv ?_ ?_<;>intro h0
 · refine w_6 ?_;refine hrr ?_;have he:fdE n l a b (p.getD i default)=(0,[],1):=if_neg bxa;exact f9 rfl rfl (by rw[he];exact⟨CoC.agg ⟨CoP.refl _,ed,trivial⟩,CoC.refl _,trivial⟩)
 refine mz ?_;refine qcx (wgx Tryz.func194) (bfi n l (p.getD i default).rhs a b hbig bww ha hb (fun j hj i hi=>by rw[hrow i hi];exact aga hn0 hn16 hu hj)) ?_;refine w_4 ?_;refine hrr ?_;have he:fdE n l a b (p.getD i default)=(n,bn (fg l (eqMs (gp l) a b (am (p.getD i default).rhs))),0):=if_pos bxa;exact f9 rfl rfl (by rw[he];exact CoL.refl _)
def aug (n:Int) (l:List Rw) (p m:List Fd) (i a b:Nat) (hT:tok n l=true) (ha:a<l.length) (hb:b<l.length) (hi:i<m.length):a6 bxn 147 [pT n l,pP (fdl p),pP (fdl m), .agg [.raw (.bool true), .raw (.int .i64 (i:Int)), .raw (.int .i64 (a:Int)), .raw (.int .i64 (b:Int))]] (ae [pT (mvE n l a b (m.getD i default)).1 (mvE n l a b (m.getD i default)).2.1,pI (mvE n l a b (m.getD i default)).2.2]):=by
 refine hpx (nt:=75) Tryz.func147 ?_;refine d5 ?_;obtain⟨hn0,hn16,hl256,hrow⟩:=pk hT;have hra:=hrow a ha;have hrb:=hrow b hb;have hbig:∀i,i<l.length->(l.getD i default).length<=17592186044416:=fun i hi=>by rw[hrow i hi];omega
 refine gy ?_;refine m9 0 ?_;refine m9 1 ?_;refine m9 2 ?_;refine bkq ?_;refine w_4 ?_;refine m9 3 ?_;refine w_9 ?_;refine qcx a3l (a8h (l.getD a default) (l.getD b default) (m.getD i default).lhs bww bww) ?_;refine w_2 ?_;refine hcv ?_ ?_<;>intro h0
 · refine w_6 ?_;refine hrr ?_;have he:mvE n l a b (m.getD i default)=(0,[],1):=if_neg bxa;exact f9 rfl rfl (by rw[he];exact⟨CoC.agg ⟨CoP.refl _,ed,trivial⟩,CoC.refl _,trivial⟩)
 refine ig ?_;refine rc rfl rfl rfl rfl rfl rfl (wgx Tryz.func196) (ayn (l.getD a default) (l.getD b default) ((m.getD i default).lhs|||(m.getD i default).rhs) bww bww) (⟨CoC.refl _,CoC.refl _,cci (by rw[bOr];rfl),trivial⟩) rfl rfl ?_;refine qcx (wgx Tryz.func195) (bp6 n l (ej (l.getD a default) (l.getD b default) ((m.getD i default).lhs|||(m.getD i default).rhs)) hbig bww) ?_;refine w_6 ?_;refine hrr ?_;have he:mvE n l a b (m.getD i default)=vb n l (ej (l.getD a default) (l.getD b default) ((m.getD i default).lhs|||(m.getD i default).rhs)):=if_pos bxa;exact f9 rfl rfl (by rw[he];exact CoL.refl _)
end
section
def np (P:Nat->Nat->Nat->Bool) (I L:Nat):Option (Nat×Nat×Nat) :=
 (List.range I).findSome? fun i=>(List.range L).findSome? fun a=>((List.range L).find? fun b=>P i a b).map fun b=>(i,a,b)
def ahr{α:Type}{f:Nat->Option α}:∀{n k:Nat} {x:α},k<n->f k=some x->(∀j,j<k->f j=none)->(List.range n).findSome? f=some x
 | n + 1,k,x,hk,h,hb=>by
  rw[bu7,List.findSome?_append];by_cases e:k<n
  · rw[ahr e h hb];rfl
  obtain rfl:k=n:=by omega
  have:(List.range k).findSome? f=none:=by
   rw[List.findSome?_eq_none_iff];intro j hj;exact hb j (btj.1 hj)
  rw[this];simp[h]
def aj0 {α:Type} {f:Nat->Option α} {n:Nat} (h:∀j,j<n->f j=none):(List.range n).findSome? f=none:=by
 rw[List.findSome?_eq_none_iff];intro j hj;exact h j (btj.1 hj)
def a9a {p:Nat->Bool} {n:Nat} (h:∀j,j<n->p j=false):(List.range n).find? p=none:=by
 rw[bwn];intro j hj;rw[h j (btj.1 hj)];decide
def bek {p:Nat->Bool} {n k:Nat} (hk:k<n) (h:p k=true) (hb:∀j,j<k->p j=false):(List.range n).find? p=some k:=by
 induction n with
 |zero=>omega
 | succ n ih =>
  rw[bu7,List.find?_append];by_cases e:k<n
  · rw[ih e];rfl
  obtain rfl:k=n:=by omega
  rw[a9a hb];simp[h]
section
variable {P:Nat->Nat->Nat->Bool}
def ab4 {I L i a b:Nat} (hi:i<I) (ha:a<L) (hb:b<L) (h:P i a b=true) (h1:∀i',i'<i->∀a',a'<L->∀b',b'<L->P i' a' b'=false) (h2:∀a',a'<a->∀b',b'<L->P i a' b'=false) (h3:∀b',b'<b->P i a b'=false):
 np P I L=some (i,a,b):=by
 refine ahr hi ?_ fun j hj=>aj0 fun a' ha'=>by rw[a9a fun b' hb'=>h1 j hj a' ha' b' hb'];rfl
 refine ahr ha ?_ fun a' ha'=>by rw[a9a fun b' hb'=>h2 a' ha' b' hb'];rfl
 rw[bek hb h h3];rfl
def ab3 {I L:Nat} (h:∀i',i'<I->∀a',a'<L->∀b',b'<L->P i' a' b'=false):np P I L=none :=
 aj0 fun i hi=>aj0 fun a ha=>by rw[a9a fun b hb=>h i hi a ha b hb];rfl
def iu(l:List Rw)(x:Fd)(a b:Nat):Bool:=ou (l.getD a default) (l.getD b default) x.lhs&&!ou (l.getD a default) (l.getD b default) x.rhs
def iq(l:List Rw)(x:Fd)(a b:Nat):Bool:=ou (l.getD a default) (l.getD b default) x.lhs&&!(l.any fun r=>decide (r=ej (l.getD a default) (l.getD b default) (x.lhs|||x.rhs)))
end
section
variable {l:List Rw}{x:Fd}{a b:Nat}
def bfd(h:ou (l.getD a default) (l.getD b default) x.lhs=true)(h2:ou (l.getD a default) (l.getD b default) x.rhs=false):iu l x a b=true:=by unfold iu;rw[h,h2];rfl
def ao2(h:ou (l.getD a default) (l.getD b default) x.lhs=false):iu l x a b=false:=by unfold iu;rw[h];rfl
def ad6(h:ou (l.getD a default) (l.getD b default) x.rhs=true):iu l x a b=false:=by unfold iu;rw[h];simp
def bb3(h:ou (l.getD a default) (l.getD b default) x.lhs=true)(h2:(l.any fun r=>decide (r=ej (l.getD a default) (l.getD b default) (x.lhs|||x.rhs)))=false):iq l x a b=true:=by unfold iq;rw[h,h2];rfl
def ap6(h:ou (l.getD a default) (l.getD b default) x.lhs=false):iq l x a b=false:=by unfold iq;rw[h];rfl
def act(h:(l.any fun r=>decide (r=ej (l.getD a default) (l.getD b default) (x.lhs|||x.rhs)))=true):iq l x a b=false:=by unfold iq;rw[h];simp
end
abbrev St:=Bool×Nat×Nat×Nat
abbrev St.pc(s:St):PC:=.agg [.raw (.bool s.1), .raw (.int .i64 (s.2.1:Int)), .raw (.int .i64 (s.2.2.1:Int)), .raw (.int .i64 (s.2.2.2:Int))]
def gf (l:List Rw) (p m:List Fd):Option St :=
 match np (fun i a b=>iu l (p.getD i default) a b) p.length l.length with
 |some x=>some (false,x)
 |none=>(np (fun i a b=>iq l (m.getD i default) a b) m.length l.length).map fun x=>(true,x)
def bcx{l:List Rw}{p m:List Fd}{x:Nat×Nat×Nat}(h:np (fun i a b=>iu l (p.getD i default) a b) p.length l.length=some x):gf l p m=some (false,x):=by unfold gf;rw[h]
def bcf{l:List Rw}{p m:List Fd}{x:Nat×Nat×Nat}(h0:np (fun i a b=>iu l (p.getD i default) a b) p.length l.length=none)(h:np (fun i a b=>iq l (m.getD i default) a b) m.length l.length=some x):gf l p m=some (true,x):=by unfold gf;rw[h0,h];rfl
def bc2{l:List Rw}{p m:List Fd}(h0:np (fun i a b=>iu l (p.getD i default) a b) p.length l.length=none)(h:np (fun i a b=>iq l (m.getD i default) a b) m.length l.length=none):gf l p m=none:=by unfold gf;rw[h0,h];rfl
end
section
open Go.Proofs
def bh4(n:Int)(l:List Rw)(p m:List Fd)(hT:tok n l=true):a6 bxn 190 [pT n l,pP (fdl p),pP (fdl m)] (ae [St.pc ((gf l p m).getD (false,0,0,0)),pB (gf l p m).isSome]):=by
 refine hpx (nt:=132) Tryz.func190 ?_;refine d5 ?_;obtain⟨hn0,hn16,hl256,hrow⟩:=pk hT;refine cw 1 rfl fun hn1=>?_;refine cw 2 rfl fun hn2=>?_;refine gy ?_;refine m9 0 ?_;refine m9 1 ?_;refine da ?_;refine ai (ι:=Nat) (ka 2 (ka 3 (ka 6 (ka 16 (ka 17 kn))))) (kb 0 (kb 1 km)) (fun i=>⟨[(18,some (vI i))],[]⟩) (fun i=>i<=p.length/\(∀i',i'<i->∀a',a'<l.length->∀b',b'<l.length->iu l (p.getD i' default) a' b'=false)) (fun i=>p.length-i) (0) (⟨bsx _,bv⟩) kk ?_;rintro i ⟨hi,hI⟩;refine w_5 ?_;refine hcd ?_ ?_<;>intro h0
 ·
  refine w_8 ?_;refine m9 2 ?_;refine ig ?_;refine ai (ι:=Nat) (ka 2 (ka 3 (ka 6 (ka 8 (ka 9 (ka 16 (ka 17 (ka 18 (ka 25 kn))))))))) (kb 0 (kb 1 (kb 2 km))) (fun a=>⟨[(26,some (vI a))],[]⟩) (fun a=>a<=l.length/\(∀a',a'<a->∀b',b'<l.length->iu l (p.getD i default) a' b'=false)) (fun a=>l.length-a) (0) (⟨bsx _,bv⟩) kk ?_;rintro a ⟨ha,hA⟩;refine w_5 ?_;refine hcd ?_ ?_<;>intro h1
  ·
   refine ov ?_;refine ai (ι:=Nat) (ka 2 (ka 3 (ka 6 (ka 8 (ka 9 (ka 10 (ka 16 (ka 17 (ka 18 (ka 25 (ka 26 (ka 31 kn)))))))))))) (kb 0 (kb 1 (kb 2 km))) (fun b=>⟨[(32,some (vI b))],[]⟩) (fun b=>b<=l.length/\(∀b',b'<b->iu l (p.getD i default) a b'=false)) (fun b=>l.length-b) (0) (⟨bsx _,bv⟩) kk ?_;rintro b ⟨hb,hB⟩;refine w_5 ?_;refine hcd ?_ ?_<;>intro h2
   ·
    refine ago ?_;refine qcx a3l (a8h (l.getD a default) (l.getD b default) (p.getD i default).lhs (by rw[hrow _ bww,hrow _ bww]) (by rw[hrow _ bww];omega)) ?_;refine qy ?_;refine ak rfl rfl ?_ ?_<;>intro r3
    ·
     have h3:=r3;(iterate 12 refine qy ?_ (hg:=(gtt r3)));refine qcx a3l (a8h (l.getD a default) (l.getD b default) (p.getD i default).rhs (by rw[hrow _ bww,hrow _ bww]) (by rw[hrow _ bww];omega)) ?_ (hg:=(gtt r3));refine qy ?_ (hg:=(gtt r3));refine w_3 ?_;refine al _ rfl ?_ ?_<;>intro r4
     · have h4:=dt (c5 r3 r4);refine w_9 ?_;refine hrr ?_;have he:=bcx (m:=m) (ab4 (P:=fun i a b=>iu l (p.getD i default) a b) (i:=i) (a:=a) (b:=b) bww bww bww (bfd bwx bwx) hI hA hB);exact f9 rfl rfl (by rw[he];exact CoL.refl _)
     have h4:=du (c5 r3 r4);refine w_5 ?_;refine lpz (b+1) kk ?_;exact⟨by show b+1<=_;omega,bc hB (by first|exact ao2 bwx|exact ad6 bwx)⟩
    have h3:=r3;(iterate 14 refine k9 (gft r3) ?_);refine w_9 ?_;refine lpz (b+1) kk ?_
    exact⟨by show b+1<=_;omega,bc hB (by first|exact ao2 bwx|exact ad6 bwx)⟩
   refine w_5 ?_;refine lpz (a+1) kk ?_;exact⟨by show a+1<=_;omega,bc hA (fun b' hb'=>hB b' bww)⟩
  refine w_5 ?_;refine lpz (i+1) kk ?_;exact⟨by show i+1<=_;omega,bc hI (fun a' ha'=>hA a' bww)⟩
 obtain rfl:i=p.length:=by omega
 have hno:=ab3 (P:=fun i a b=>iu l (p.getD i default) a b) (I:=p.length) (L:=l.length) hI;refine w_9 ?_;refine ai (ι:=Nat) (ka 3 (ka 6 (ka 71 (ka 72 kn)))) (kb 0 (kb 1 km)) (fun k=>⟨[(73,some (vI k))],[]⟩) (fun k=>k<=m.length/\(∀i',i'<k->∀a',a'<l.length->∀b',b'<l.length->iq l (m.getD i' default) a' b'=false)) (fun k=>m.length-k) (0) (⟨bsx _,bv⟩) kk ?_;rintro k ⟨hk,hK⟩;refine w_5 ?_;refine hcd ?_ ?_<;>intro h5
 ·
  refine w_8 ?_;refine m9 3 ?_;refine ig ?_;refine ai (ι:=Nat) (ka 3 (ka 6 (ka 12 (ka 13 (ka 71 (ka 72 (ka 73 (ka 80 kn)))))))) (kb 0 (kb 1 (kb 3 km))) (fun c=>⟨[(81,some (vI c))],[]⟩) (fun c=>c<=l.length/\(∀a',a'<c->∀b',b'<l.length->iq l (m.getD k default) a' b'=false)) (fun c=>l.length-c) (0) (⟨bsx _,bv⟩) kk ?_;rintro c ⟨hc,hC⟩;refine w_5 ?_;refine hcd ?_ ?_<;>intro h6
  ·
   refine ov ?_;refine ai (ι:=Nat) (ka 3 (ka 6 (ka 12 (ka 13 (ka 14 (ka 71 (ka 72 (ka 73 (ka 80 (ka 81 (ka 86 kn))))))))))) (kb 0 (kb 1 (kb 3 km))) (fun d=>⟨[(87,some (vI d))],[]⟩) (fun d=>d<=l.length/\(∀b',b'<d->iq l (m.getD k default) c b'=false)) (fun d=>l.length-d) (0) (⟨bsx _,bv⟩) kk ?_;rintro d ⟨hd,hD⟩;refine w_5 ?_;refine hcd ?_ ?_<;>intro h7
   ·
    refine ago ?_;refine qcx a3l (a8h (l.getD c default) (l.getD d default) (m.getD k default).lhs (by rw[hrow _ bww,hrow _ bww]) (by rw[hrow _ bww];omega)) ?_;refine qy ?_;refine ak rfl rfl ?_ ?_<;>intro r8
    ·
     have h8:=r8;(iterate 16 refine qy ?_ (hg:=(gtt r8)));refine rc rfl rfl rfl rfl rfl rfl (wgx Tryz.func196) (ayn (l.getD c default) (l.getD d default) ((m.getD k default).lhs|||(m.getD k default).rhs) (by rw[hrow _ bww,hrow _ bww]) (by rw[hrow _ bww];omega)) (⟨CoC.refl _,CoC.refl _,cci (by rw[bOr];rfl),trivial⟩) rfl (gtt r8) ?_;refine qcx ank (awc n l (ej (l.getD c default) (l.getD d default) ((m.getD k default).lhs|||(m.getD k default).rhs))) ?_ (hg:=(gtt r8));refine qy ?_ (hg:=(gtt r8));refine w_3 ?_;refine al _ rfl ?_ ?_<;>intro r9
     · have h9:=dt (c5 r8 r9);refine w_9 ?_;refine hrr ?_;have he:=bcf hno (ab4 (P:=fun i a b=>iq l (m.getD i default) a b) (i:=k) (a:=c) (b:=d) bww bww bww (bb3 bwx bwx) hK hC hD);exact f9 rfl rfl (by rw[he];exact CoL.refl _)
     have h9:=du (c5 r8 r9);refine w_5 ?_;refine lpz (d+1) kk ?_;exact⟨by show d+1<=_;omega,bc hD (by first|exact ap6 bwx|exact act bwx)⟩
    have h8:=r8;(iterate 19 refine k9 (gft r8) ?_);refine w_9 ?_;refine lpz (d+1) kk ?_
    exact⟨by show d+1<=_;omega,bc hD (by first|exact ap6 bwx|exact act bwx)⟩
   refine w_5 ?_;refine lpz (c+1) kk ?_;exact⟨by show c+1<=_;omega,bc hC (fun b' hb'=>hD b' bww)⟩
  refine w_5 ?_;refine lpz (k+1) kk ?_;exact⟨by show k+1<=_;omega,bc hK (fun a' ha'=>hC a' bww)⟩
 refine w_7 ?_;refine hrr ?_;have he:=bc2 hno (ab3 (P:=fun i a b=>iq l (m.getD i default) a b) (I:=m.length) (L:=l.length) fun j hj=>hK j bww);exact f9 rfl rfl (by rw[he];exact CoL.refl _)
end
section
def stV(n:Int)(i:Nat)(p:AS)(c:Nat):Int:=if bu p (c:Int)=true then(c:Int)else n+(i:Int)*n+(c:Int)
def stT(n:Int)(i:Nat)(p:AS)(k:Nat):Rw:=(List.range n.toNat).map fun c=>if c<k then stV n i p c else 0
def stR(n:Int)(i:Nat)(p:AS):Rw:=(List.range n.toNat).map fun c=>stV n i p c
def b9(n:Int)(ps:List AS):List Rw:=(List.range ps.length).map fun i=>stR n i (ps.getD i default)
def a91(n:Int)(i:Nat)(p:AS):(stR n i p).length=n.toNat:=by unfold stR;simp
def yw(n:Int)(ps:List AS):(b9 n ps).length=ps.length:=by unfold b9;simp
section
variable {i:Nat}{n:Int}{ps:List AS}
def azv (h:i<ps.length):(b9 n ps).getD i default=stR n i (ps.getD i default):=by
 unfold b9;rw[bsv,btf,bu8 h];rfl
variable {k:Nat}
def av7 (n:Int) (i:Nat) (p:AS) (h:n.toNat<=k):stT n i p k=stR n i p:=by
 unfold stT stR;refine bvc fun c hc=>?_;have:=btj.1 hc;rw[if_pos bww]
variable {p:AS}
def anb {c:Nat} (h:c<n.toNat):(stT n i p k).getD c default=if c<k then stV n i p c else 0:=by
 unfold stT;rw[bsv,btf,bu8 h];rfl
def anl {N:Nat} {f:Nat->Nat->PV} (hN:N=n.toNat) (hf:∀a,f a 0=.raw (.int .i64 0)):CoO (.arr true 1 3 N f) (.arr true 1 3 N (lf zC (stT n i p 0))) :=
 ⟨fun h=>h,rfl,rfl,rfl,fun a j ha hj=>by
  obtain rfl:j=0:=by omega
  refine CoP.of_eq ?_;rw[hf];show _=PV.raw (.int .i64 ((stT n i p 0).getD a default))
  rw[anb bww,if_neg bww]⟩
def ad9:∀c,c<n.toNat->(stT n i p (k+1)).getD c default=if c=k then stV n i p k else(stT n i p k).getD c default:=fun c hc=>by
 rw[anb hc,anb hc];by_cases h:c=k
 · rw[if_pos h,if_pos bww,h]
 rw[if_neg h];by_cases h2:c<k
 · rw[if_pos h2,if_pos bww]
 rw[if_neg h2,if_neg bww]
def b08{a b N:Nat}{x:Int}(h:bu p (k:Int)=true)(hN:N=n.toNat)(ha:a=k)(hb:b=k):
 CoO (.arr true 1 3 N (eu (eu (lf zC (stT n i p k)) a 0 [.raw (.int .i64 x)]) b 0 [.raw (.int .i64 (k:Int))])) (.arr true 1 3 N (lf zC (stT n i p (k+1)))):=by
 subst ha hb;refine⟨fun h=>h,rfl,rfl,rfl,fun c j hc hj=>CoP.of_eq ?_⟩;obtain rfl:j=0:=by omega
 show _=PV.raw (.int .i64 ((stT n i p (b+1)).getD c default));rw[ad9 c bww];unfold eu;by_cases e:c=b
 · rw [if_pos ⟨e,by omega,by simp⟩,if_pos e]
   unfold stV;rw[if_pos h];rfl
 rw[if_neg (fun x=>e x.1),if_neg (fun x=>e x.1),if_neg e];rfl
def ay0{a N:Nat}(h:¬bu p (k:Int)=true)(hN:N=n.toNat)(ha:a=k):
 CoO (.arr true 1 3 N (eu (lf zC (stT n i p k)) a 0 [.raw (.int .i64 (n+(i:Int)*n+(k:Int)))])) (.arr true 1 3 N (lf zC (stT n i p (k+1)))):=by
 subst ha;refine⟨fun h=>h,rfl,rfl,rfl,fun c j hc hj=>CoP.of_eq ?_⟩;obtain rfl:j=0:=by omega
 show _=PV.raw (.int .i64 ((stT n i p (a+1)).getD c default));rw[ad9 c bww];unfold eu;by_cases e:c=a
 · rw [if_pos ⟨e,by omega,by simp⟩,if_pos e]
   unfold stV;rw[if_neg h];rfl
 rw[if_neg (fun x=>e x.1),if_neg e];rfl
def b8p {s:AS}:(asI s).fdiv (2^(min n.toNat 32))=0<->s>>>n.toNat=0:=by
 rw[a0f,show(0:Int)=asI 0 from rfl,df]
def bp7 (h0:0<=n) (h1:n<=16) (hi:i<=64):0<=(i:Int)*n/\(i:Int)*n<=1024:=by
 refine⟨Int.mul_nonneg bww h0, ?_⟩;have h2:(i:Int)*n<=(i:Int)*16:=Int.mul_le_mul_of_nonneg_left h1 bww;omega
def j8 (n:Int) (ps:List AS):Int×List Rw×Int :=
 if n<0\/16<n then(0,[],7)else if 64<ps.length then(0,[],3)else if ps.all (fun p=>decide (p>>>n.toNat=0))=true then(n,bn (b9 n ps),0) else(0,[],1)
def ame(h:n<0\/16<n):j8 n ps=(0,[],7):=if_pos h
def b36(h:¬(n<0\/16<n))(h2:64<ps.length):j8 n ps=(0,[],3):=by unfold j8;rw[if_neg h,if_pos h2]
def b4h (h:¬(n<0\/16<n)) (h2:¬64<ps.length) (hi:i<ps.length) (h3:¬(ps.getD i default)>>>n.toNat=0):j8 n ps=(0,[],1):=by
 unfold j8;rw[if_neg h,if_neg h2,if_neg (fun e=>absurd (afc (l:=ps) (p:=fun p:AS=>decide (p>>>n.toNat=0)) hi (decide_eq_false h3)) (by rw[e];decide))]
def aqi (h:¬(n<0\/16<n)) (h2:¬64<ps.length) (h3:∀j,j<ps.length->(ps.getD j default)>>>n.toNat=0):j8 n ps=(n,bn (b9 n ps),0):=by
 unfold j8;rw[if_neg h,if_neg h2,if_pos (aey (l:=ps) (p:=fun p:AS=>decide (p>>>n.toNat=0)) fun j hj=>decide_eq_true (h3 j hj))]
def b3n (hi:i<ps.length) (hk:n.toNat<=k):CoP (.sl n.toNat 1 false (lf zC (stT n i (ps.getD i default) k))) (lf rC (b9 n ps) i 0):=by
 show CoP _ (zl ((b9 n ps).getD i default));rw[azv hi,av7 n i _ hk];exact CoP.sl (a91 _ _ _) (.inl rfl) (fun h=>h) fun a j ha hj=>CoP.refl _
end
end
end Go.Hx

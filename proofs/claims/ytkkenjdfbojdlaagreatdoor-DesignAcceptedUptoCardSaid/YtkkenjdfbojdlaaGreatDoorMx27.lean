/- A part of the proof: SrZ Ch5 X6 X7 X8 Ch6 X9 X10 Ch7 X11 Ch8. -/
import Derived.Shelf.SlSortCmp.NoneTotal
import Derived.Test.YtkkenjdfbojdlaaGreatDoorMx25
import Derived.Test.YtkkenjdfbojdlaaGreatDoorMx26
set_option linter.all false
set_option maxRecDepth 100000
namespace Go.Hx
section
open Go.Proofs Go.RowKit Go.Sort
section
variable {w:World}
def aqt {w':World} (h:Below w.heap.size w w'):∃ q os,w' = grow (w.drewN q) os:=by
 refine ⟨w'.drawn - w.drawn,w'.heap.extract w.heap.size w'.heap.size, ?_⟩;have hd:=h.drawn;obtain ⟨h1,h2,h3,h4,h5,_⟩:=h
 cases w with
 | mk hp tp dr os out =>
 cases w' with
 | mk hp' tp' dr' os' out' =>
 dsimp only at *;subst h1 h2 h3;unfold grow World.drewN;simp only [World.mk.injEq,true_and,and_true];refine ⟨?_,by omega⟩;apply Array.ext_getElem?;intro k;rw [Array.getElem?_append];by_cases hk:k < hp.size
 · rw [if_pos hk,h5 k hk]
 rw [if_neg hk,Array.getElem?_extract];by_cases hk2:k < hp'.size
 · rw [if_pos bsq]
   congr 1;omega
 rw [if_neg bsq,bql bsq]
variable {os:Array Obj} {α:Type} {d:Array α} {enc:α -> Value}
def ar8 [Inhabited α] {g m:Nat} {cur:Array Value} {e:TypeId} {fr:Nat × Nat} (h:w.heap[g]? = some (.cells cur e fr)):
 (sortWorld enc w g 0 m d os).heap[g]? = some (.cells (putCells enc 0 d cur) e fr):=by
 have hlt:=(boa.1 h).1;unfold sortWorld;rw [heap_grow_old _ _ (by simpa using hlt)];unfold putRow mapBlock;simp only [heap_ahead,bqy,if_true,h];rfl
def a3e [Inhabited α] {g m:Nat} {b:Nat} (hb:b < w.heap.size) (hne:b ≠ g):(sortWorld enc w g 0 m d os).heap[b]? = w.heap[b]?:=by
 unfold sortWorld;rw [heap_grow_old _ _ (by simpa using hb)];unfold putRow mapBlock;simp only [heap_ahead,bqy,if_neg (Ne.symm hne)]
def ar7 [Inhabited α] {g m:Nat}:Below 0 w (sortWorld enc w g 0 m d os) :=
 ⟨rfl,rfl,rfl,by unfold sortWorld;simp,fun k hk=>absurd hk (bod k),by unfold sortWorld grow;simp⟩
def awz [Inhabited α] {cur:Array Value} (h:d.size <= cur.size):(putCells enc 0 d cur).toList.take d.size = d.toList.map enc:=by
 apply bqw;intro k;rw [bpf,boy,bqz,bqz];by_cases hk:k < d.size
 · rw [if_pos hk]
   unfold putCells;rw [Array.getElem?_mapIdx,bpa bsq,bpa hk];simp only [bp5,bpc,bs3];rw [if_pos ⟨boe _,hk⟩,getElem!_pos d k hk]
 rw [if_neg hk,bql bsq];rfl
def aut {P:Program} {ρ:Go.Shelf.Ren} {β:Type} [Inhabited β] (L:SlLaysF.n6 P ρ) (pc:β -> PV) (h1:∀ imm x v,ay imm (pc x) v -> v.oneCell' = true) (cf:β -> β -> Int) (hO:SWO (ltOf cf)) (hT:∀ x y,(ltOf cf) x y = false -> (ltOf cf) y x = false -> x = y)
 (g:Nat) (caps:Nat -> PV) (hg:∀ args w,(callFunc g args).run P w = .ok (.enter g args) w) (hc:∀ x y,a7 P g [.one (pc x), .one (pc y)] (aa [.one (.raw (.int .i64 (cf x y)))])) (id:Nat) (e:TypeId) (l:List β) (hsz:l.length <= 8589934592) :
 dq P (ρ.f 6) [.one (.ref id l.length), .one (.p (.fn g 0 caps))] [(id, .arr true 1 e l.length (lf (fun x _=>pc x) l))] (.tup [])
  [(id, .arr true 1 e l.length (lf (fun x _=>pc x) (l.mergeSort fun x y=>!(ltOf cf) y x)))] [id]:=by
 intro w c us hM hus
 match us,hus with
 | [u,v],⟨hu,hv,_⟩ =>
  obtain ⟨cs,rfl,hcl,_⟩:=hv;have hcs:cs = []:=bq2 hcl;subst hcs;have hl1:lk [(id,a8.arr true 1 e l.length (lf (fun x _=>pc x) l))] id = some (.arr true 1 e l.length (lf (fun x _=>pc x) l)):=by simp [lk]
  have hu2:=(hu.2.2 _ _ _ _ hl1 rfl).2 rfl;subst hu2;have hob:=hM.objs id _ hl1;obtain ⟨h0,hmax,h5⟩:=hob;have hlen:(l.mergeSort fun x y=>!(ltOf cf) y x).length = l.length:=bsn _
  have hev:∀ f':Nat -> Nat -> PV,Evo c (lk [(id,a8.arr true 1 e l.length (lf (fun x _=>pc x) l))]) c (lk [(id,a8.arr true 1 e l.length f')]) id:=fun f' =>
   .inr (.inr ⟨_, .arr true 1 e l.length f',1,e,l.length,l.length,hl1,rfl,by simp [lk],rfl,bo9 _,fun _=>rfl,fun _ _ _ _ _ _ _ h=>by cases h⟩)
  rcases bqa l.length with hz | hpos
  ·
   have hl:l = []:=bq2 hz;subst hl
   have hform:∃ ad cap,c.own id = .slice ad 0 cap:=by
    rcases h5 with ⟨_,xs,h2,_⟩ | ⟨_,_,ad,cap,hv,_⟩
    · rcases h2.2 with ⟨hv,_⟩ | ⟨g,cap,cur,hv,_⟩
      · exact ⟨none,0,hv⟩
      exact ⟨_,cap,hv⟩
    exact ⟨ad,cap,hv⟩
   obtain ⟨ad,cap,hown⟩:=hform;have hms:([]:List β).mergeSort (fun x y=>!(ltOf cf) y x) = []:=by simp
   rw [hown,hms];refine (AnyF.slices_SortFunc_none { L with } ad cap (.func (.func g) #[] #[]) w).mono ?_;rintro e' w' ⟨rfl,rfl⟩
   exact ⟨_,c,rfl,⟨[],rfl,trivial⟩,hM,Below.refl _ _,fun _ _ _=>⟨rfl,rfl⟩,fun id0 ob b ho hb=>.inr ⟨id0,ob,ho,hb⟩,fun id0 hid=>by
    rw [bom.1 hid]
    exact Evo.refl _ _ _⟩
  obtain ⟨h6,xs,h2,h4⟩:c.blk id = jp (c.own id) /\ ∃ xs,w.ownsRow 0 e 1 (c.own id) l.length xs /\ ∀ i j,i < l.length -> j < 1 -> ∃ x,xs[i * 1 + j]? = some x /\ ay c.imm (lf (fun x _=>pc x) l i j) x:=by
   rcases h5 with h5 | ⟨h6 | h6,_⟩
   · exact h5
   · cases h6
   omega
  obtain ⟨hxl,hrow⟩:=h2
  rcases hrow with ⟨_,hz⟩ | ⟨b,cap,cur,hown,hbase,hheap,hnc,hcm,hcs,htake⟩
  · omega
  have hblk:c.blk id b:=by rw [h6,hown];rfl
  have hlt:b < w.heap.size:=(boa.1 hheap).1
  have hval:∀ i,i < l.length -> ∃ x,cur[i]? = some x /\ ay c.imm (pc (l.getD i default)) x:=fun i hi=>by
   obtain ⟨x,hx,hr⟩:=h4 i 0 hi bsq;rw [bsi,bqo,<- htake,bpf,if_pos bsq,bqz] at hx;exact ⟨x,hx,hr⟩
  let A:={ p:β × Value // ay c.imm (pc p.1) p.2 }
  let enc:A -> Value:=fun p=>p.1.2
  let fst:A -> β:=fun p=>p.1.1
  let cf':A -> A -> Int:=fun p q=>cf (fst p) (fst q)
  have hO':SWO (ltOf cf'):=⟨fun x=>hO.irrefl _,fun x y z=>hO.trans _ _ _,fun x y z=>hO.ntrans _ _ _⟩
  obtain ⟨d,hds,hdv⟩:∃ d:Array A,d.size = l.length /\ ∀ i,(hi:i < d.size) -> cur[i]? = some (enc d[i]) /\ fst d[i] = l.getD i default:=by
   refine ⟨Array.ofFn (n:=l.length) fun i=>⟨(l.getD i default,(hval i i.2).choose),(hval i i.2).choose_spec.2⟩,by simp,fun i hi=>?_⟩;rw [Array.getElem_ofFn];exact ⟨(hval i (by simpa using hi)).choose_spec.1,rfl⟩
  have hd0:0 < d.size:=by omega
  haveI:Inhabited A:=⟨d[0]⟩;have hen:∀ x:A,(enc x).oneCell' = true:=fun x=>h1 _ _ _ x.2
  have hH:Holds enc w b 0 d:=fun j hj=>by
   rw [bpc];refine ⟨?_,by simp [World.frozen?,hheap]⟩;rw [getElem!_pos d j hj];simp [World.cell?,hheap,(hdv j hj).1]
  have hcmp:CmpLays1 P g #[] enc cf' b 0 d.size w:=by
   intro m os dk hdk x y
   have hcimm:∀ b' ob,c.imm b' = some ob -> (sortWorld enc w b 0 m dk os).heap[b']? = some ob:=fun b' ob hb'=>by
    have hne:b' ≠ b:=fun he=>by
     have:=hM.sep id _ b hl1 hblk;rw [<- he,hb'] at this;cases this
    have hw:=hM.imm b' ob hb';rw [a3e (boa.1 hw).1 hne];exact hw
   have h:=hc (fst x) (fst y) (sortWorld enc w b 0 m dk os) c.imm [enc x,enc y] c.tab hcimm ⟨x.2,y.2,trivial⟩;refine h.mono ?_;rintro e' w' ⟨v,imm',rfl,hr,_,_,hb⟩;obtain ⟨q,os',hq⟩:=aqt hb;exact ⟨by rw [hr.1],q,os',hq⟩
  have hS:=Any.slices_SortFunc L enc hen cf' hO' g #[] b 0 cap d w hg hcmp hH hlt bsq;rw [hds] at hS;rw [hown];refine Calls.mono hS ?_;rintro e' w' ⟨rfl,d',m,os,hperm,hsorted,rfl⟩;have hsz':d'.size = l.length:=by rw [hperm.1,hds]
  obtain ⟨S,hSl,hSp⟩:∃ S:List A,S = d'.toList /\ S.map fst = l.mergeSort fun x y=>!(ltOf cf) y x:=by
   refine ⟨_,rfl, ?_⟩
   have hp:(d'.toList.map fst).Perm l:=by
    obtain ⟨_,_,hp⟩:=hperm;have e1:d'.extract 0 l.length = d':=by rw [<- hsz'];exact Array.extract_size
    have e2:d.extract 0 l.length = d:=by rw [<- hds];exact Array.extract_size
    rw [e1,e2] at hp;refine (hp.map fst).trans ?_
    have:d.toList.map fst = l:=by
     refine sg (by simp [hds]) fun j hj=>?_;have hj:j < d.size:=by simpa using hj
     rw [<- (hdv j hj).2,bo7,boy,bqz,bpa hj];rfl
    rw [this]
   refine List.Perm.eq_of_pairwise (le:=fun x y=>(!(ltOf cf) y x) = true) ?_ ?_ ?_ (hp.trans (List.mergeSort_perm _ _).symm)
   · intro a b _ _ h1 h2
     simp only [boz] at h1 h2;exact hT a b h2 h1
   · rw [List.pairwise_map,bqd]
     intro i j hi hj hij;have hi':i < d'.size:=by simpa using hi
     have hj':j < d'.size:=by simpa using hj
     have:=hsorted i j (boe _) hij bsq;rw [getElem!_pos d' j hj',getElem!_pos d' i hi'] at this;simp only [Array.getElem_toList,boz];exact this
   refine List.pairwise_mergeSort ?_ ?_ _
   · intro a b c h1 h2
     simp only [boz] at h1 h2 ⊢;exact hO.ntrans c b a h2 h1
   intro a b
   cases h:(ltOf cf) b a with
   | false=>simp
   | true=>simp [hO.asymmA h]
  obtain rfl:d' = S.toArray:=by rw [hSl]
  rw [<- hSp] at hlen ⊢;rw [bp2] at hlen
  refine ⟨_,c,rfl,⟨[],rfl,trivial⟩,⟨fun id0 ob ho=>?_,fun id0 id1 ob0 ob1 b' ho0 ho1 _ _=>(jg ho0).1.trans (jg ho1).1.symm,fun b' ob hb'=>?_,fun id0 ob b' ho hb'=>?_⟩,ar7,
   fun b' hb' hno=>⟨a3e hb' (fun he=>hno id _ hl1 (by rw [he];exact hblk)),rfl⟩,fun id0 ob b' ho hb'=>.inr ⟨id,_,hl1,by rw [<- (jg ho).1];exact hb'⟩,fun id0 hid=>by
    rw [bom.1 hid]
    exact hev _⟩
  · obtain ⟨rfl,rfl⟩:=jg ho
    refine ⟨h0,hmax, .inl ⟨h6,S.map enc,⟨by simp [hlen], .inr ⟨b,cap,putCells enc 0 S.toArray cur,hown,hbase,ar8 hheap,hnc,hcm,by simpa [putCells] using hcs, ?_⟩⟩,fun i j hi hj=>?_⟩⟩
    · have:=awz (enc:=enc) (d:=S.toArray) (cur:=cur) (by rw [bpn,hlen,hcs];omega)
      rw [bpn,hlen] at this;rw [bsi];exact this
    obtain rfl:j = 0:=by omega
    have hi':i < S.length:=by rw [hlen];exact hi
    refine ⟨enc S[i], ?_, ?_⟩
    · rw [bsi,bqo,boy,bo6 hi']
      rfl
    show ay c.imm (pc ((S.map fst).getD i default)) _;rw [bo7,boy,bo6 hi'];exact S[i].2
  · have hne:b' ≠ b:=fun he=>by
     have:=hM.sep id _ b hl1 hblk;rw [<- he,hb'] at this;cases this
    have hw:=hM.imm b' ob hb';rw [a3e (boa.1 hw).1 hne];exact hw
  have:=(jg ho).1;subst this;exact hM.sep id0 _ b' hl1 hb'
 | [],h=>exact h.elim
 | [_],⟨_,h⟩=>exact h.elim
 | _ :: _ :: _ :: _,⟨_,_,h⟩=>exact h.elim
end
end
section
open Go.Proofs Go.RowKit Go.Sort
structure CpZ (l:List Rw) (k p q:Nat) (m:List Rw):Prop where
 len:m.length = l.length
 kq:k < q
 pq:p < q
 ql:q <= l.length
 pre:m.take p = jo (l.take q)
 high:∀ j,q - 1 <= j -> m.getD j default = l.getD j default
section
variable {k:Nat} {l:List Rw}
theorem CpZ.start (h1:1 <= k) (hk:k < l.length) (h:∀ j,0 < j -> j < k -> ¬ l.getD j default = l.getD (j - 1) default) (hd:l.getD k default = l.getD (k - 1) default):CpZ l k k (k + 1) l :=
 ⟨rfl,by omega,by omega,by omega,by rw [rg bsq hk,if_pos hd.symm,bpd,x6 bsq h],fun _ _=>rfl⟩
theorem CpZ.skip {p q:Nat} {m:List Rw} (h:CpZ l k p q m) (hq:q < l.length) (he:m.getD q default = m.getD (q - 1) default):CpZ l k p (q + 1) m:=by
 have hk:=h.kq;refine ⟨h.len,by omega,by have:=h.pq;omega,hq, ?_,fun j hj=>h.high j bsq⟩;rw [h.high q bsq,h.high (q - 1) bsq] at he;rw [rg bsq hq,if_pos he.symm,bpd,h.pre]
theorem CpZ.keep {p q:Nat} {m:List Rw} (h:CpZ l k p q m) (hq:q < l.length) (he:¬ m.getD q default = m.getD (q - 1) default):CpZ l k (p + 1) (q + 1) (m.set p (m.getD q default)):=by
 have hk:=h.kq;have hp:=h.pq;have hl:=h.len;refine ⟨by simp [hl],by omega,by omega,hq, ?_,fun j hj=>by rw [getD_set_ne' bsq];exact h.high j bsq⟩;have e:=h.high q bsq;rw [e,h.high (q - 1) bsq] at he;rw [rg bsq hq,if_neg (fun e=>he e.symm),<- h.pre,aw (by simp [hl];omega),qp bsq,e];congr 1;rw [List.take_set,br1 bt3]
def aoo (hk:l.length <= k) (h:∀ j,0 < j -> j < k -> ¬ l.getD j default = l.getD (j - 1) default):CoP (.sl l.length 1 false (lf rC l)) (rl (jo l)):=by
 have:=x6 (bo9 l.length) fun j h1 h2=>h j h1 bsq;rw [bog] at this;rw [this];exact CoP.refl _
variable {a:Nat}
def b3f {m:List Rw} {p q n d:Nat} {cl:Bool} {z:List Value} (hC:CpZ l k p q m) (hq:¬ q < l.length) (ha:p <= a):CoP (.sl (ek (az n (some (p:Int))) none) 1 cl (uj (qv (lf rC m) a d z) none)) (rl (jo l)):=by
 have e:=hC.pre;have h1:=hC.ql;have h2:=hC.len;have h3:=hC.pq;rw [show q = l.length by omega,bog] at e;have el:(jo l).length = p:=by rw [<- e];simp;omega
 exact ah7 (by rw [el];rfl) rfl bsq (by rw [el,e])
def a6d:∀ {l:List Rw} {p:Option Rw},l.Pairwise (fun a b=>ltZ b a = false) -> (∀ x,p = some x -> ∀ y ∈ l,ltZ y x = false) -> (mc p l).Pairwise (fun a b=>ltZ a b = true) /\ ∀ x,p = some x -> ∀ y ∈ mc p l,ltZ x y = true
 | [],p,_,_=>⟨by simp [mc],fun x _ y hy=>by simp [mc] at hy⟩
 | z :: l,p,h,hp=>by
  obtain ⟨h1,h2⟩:=bpi.1 h;simp only [mc];split
  · rename_i e
    subst e;exact a6d h2 fun x hx y hy=>hp x hx y (bpg _ hy)
  rename_i hne
  obtain ⟨q1,q2⟩:=a6d (p:=some z) h2 fun x hx y hy=>by
   simp only [bo5] at hx;subst hx;exact h1 y hy
  refine ⟨bpi.2 ⟨fun y hy=>q2 z rfl y hy,q1⟩,fun x hx y hy=>?_⟩
  have hxz:ltZ x z = true:=by
   have h3:=hp x hx z bp9
   rcases a0n (a:=x) (b:=z) (fun e=>hne (by rw [hx,e])) with h4 | h4
   · exact h4
   rw [h3] at h4;cases h4
  rcases bok.1 hy with rfl | hy
  · exact hxz
  exact lw hxz (q2 z rfl y hy)
variable {a' b':Nat}
def a98 {b:Nat} (h:l.getD a' default = l.getD b' default) (ha:a' = a) (hb:b' = b):l.getD a default = l.getD b default:=by subst ha hb;exact h
def aao {b:Nat} (h:¬ l.getD a' default = l.getD b' default) (ha:a' = a) (hb:b' = b):¬ l.getD a default = l.getD b default:=by subst ha hb;exact h
def ahk {b:Nat} (h:decide (l.getD a' default = l.getD b' default) = true) (ha:a' = a) (hb:b' = b):l.getD a default = l.getD b default:=a98 (of_decide_eq_true h) ha hb
def ahq {b:Nat} (h:decide (l.getD a' default = l.getD b' default) = false) (ha:a' = a) (hb:b' = b):¬ l.getD a default = l.getD b default:=aao (of_decide_eq_false h) ha hb
def yl {a b:Rw}:ltOf te a b = ltZ a b:=by
 rw [bqf];show decide (te a b < 0) = true <-> _;rw [decide_eq_true_iff];exact a6h
def b0o {x y z:Rw} (h:ltZ x y = false) (k:ltZ y z = false):ltZ x z = false:=by
 rw [bol];intro e;by_cases hyz:y = z
 · subst hyz;rw [h] at e;cases e
 rcases a0n hyz with h2 | h2
 · rw [k] at h2;cases h2
 rw [lw e h2] at h;cases h
def b2q:SWO (ltOf te) where
 irrefl x:=by rw [yl];exact xy x
 trans x y z h k:=by rw [yl] at *;exact lw h k
 ntrans x y z h k:=by rw [yl] at *;exact b0o h k
def srZ (l:List Rw):List Rw:=l.mergeSort fun x y=>!ltZ y x
def ban {x:Rw}:x ∈ srZ l <-> x ∈ l:=by unfold srZ;exact List.mem_mergeSort
def au4 (l:List Rw):(srZ l).length = l.length:=bsn _
def b5w (l:List Rw):jo (srZ l) = b5 l:=by
 refine aoz (a6d ?_ fun x hx=>by cases hx).1 fun z=>by rw [ani,ban]
 have h:=List.pairwise_mergeSort (le:=fun x y:Rw=>!ltZ y x) (fun a b c h k=>by
  simp only [boz] at *
  exact b0o k h) (fun a b=>by
  simp only [bph,boz];by_cases e:ltZ b a = true
  · right
    rw [bol];intro e2;have:=lw e e2;rw [xy] at this;cases this
  left
  exact bol.2 e) l
 refine h.imp fun {a b} hab=>?_;simpa using hab
def bi6 {r:Rw} (h:(l.any fun x=>decide (x = r)) = true):r ∈ l:=by
 rw [bp4] at h;obtain ⟨x,hx,e⟩:=h;rwa [<- of_decide_eq_true e]
def as5 {r:Rw} (h:(l.any fun x=>decide (x = r)) = false):r ∉ l:=fun e=>by
 rw [bpw] at h;exact h r e (decide_eq_true rfl)
def b81:Go.Hx.goodFn btb 219:=⟨Tryz.f219,Tryz.func219,by kernel_rfl,by kernel_rfl⟩
def be5 (id:Nat) (caps:Nat -> PV) (l:List Rw) (hsz:l.length <= 8589934592):dq btb 219 [.one (.ref id l.length), .one (.p (.fn 220 0 caps))] [(id, .arr true 1 84 l.length (lf rC l))] (.tup [])
 [(id, .arr true 1 84 l.length (lf rC (srZ l)))] [id]:=by
 have h:=aut Tryz.laysSortZ (fun r:Rw=>zl r) (fun imm x v hr=>by obtain ⟨ad,cap,h1,_⟩:=hr;rw [h1];rfl) te b2q (fun x y h k=>by
  rw [yl] at h k;apply Classical.byContradiction;intro hne
  rcases a0n hne with h2 | h2
  · rw [h] at h2;cases h2
  rw [k] at h2;cases h2) 220 caps (enters_of Tryz.func220 (by kernel_rfl) rfl) (fun x y=>b79 x y) id 84 l hsz
 have e:(fun x y:Rw=>!(ltOf te) y x) = fun x y=>!ltZ y x:=by
  funext x y;rw [yl]
 rw [e] at h;exact h
end
end
section
open Go.Proofs
def bg4 (l:List Rw):dq btb 221 [.one (.ref 900 l.length), .one (.p (.fn 154 0 fun _=>.any))] [(900, .arr true 1 84 l.length (lf rC l))] (.v (.one (.p (rl (jo l))))) [] []:=by
 refine hfx (nt:=66) Tryz.func221 ?_;refine cw ?_;refine adr 900 rfl fun hlen=>?_;refine d5 ?_;refine hcd (fun h0=>?_) (fun h0=>?_)
 · refine w_5 ?_;refine b6 4 rfl rfl rfl ?_;refine hrr ?_;exact ⟨_,_,rfl,bss,aoo (k:=l.length) (bo9 _) (fun j h1 h2=>by omega),trivial⟩
 refine w_7 ?_;refine ah (ι:=Nat) (ka 0 (ka 1 kn)) (kb 900 km) (fun k=>⟨[(5,some (vI k))],[]⟩) (fun k=>1 <= k /\ k <= l.length /\ ∀ j,0 < j -> j < k -> ¬ l.getD j default = l.getD (j - 1) default) (fun k=>l.length - k) (1) (⟨bo9 _,by omega,fun j h1 h2=>by omega⟩) kk ?_;rintro k ⟨hk1,hk,hI⟩;refine w_8 ?_;refine hcd (fun h1=>?_) (fun h1=>?_)
 ·
  refine o8 ?_;refine qcx ahy (b5s _ _) ?_;refine w_2 ?_;refine hcb (fun h2=>?_) (fun h2=>?_)
  ·
   refine kw ?_;refine ah (ι:=Nat × Nat × List Rw) (ka 0 (ka 1 (ka 6 kn))) km (fun x=>⟨[(5,some (vI x.1)),(7,some (vI ((x.2.1:Int) - k)))],[(900,some (.arr true 1 84 l.length (lf rC x.2.2)))]⟩) (fun x=>CpZ l k x.1 x.2.1 x.2.2) (fun x=>l.length - x.2.1) ((k,k + 1,l)) (CpZ.start hk1 bsq hI (by first | exact a98 bsr rfl bsq | exact ahk bsr rfl bsq)) ⟨⟨zy,⟨_,rfl,(coi bsv)⟩,trivial⟩,uu⟩ ?_;rintro ⟨p,q,m⟩ hC;have hC0:=hC;obtain ⟨hml,hkq,hpq,hql,_,_⟩:=hC0;dsimp only at hC hml hkq hpq hql;refine w_8 ?_;refine hcd (fun h3=>?_) (fun h3=>?_)
   ·
    simp only [ek,az,bop] at h3;refine o8 ?_;refine qcx ahy (b5s _ _) ?_;refine w_3 ?_;refine hcv (fun h4=>?_) (fun h4=>?_)
    ·
     refine ad6 ?_
     first | (refine lpz (p + 1, q + 1, m.set p (m.getD q default)) ⟨⟨⟨_, rfl, (coi bsx)⟩, ⟨_, rfl, (coi bsx)⟩, tt⟩, ⟨⟨_, rfl, (vo id hml.symm bsq (by dsimp only; omega) bsy)⟩, trivial⟩⟩ ?_; exact hC.keep bsq (by first | exact aao bsr bsy bsy | exact ahq bsr bsy bsy))
           | (refine lpz (p,q + 1,m) ⟨⟨⟨_,rfl,(coi bsv)⟩,⟨_,rfl,(coi bsv)⟩,tt⟩,uu⟩ ?_;exact hC.skip bsq (by first | exact a98 bsr bt2 bt2 | exact ahk bsr bt2 bt2))
    refine w_6 ?_
    first | (refine lpz (p + 1, q + 1, m.set p (m.getD q default)) ⟨⟨⟨_, rfl, (coi bsx)⟩, ⟨_, rfl, (coi bsx)⟩, tt⟩, ⟨⟨_, rfl, (vo id hml.symm bsq (by dsimp only; omega) bsy)⟩, trivial⟩⟩ ?_; exact hC.keep bsq (by first | exact aao bsr bsy bsy | exact ahq bsr bsy bsy))
          | (refine lpz (p,q + 1,m) ⟨⟨⟨_,rfl,(coi bsv)⟩,⟨_,rfl,(coi bsv)⟩,tt⟩,uu⟩ ?_;exact hC.skip bsq (by first | exact a98 bsr bt2 bt2 | exact ahk bsr bt2 bt2))
   simp only [ek,az,bop] at h3;refine w_6 ?_;refine r9 0 true ?_;refine w_5 ?_;refine b5l rfl rfl rfl rfl rfl ?_;refine w_2 ?_;refine hrr ?_;exact ⟨_,_,rfl,bss,b3f hC bsq (by simp [az]),trivial⟩
  refine w_6 ?_;refine lpz (k + 1) kk ?_;refine ⟨by omega,by show k + 1 <= _;omega,fun j h1 h2=>?_⟩
  rcases bqp (br4 h2) with h | h
  · exact hI j h1 h
  subst h
  first | exact aao bsr rfl bsq | exact ahq bsr rfl bsq
 refine w_6 ?_;refine b6 4 rfl rfl rfl ?_;refine hrr ?_;exact ⟨_,_,rfl,bss,aoo (k:=k) bsq hI,trivial⟩
end
section
open Go.Proofs
def afu:goodFn btb 174:=wgx Tryz.func174
def afv (n:Int) (l:List Rw) (hl:l.length <= 8589934592):dq btb 174 [.agg [.p (.raw (.int .i64 n)), .ref 900 l.length]] [(900, .arr true 1 84 l.length (lf rC l))] (.v (.agg [.p (.raw (.int .i64 n)), .p (rl (b5 l))])) [] []:=by
 refine hfx (nt:=11) Tryz.func174 ?_;refine sx7 ?_;refine m9 0 ?_;refine m9 1 ?_;refine w_5 ?_;refine fc9 b81 (be5 900 _ l hl) uu ?_;refine w_5 ?_;refine ik rfl rfl rfl rfl rfl rfl (wgx Tryz.func221) (bg4 (srZ l)) (⟨congrArg (HV.ref 900) (au4 l).symm,CoP.refl _,trivial⟩) ⟨⟨_,rfl,fw rfl (au4 l).symm⟩,trivial⟩ rfl rfl ?_;refine w_8 ?_;refine hrr ?_;exact ⟨_,_,rfl,bss,CoR.of_eq (by rw [<- b5w];rfl),trivial⟩
end
section
open Go.Proofs
def ahf:goodFn btb 177:=wgx Tryz.func177
def aza (n:Int) (l:List Rw) (hl:l.length <= 5864062014805):dq btb 177 [.one (.p (.raw (.int .i64 n))), .one (.p (rl l))] [] (.v (.agg [.p (.raw (.int .i64 n)), .ref 900 (b5 l).length])) [(900, .arr true 1 84 (b5 l).length (lf rC (b5 l)))] []:=by
 refine hfx (nt:=74) Tryz.func177 ?_;refine cw ?_;refine cq 1 rfl fun hn=>?_;refine gy ?_;refine m9 0 ?_;refine w_5 ?_;refine m9 1 ?_;refine w_2 ?_;refine ui 1 1 900 true 1 84 (lf rC (b5 (l.take 0))) bsu rfl rfl (CoP.sl rfl (.inr rfl) (fun h=>h) (fun i j hi _=>absurd hi (bod i))) (.inr rfl) rfl rfl ?_;refine w_6 ?_;refine bp (ka 1 (ka 4 (ka 5 kn))) (kb 0 km) (fun i=>⟨[(6,some (vI i))],[(1,some (.box [.p (.raw (.int .i64 n)), .ref 900 (b5 (l.take i)).length])),(900,some (.arr true 1 84 (b5 (l.take i)).length (lf rC (b5 (l.take i)))))]⟩) l.length kk ?_;rintro i hi;have hlen:=a21 (l.take i);rw [boi] at hlen;refine w_8 ?_;refine hcd (fun h0=>?_) (fun h0=>?_)
 ·
  refine dl ?_;refine qcx (wgx Tryz.func69) (axz n (b5 (l.take i)) (l.getD i default)) ?_;refine w_2 ?_;refine hcb (fun h1=>?_) (fun h1=>?_)
  ·
   have hin:=bi6 h1;refine w_6 ?_
   first | (refine lpz (i + 1) ⟨tt, ⟨⟨_, rfl, ⟨CoH.refl _, congrArg (HV.ref 900) (by rw [fz bsq, xh (jk _) hin]), trivial⟩⟩, ⟨_, rfl, (bv (by rw [fz bsq, xh (jk _) hin]))⟩, uu⟩⟩ ?_; show i + 1 <= _; omega)
         | (refine lpz (i + 1) ⟨tt,⟨⟨_,rfl,⟨CoH.refl _,congrArg (HV.ref 900) (by rw [fz bsq,<- hfin,nu hk]),trivial⟩⟩,⟨_,rfl,(fw (by rw [fz bsq,<- hfin]) (by rw [fz bsq,<- hfin,nu hk]))⟩,uu⟩⟩ ?_;show i + 1 <= _;omega)
  have hin:=as5 h1;refine w_9 ?_;refine m9 2 ?_;refine r9 3 true ?_;refine kw ?_;refine ah (ι:=Nat) (ka 1 (ka 4 (ka 5 (ka 6 kn)))) (kb 1 (kb 0 km)) (fun k=>⟨[(7,some (vI k))],[(900,some (.arr true 1 84 ((b5 (l.take i)).length + 1) (lf rC (mo (b5 (l.take i)) k (l.getD i default)))))]⟩) (fun k=>k <= (b5 (l.take i)).length /\ ∀ j,k <= j -> j < (b5 (l.take i)).length -> ltZ (l.getD i default) ((b5 (l.take i)).getD j default) = true) (fun k=>k) ((b5 (l.take i)).length) (⟨bo9 _,fun j h1 h2=>by omega⟩) ⟨tt,⟨⟨_,rfl,(by rw [b3x];exact atm (CoP.refl _))⟩,trivial⟩⟩ ?_;rintro k ⟨hk,hK⟩;refine w_6 ?_;refine ai rfl rfl (fun r2=>?_) (fun r2=>?_)
  ·
   have h2:=tz1 r2;(iterate 11 refine qy ?_ (hg:=(gtt r2)));refine qcx (wgx Tryz.func227) (b6z _ _) ?_ (hg:=(gtt r2));refine w_3 ?_;refine am _ rfl (fun r3=>?_) (fun r3=>?_)
   ·
    have h3:=bq r2 r3;have hb:=b03 bsq hk h3 bsq bsq;refine w_3 ?_;refine agp (E:=fy) fb zg [0,1,2,7,8,9,10,11,12,13,14,15,16,17,18,19,3,4,5,6,20,21] ?_;refine b5d ?_;refine ⟨k - 1, ?_, ?_, ?_⟩
    · refine ⟨by omega,fun j h1 h2=>?_⟩
      by_cases hj:j = k - 1
      · rw [hj];exact hb
      exact hK j bsq h2
    · show k - 1 < k
      omega
    exact ⟨tt,⟨⟨_,rfl,(ax0 bsq hk bsq bsq rfl)⟩,uu⟩⟩
   have h3:=bq r2 r3;have hb:=b03 bsq hk h3 bsq bsq;have hfin:=aiw (jk _) hin hk hK (.inr (by rw [hb];decide));refine w_6 ?_
   first | (refine lpz (i + 1) ⟨tt, ⟨⟨_, rfl, ⟨CoH.refl _, congrArg (HV.ref 900) (by rw [fz bsq, xh (jk _) hin]), trivial⟩⟩, ⟨_, rfl, (bv (by rw [fz bsq, xh (jk _) hin]))⟩, uu⟩⟩ ?_; show i + 1 <= _; omega)
         | (refine lpz (i + 1) ⟨tt,⟨⟨_,rfl,⟨CoH.refl _,congrArg (HV.ref 900) (by rw [fz bsq,<- hfin,nu hk]),trivial⟩⟩,⟨_,rfl,(fw (by rw [fz bsq,<- hfin]) (by rw [fz bsq,<- hfin,nu hk]))⟩,uu⟩⟩ ?_;show i + 1 <= _;omega)
  have h2:=tz2 r2;have hfin:=aiw (jk _) hin hk hK (.inl bsq);(iterate 12 refine k9 (gft r2) ?_);refine d5 ?_
  first | (refine lpz (i + 1) ⟨tt, ⟨⟨_, rfl, ⟨CoH.refl _, congrArg (HV.ref 900) (by rw [fz bsq, xh (jk _) hin]), trivial⟩⟩, ⟨_, rfl, (bv (by rw [fz bsq, xh (jk _) hin]))⟩, uu⟩⟩ ?_; show i + 1 <= _; omega)
        | (refine lpz (i + 1) ⟨tt,⟨⟨_,rfl,⟨CoH.refl _,congrArg (HV.ref 900) (by rw [fz bsq,<- hfin,nu hk]),trivial⟩⟩,⟨_,rfl,(fw (by rw [fz bsq,<- hfin]) (by rw [fz bsq,<- hfin,nu hk]))⟩,uu⟩⟩ ?_;show i + 1 <= _;omega)
 obtain rfl:i = l.length:=by omega
 refine w_6 ?_;refine hrr ?_;exact ⟨_,_,rfl,bss,CoR.of_eq (by rw [bog];rfl),⟨⟨_,rfl,CoO.of_eq (by rw [bog])⟩,trivial⟩⟩
def abz (n:Int) (l:List Rw) (hl:l.length <= 5864062014805):a7 btb 177 [pI n,pR l] (aa [pT n (b5 l)]) :=
 dq.pure (args:=[pI n,pR l]) (l:=[.agg [.p (.raw (.int .i64 n)), .ref 900 (b5 l).length]]) (aza n l hl) rfl ⟨⟨trivial,rfl,trivial⟩,trivial⟩
end
section
abbrev nM (l:List Rw):Nat -> Nat:=fun i=>(l.getD i default).length
abbrev cn (l:List Rw):Nat -> Nat -> Int:=fun i r=>(l.getD i default).getD r default
abbrev mg (M:Nat -> Nat -> Int):Nat -> Nat -> Nat -> PV:=fun i r _=>.raw (.int .i64 (M i r))
section
variable {e et:TypeId} {i k:Nat}
def ajr {l:List Rw} {f:Nat -> Nat -> PV} (hk:k = (l.getD i default).length) (hf:f = lf zC (l.getD i default)):
 CoO (.nest e et 1 (i + 1) (ua (nM l) i k) (ww (mg (cn l)) i f) none) (.nest e et 1 (i + 1) (nM l) (mg (cn l)) none):=by
 subst hk hf
 have hm:∀ j,ua (nM l) i (l.getD i default).length j = nM l j:=fun j=>by
  by_cases h:j = i
  · subst h;rw [ag7]
  rw [a69 h]
 refine ⟨rfl,rfl,rfl,rfl,rfl,fun j _=>(hm j).symm,fun j r c hj hr hc=>CoP.of_eq ?_⟩;by_cases h:j = i
 · subst h
   rw [at5];rfl
 rw [am0 h]
abbrev hiI (x y:Int):Int:=if x < y then y else x
abbrev loI (x y:Int):Int:=if y < x then y else x
def nk (M:Nat -> Nat -> Int) (hi lo:Int) (i k:Nat):Nat -> Nat -> Int:=fun i' r=>if (i' < i \/ (i' = i /\ r < k)) /\ M i' r = hi then lo else M i' r
def eqM (M:Nat -> Nat -> Int) (a b j:Nat):Nat -> Nat -> Int:=fun i r=>if M i r = hiI (M a j) (M b j) then loI (M a j) (M b j) else M i r
def eqMs (M:Nat -> Nat -> Int) (a b:Nat) (js:List Nat):Nat -> Nat -> Int:=js.foldl (fun M j=>eqM M a b j) M
def ez (l:List Rw) (M:Nat -> Nat -> Int):List Rw:=(List.range l.length).map fun i=>(List.range (l.getD i default).length).map (M i)
def nb (l:List Rw) (M:Nat -> Nat -> Int):(ez l M).length = l.length:=by unfold ez;simp
variable {M:Nat -> Nat -> Int}
def ajg {l:List Rw} (h:i < l.length):(ez l M).getD i default = (List.range (l.getD i default).length).map (M i):=by
 unfold ez;rw [bo7,boy,bpu h];rfl
variable {hi lo:Int}
def ajc:nk M hi lo 0 0 = M:=by
 funext i r;unfold nk;rw [if_neg bsq]
def aeq (h:nk M hi lo i k i k = hi):nk M hi lo i (k + 1) = fun i' r=>if i' = i /\ r = k then lo else nk M hi lo i k i' r:=by
 have h0:M i k = hi:=by
  unfold nk at h;rwa [if_neg bsq] at h
 funext i' r;unfold nk;by_cases e:i' = i /\ r = k
 · rw [if_pos e,if_pos ⟨.inr ⟨e.1,by omega⟩,by rw [e.1,e.2];exact h0⟩]
 rw [if_neg e];by_cases e2:(i' < i \/ (i' = i /\ r < k)) /\ M i' r = hi
 · rw [if_pos e2,if_pos ⟨e2.1.imp_right fun x=>⟨x.1,by omega⟩,e2.2⟩]
 rw [if_neg e2,if_neg fun e3=>e2 ⟨by omega,e3.2⟩]
def af5 (h:¬ nk M hi lo i k i k = hi):nk M hi lo i (k + 1) = nk M hi lo i k:=by
 have h0:¬ M i k = hi:=by
  unfold nk at h;rwa [if_neg bsq] at h
 funext i' r;unfold nk;by_cases e:i' = i /\ r = k
 · rw [if_neg (fun x=>h0 (by rw [<- e.1,<- e.2];exact x.2)),if_neg (fun x=>h0 (by rw [<- e.1,<- e.2];exact x.2))]
 by_cases e2:(i' < i \/ (i' = i /\ r < k)) /\ M i' r = hi
 · rw [if_pos e2,if_pos ⟨e2.1.imp_right fun x=>⟨x.1,by omega⟩,e2.2⟩]
 rw [if_neg e2,if_neg fun e3=>e2 ⟨by omega,e3.2⟩]
variable {M':Nat -> Nat -> Int} {m:Nat -> Nat} {n:Nat}
def a9w {i0 k0:Nat} {v:Int} (hM:M' = fun i' r=>if i' = i /\ r = k then v else M i' r) (hi:i0 = i) (hk:k0 = k):
 CoO (.nest e et 1 n m (sm (mg M) i0 k0 0 [.raw (.int .i64 v)]) none) (.nest e et 1 n m (mg M') none):=by
 subst hi hk hM;refine ⟨rfl,rfl,rfl,rfl,rfl,fun j _=>rfl,fun j r c hj hr hc=>CoP.of_eq ?_⟩;obtain rfl:c = 0:=by omega
 unfold sm;by_cases h:j = i0
 · rw [if_pos h]
   unfold fj;by_cases h2:r = k0
   · rw [if_pos ⟨h2,by omega,by simp⟩]
     show _ = PV.raw (.int .i64 (if j = i0 /\ r = k0 then v else M j r));rw [if_pos ⟨h,h2⟩];rfl
   rw [if_neg (fun x=>h2 x.1)];show _ = PV.raw (.int .i64 (if j = i0 /\ r = k0 then v else M j r));rw [if_neg (fun x=>h2 x.2)]
 rw [if_neg h];show _ = PV.raw (.int .i64 (if j = i0 /\ r = k0 then v else M j r));rw [if_neg (fun x=>h x.1)]
def uo (h:∀ i r,i < n -> r < m i -> M' i r = M i r):CoO (.nest e et 1 n m (mg M) none) (.nest e et 1 n m (mg M') none) :=
 ⟨rfl,rfl,rfl,rfl,rfl,fun _ _=>rfl,fun j r c hj hr hc=>CoP.of_eq (by show PV.raw (.int .i64 (M j r)) = PV.raw (.int .i64 (M' j r));rw [h j r hj hr])⟩
def aly (hk:¬ k < m i):∀ i' r,i' < n -> r < m i' -> nk M hi lo (i + 1) 0 i' r = nk M hi lo i k i' r:=fun i' r h1 h2=>by
 unfold nk;by_cases e2:(i' < i \/ (i' = i /\ r < k)) /\ M i' r = hi
 · rw [if_pos e2,if_pos ⟨by omega,e2.2⟩]
 rw [if_neg e2,if_neg fun e3=>e2 ⟨by
  rcases bro i' i with h | h
  · exact .inl h
  right;obtain rfl:i' = i:=by omega
  exact ⟨rfl,by omega⟩,e3.2⟩]
def a1b {a b j:Nat} (hn:¬ i < n):∀ i' r,i' < n -> r < m i' -> eqM M a b j i' r = nk M (hiI (M a j) (M b j)) (loI (M a j) (M b j)) i 0 i' r:=fun i' r h1 h2=>by
 unfold nk eqM;by_cases e2:M i' r = hiI (M a j) (M b j)
 · rw [if_pos e2,if_pos ⟨by omega,e2⟩]
 rw [if_neg e2,if_neg fun e3=>e2 e3.2]
def xf {a b j:Nat} (h:M a j = M b j):eqM M a b j = M:=by
 funext i r;unfold eqM;have e1:hiI (M a j) (M b j) = M b j:=by unfold hiI;rw [if_neg bsq,h]
 have e2:loI (M a j) (M b j) = M b j:=by unfold loI;rw [if_neg bsq,h]
 rw [e1,e2];by_cases e:M i r = M b j
 · rw [if_pos e,e]
 rw [if_neg e]
def a2b {a b:Nat} {js:List Nat} (h:i < js.length):eqMs M a b (js.take (i + 1)) = eqM (eqMs M a b (js.take i)) a b (js.getD i default):=by
 unfold eqMs;rw [aw h,bpk];rfl
def b0a (s:AS):(al s).length <= 32:=bon (bqb _ _) bst
def b48 {l:List Nat} {j:Nat} (h:j < l.length):l.getD j default ∈ l:=by
 rw [bo7,bo6 h];exact bp3 h
def at1 {l:List Rw} (hn:n = l.length):CoO (.arr true 1 e n (a1v 1 (nM l) (mg M))) (.arr true 1 e (ez l M).length (lf rC (ez l M))):=by
 subst hn;refine ⟨fun h=>h,rfl,rfl,nb l M,fun i j hi hj=>?_⟩;show CoP (.sl (l.getD i default).length 1 false (mg M i)) (zl ((ez l M).getD i default));rw [ajg hi];refine CoP.sl bst (.inl rfl) (fun h=>h) fun r c hr hc=>CoP.of_eq ?_;show PV.raw (.int .i64 (M i r)) = PV.raw (.int .i64 (((List.range (l.getD i default).length).map (M i)).getD r default));rw [bo7,boy,bpu hr];rfl
end
end
section
open Go.Proofs
def b5n (n:Int) (l:List Rw) (hl:∀ i,i < l.length -> (l.getD i default).length <= 17592186044416) (hl2:l.length <= 5864062014805):dq btb 200 [.agg [.p (.raw (.int .i64 n)), .p (rl l)]] [] (.v (.agg [.p (.raw (.int .i64 n)), .ref 901 l.length])) [(901, .nest 84 3 1 l.length (nM l) (mg (cn l)) none)] []:=by
 refine hfx (nt:=25) Tryz.func200 ?_;refine sx7 ?_;refine m9 0 ?_;refine m9 1 ?_;refine w_6 ?_;refine m9 2 ?_;refine w_2 ?_;refine afy 2 1 901 84 3 1 (nM l) (mg (cn l)) bsu rfl rfl rfl rfl ?_;refine w_9 ?_;refine bp (ka 2 (ka 3 (ka 10 (ka 11 kn)))) (kb 1 km) (fun i=>⟨[(12,some (vI i))],[(2,some (.box [.p (.raw (.int .i64 n)), .ref 901 i])),(901,some (.nest 84 3 1 i (nM l) (mg (cn l)) none))]⟩) l.length kk ?_;rintro i hi;refine w_5 ?_;refine hcd (fun h0=>?_) (fun h0=>?_)
 · refine kw ?_;refine fc9 aha ((ag2 (l.getD i default).length false (lf zC (l.getD i default)) (hl i bsq)).swap 0 907) trivial ?_;refine m9 3 ?_;refine r9 4 true ?_;refine w_4 ?_;refine ai7 901 907 rfl rfl ?_;refine w_4 ?_;exact lpx (i + 1) ⟨tt,⟨u9,⟨_,rfl,(ajr rfl rfl)⟩,uu⟩⟩
 obtain rfl:i = l.length:=by omega
 refine w_6 ?_;refine hrr ?_;exact ⟨_,_,rfl,bss,CoR.refl _,uu⟩
end
section
open Go.Proofs
def bam (n:Int) (l:List Rw) (s:AS) (a b:Nat) (hl:∀ i,i < l.length -> (l.getD i default).length <= 17592186044416) (hl2:l.length <= 8589934592) (ha:a < l.length) (hb:b < l.length) (hs:∀ j,j ∈ al s -> ∀ i,i < l.length -> j < (l.getD i default).length):a7 btb 224 [pT n l,pA s,pI (a:Int),pI (b:Int)] (aa [pT n (b5 (ez l (eqMs (cn l) a b (al s))))]):=by
 refine hpx (nt:=76) Tryz.func224 ?_;refine sx7 ?_;refine m9 0 ?_;refine m9 1 ?_;refine w_4 ?_;refine fc9 ai3 (b5n n l hl bsq) trivial ?_;refine m9 2 ?_;refine w_6 ?_;refine qcx a43 (ag0 s) ?_;refine w_4 ?_;refine bp (ka 2 (ka 3 (ka 8 (ka 9 (ka 20 (ka 21 kn)))))) (kb 1 (kb 2 km)) (fun q=>⟨[(22,some (vI q))],[(901,some (.nest 84 3 1 l.length (fun i=>(l.getD i default).length) (mg (eqMs (cn l) a b ((al s).take q))) none))]⟩) ((al s).length) kk ?_;rintro q hq;have hm32:=b0a s;refine w_5 ?_;refine hcd (fun h0=>?_) (fun h0=>?_)
 ·
  have hjm:((al s).getD q default) ∈ al s:=b48 bsq;have hja:=hs _ hjm a ha;have hjb:=hs _ hjm b hb;refine a3c ?_;refine rq rfl rfl rfl rfl rfl ?_ (hp:=(by (try simp only [bop,nM]);(repeat' apply And.intro) <;> first | trivial | rfl | omega | exact bo8 rfl));refine w_7 ?_;refine rq rfl rfl rfl rfl rfl ?_ (hp:=(by (try simp only [bop,nM]);(repeat' apply And.intro) <;> first | trivial | rfl | omega | exact bo8 rfl));refine i6 ?_;refine hcd (fun h1=>?_) (fun h1=>?_)
  ·
   refine w_5 ?_
   first | (refine lpz (q + 1) ⟨tt, ⟨⟨_, rfl, (by rw [a2b bsq, xf bsr]; exact CoO.refl _)⟩, uu⟩⟩ ?_; show q + 1 <= _; omega)
         | (refine lpz (q + 1) ⟨tt,⟨⟨_,rfl,(by rw [a2b bsq];exact uo (a1b bsq))⟩,uu⟩⟩ ?_;show q + 1 <= _;omega)
  refine w_9 ?_;refine bp (ka 2 (ka 3 (ka 8 (ka 9 (ka 12 (ka 13 (ka 20 (ka 21 (ka 22 (ka 46 (ka 47 kn))))))))))) (kb 1 (kb 2 km)) (fun i=>⟨[(48,some (vI i))],[(901,some (.nest 84 3 1 l.length (fun i=>(l.getD i default).length) (mg (nk (eqMs (cn l) a b ((al s).take q)) (hiI ((eqMs (cn l) a b ((al s).take q)) a ((al s).getD q default)) ((eqMs (cn l) a b ((al s).take q)) b ((al s).getD q default))) (loI ((eqMs (cn l) a b ((al s).take q)) a ((al s).getD q default)) ((eqMs (cn l) a b ((al s).take q)) b ((al s).getD q default))) i 0)) none))]⟩) l.length ⟨tt,⟨⟨_,rfl,(by rw [ajc];exact CoO.refl _)⟩,trivial⟩⟩ ?_;rintro i hi;refine w_5 ?_;refine hcd (fun h2=>?_) (fun h2=>?_)
  ·
   have hli:=hl i bsq;refine uk ?_;refine bp (ka 2 (ka 3 (ka 8 (ka 9 (ka 12 (ka 13 (ka 15 (ka 20 (ka 21 (ka 22 (ka 46 (ka 47 (ka 48 (ka 53 kn)))))))))))))) (kb 1 (kb 2 km)) (fun k=>⟨[(54,some (vI k))],[(901,some (.nest 84 3 1 l.length (fun i=>(l.getD i default).length) (mg (nk (eqMs (cn l) a b ((al s).take q)) (hiI ((eqMs (cn l) a b ((al s).take q)) a ((al s).getD q default)) ((eqMs (cn l) a b ((al s).take q)) b ((al s).getD q default))) (loI ((eqMs (cn l) a b ((al s).take q)) a ((al s).getD q default)) ((eqMs (cn l) a b ((al s).take q)) b ((al s).getD q default))) i k)) none))]⟩) ((l.getD i default).length) kk ?_;rintro k hk;refine w_5 ?_;refine hcd (fun h3=>?_) (fun h3=>?_)
   ·
    refine i6 ?_;(iterate 2 refine rq rfl rfl rfl rfl rfl ?_ (hp:=(by (try simp only [bop,nM]);(repeat' apply And.intro) <;> first | trivial | rfl | omega | exact bo8 rfl)));refine w_5 ?_;refine hcd (fun h4=>?_) (fun h4=>?_)
    · refine w_6 ?_;refine rq rfl rfl rfl rfl rfl ?_ (hp:=(by (try simp only [bop,nM]);(repeat' apply And.intro) <;> first | trivial | rfl | omega | exact bo8 rfl));refine rs rfl rfl rfl rfl rfl ?_ (hp:=(by (try simp only [bop,nM]);(repeat' apply And.intro) <;> first | trivial | rfl | omega | exact bo8 rfl));refine w_5 ?_;exact lpx (k + 1) ⟨tt,⟨⟨_,rfl,(by first | exact a9w (aeq bsr) bst bst | (rw [af5 bsr];exact CoO.refl _))⟩,uu⟩⟩
    refine w_5 ?_;exact lpx (k + 1) ⟨tt,⟨⟨_,rfl,(by first | exact a9w (aeq bsr) bst bst | (rw [af5 bsr];exact CoO.refl _))⟩,uu⟩⟩
   refine w_5 ?_;exact lpx (i + 1) ⟨tt,⟨⟨_,rfl,(uo (aly bsq))⟩,uu⟩⟩
  refine w_5 ?_
  first | (refine lpz (q + 1) ⟨tt, ⟨⟨_, rfl, (by rw [a2b bsq, xf bsr]; exact CoO.refl _)⟩, uu⟩⟩ ?_; show q + 1 <= _; omega)
        | (refine lpz (q + 1) ⟨tt,⟨⟨_,rfl,(by rw [a2b bsq];exact uo (a1b bsq))⟩,uu⟩⟩ ?_;show q + 1 <= _;omega)
 obtain rfl:q = (al s).length:=by omega
 refine w_2 ?_;refine asa 901 rfl ?_;refine w_2 ?_;refine ik rfl rfl rfl rfl rfl rfl afu ((afv n (ez l (eqMs (cn l) a b (al s))) (by rw [nb];omega)).swap 900 901) (⟨⟨CoP.refl _,congrArg (HV.ref 901) (nb _ _).symm,trivial⟩,trivial⟩) ⟨⟨_,rfl,(by rw [bog];exact at1 rfl)⟩,trivial⟩ rfl rfl ?_;refine v_2 ?_;exact CoL.refl _
end
section
def xp (n:Int) (l:List Rw) (row:Rw):Int × List Rw × Int:=if 256 < (b5 (l ++ [row])).length then (0,[],3) else (n,b5 (l ++ [row]),0)
def bg {s:Nat} {f:Nat -> Nat -> PV}:CoP (.sl 0 s true f) (rl []):=CoP.sl rfl (.inr rfl) (fun h=>by cases h) fun i j hi _=>absurd hi (bod i)
def fdE (n:Int) (l:List Rw) (a b:Nat) (x:Fd):Int × List Rw × Int:=if nx (l.getD a default) (l.getD b default) x.lhs = true then (n,b5 (ez l (eqMs (cn l) a b (al x.rhs))),0) else (0,[],1)
def mvE (n:Int) (l:List Rw) (a b:Nat) (x:Fd):Int × List Rw × Int:=if nx (l.getD a default) (l.getD b default) x.lhs = true then xp n l (er (l.getD a default) (l.getD b default) (x.lhs ||| x.rhs)) else (0,[],1)
def om {n:Int} {l:List Rw} (h:tok n l = true):0 <= n /\ n <= 16 /\ l.length <= 256 /\ ∀ i,i < l.length -> (l.getD i default).length = n.toNat:=by
 unfold tok at h;rw [boc,decide_eq_true_iff,decide_eq_true_iff] at h;obtain ⟨⟨h0,h1,h2⟩,h3⟩:=h;refine ⟨h0,h1,h2,fun i hi=>?_⟩;have:=h3 i hi;unfold qu at this;rw [boc,boc,decide_eq_true_iff] at this;omega
def aam {n:Int} (h0:0 <= n) (h1:n <= 16) {x:Fd} (h:inU n x = true) {j:Nat} (hj:j ∈ al x.rhs):j < n.toNat:=by
 obtain ⟨_,h3⟩:=(pf h0 h1).1 h;obtain ⟨h4,h5⟩:=gi.1 hj;have h6:x.rhs >>> n.toNat = 0:=(wd (n:=n.toNat) bsq).1 (by unfold a6 at h3;rwa [bq4 bsq] at h3)
 rcases bro j n.toNat with h | h
 · exact h
 rw [bfo.1 h6 j h4 h] at h5;cases h5
end
section
open Go.Proofs
def bl7 (n:Int) (l:List Rw) (row:Rw) (hl:∀ i,i < l.length -> (l.getD i default).length <= 17592186044416) (hl2:l.length <= 4294967296):a7 btb 225 [pT n l,pZ row] (aa [pT (xp n l row).1 (xp n l row).2.1,pI (xp n l row).2.2]):=by
 refine hpx (nt:=23) Tryz.func225 ?_;refine sx7 ?_;refine m9 0 ?_;refine m9 1 ?_;refine w_5 ?_;refine fc9 ai3 (as0 n l hl bsq) trivial ?_;refine m9 2 ?_;refine w_7 ?_;refine m9 3 ?_;refine r9 4 true ?_;refine w_6 ?_;refine ik rfl rfl rfl rfl rfl rfl afu ((afv n (l ++ [row]) bt3).swap 900 901) (⟨⟨CoP.refl _,congrArg (HV.ref 901) bst,trivial⟩,trivial⟩) ⟨⟨_,rfl,bu rfl (CoP.refl _)⟩,trivial⟩ rfl rfl ?_;refine d5 ?_;refine hcd (fun h0=>?_) (fun h0=>?_)
 · refine w_6 ?_;refine hrr ?_;have he:xp n l row = (0,[],3):=if_pos bsq;exact f9 rfl rfl (by rw [he];exact ⟨CoC.agg ⟨CoP.refl _,bg,trivial⟩,CoC.refl _,trivial⟩)
 refine w_7 ?_;refine hrr ?_;have he:xp n l row = (n,b5 (l ++ [row]),0):=if_neg bsq;exact f9 rfl rfl (by rw [he];exact CoL.refl _)
def ah3:goodFn btb 176:=wgx Tryz.func176
def au6 (n:Int) (l:List Rw) (p m:List Fd) (i a b:Nat) (hT:tok n l = true) (ha:a < l.length) (hb:b < l.length) (hi:i < p.length) (hu:inU n (p.getD i default) = true):a7 btb 176 [pT n l,pP (fdl p),pP (fdl m), .agg [.raw (.bool false), .raw (.int .i64 (i:Int)), .raw (.int .i64 (a:Int)), .raw (.int .i64 (b:Int))]] (aa [pT (fdE n l a b (p.getD i default)).1 (fdE n l a b (p.getD i default)).2.1,pI (fdE n l a b (p.getD i default)).2.2]):=by
 refine hpx (nt:=75) Tryz.func176 ?_;refine cw ?_;obtain ⟨hn0,hn16,hl256,hrow⟩:=om hT;have hra:=hrow a ha;have hrb:=hrow b hb;have hbig:∀ i,i < l.length -> (l.getD i default).length <= 17592186044416:=fun i hi=>by rw [hrow i hi];omega
 refine gy ?_;refine m9 0 ?_;refine m9 1 ?_;refine m9 2 ?_;refine bit ?_;refine w_7 ?_;refine qcx a3u (a7v (l.getD a default) (l.getD b default) (p.getD i default).lhs bsq bsq) ?_;refine w_2 ?_;refine hcv (fun h0=>?_) (fun h0=>?_)
 · refine w_6 ?_;refine hrr ?_;have he:fdE n l a b (p.getD i default) = (0,[],1):=if_neg bt5;exact f9 rfl rfl (by rw [he];exact ⟨CoC.agg ⟨CoP.refl _,bg,trivial⟩,CoC.refl _,trivial⟩)
 refine t7 ?_;refine qcx (wgx Tryz.func224) (bam n l (p.getD i default).rhs a b hbig bsq ha hb (fun j hj i hi=>by rw [hrow i hi];exact aam hn0 hn16 hu hj)) ?_;refine w_4 ?_;refine hrr ?_;have he:fdE n l a b (p.getD i default) = (n,b5 (ez l (eqMs (cn l) a b (al (p.getD i default).rhs))),0):=if_pos bt5;exact f9 rfl rfl (by rw [he];exact CoL.refl _)
def aso (n:Int) (l:List Rw) (p m:List Fd) (i a b:Nat) (hT:tok n l = true) (ha:a < l.length) (hb:b < l.length) (hi:i < m.length):a7 btb 176 [pT n l,pP (fdl p),pP (fdl m), .agg [.raw (.bool true), .raw (.int .i64 (i:Int)), .raw (.int .i64 (a:Int)), .raw (.int .i64 (b:Int))]] (aa [pT (mvE n l a b (m.getD i default)).1 (mvE n l a b (m.getD i default)).2.1,pI (mvE n l a b (m.getD i default)).2.2]):=by
 refine hpx (nt:=75) Tryz.func176 ?_;refine cw ?_;obtain ⟨hn0,hn16,hl256,hrow⟩:=om hT;have hra:=hrow a ha;have hrb:=hrow b hb;have hbig:∀ i,i < l.length -> (l.getD i default).length <= 17592186044416:=fun i hi=>by rw [hrow i hi];omega
 refine gy ?_;refine m9 0 ?_;refine m9 1 ?_;refine m9 2 ?_;refine bit ?_;refine w_4 ?_;refine m9 3 ?_;refine w_9 ?_;refine qcx a3u (a7v (l.getD a default) (l.getD b default) (m.getD i default).lhs bsq bsq) ?_;refine w_2 ?_;refine hcv (fun h0=>?_) (fun h0=>?_)
 · refine w_6 ?_;refine hrr ?_;have he:mvE n l a b (m.getD i default) = (0,[],1):=if_neg bt5;exact f9 rfl rfl (by rw [he];exact ⟨CoC.agg ⟨CoP.refl _,bg,trivial⟩,CoC.refl _,trivial⟩)
 refine dl ?_;refine rc rfl rfl rfl rfl rfl rfl (wgx Tryz.func226) (b0u (l.getD a default) (l.getD b default) ((m.getD i default).lhs ||| (m.getD i default).rhs) bsq bsq) (⟨CoC.refl _,CoC.refl _,cci (by rw [bOr];rfl),trivial⟩) rfl rfl ?_;refine qcx (wgx Tryz.func225) (bl7 n l (er (l.getD a default) (l.getD b default) ((m.getD i default).lhs ||| (m.getD i default).rhs)) hbig bsq) ?_;refine w_6 ?_;refine hrr ?_;have he:mvE n l a b (m.getD i default) = xp n l (er (l.getD a default) (l.getD b default) ((m.getD i default).lhs ||| (m.getD i default).rhs)):=if_pos bt5;exact f9 rfl rfl (by rw [he];exact CoL.refl _)
end
section
def ol (P:Nat -> Nat -> Nat -> Bool) (I L:Nat):Option (Nat × Nat × Nat) :=
 (List.range I).findSome? fun i=>(List.range L).findSome? fun a=>((List.range L).find? fun b=>P i a b).map fun b=>(i,a,b)
def afq {α:Type} {f:Nat -> Option α}:∀ {n k:Nat} {x:α},k < n -> f k = some x -> (∀ j,j < k -> f j = none) -> (List.range n).findSome? f = some x
 | n + 1,k,x,hk,h,hb=>by
  rw [bq7,List.findSome?_append];by_cases e:k < n
  · rw [afq e h hb];rfl
  obtain rfl:k = n:=by omega
  have:(List.range k).findSome? f = none:=by
   rw [bqu];intro j hj;exact hb j (bor.1 hj)
  rw [this];simp [h]
def ahi {α:Type} {f:Nat -> Option α} {n:Nat} (h:∀ j,j < n -> f j = none):(List.range n).findSome? f = none:=by
 rw [bqu];intro j hj;exact h j (bor.1 hj)
def aab {p:Nat -> Bool} {n:Nat} (h:∀ j,j < n -> p j = false):(List.range n).find? p = none:=by
 rw [br2];intro j hj;rw [h j (bor.1 hj)];decide
def b9d {p:Nat -> Bool} {n k:Nat} (hk:k < n) (h:p k = true) (hb:∀ j,j < k -> p j = false):(List.range n).find? p = some k:=by
 induction n with
 | zero=>omega
 | succ n ih =>
  rw [bq7,List.find?_append];by_cases e:k < n
  · rw [ih e];rfl
  obtain rfl:k = n:=by omega
  rw [aab hb];simp [h]
section
variable {P:Nat -> Nat -> Nat -> Bool}
def abi {I L i a b:Nat} (hi:i < I) (ha:a < L) (hb:b < L) (h:P i a b = true) (h1:∀ i',i' < i -> ∀ a',a' < L -> ∀ b',b' < L -> P i' a' b' = false) (h2:∀ a',a' < a -> ∀ b',b' < L -> P i a' b' = false) (h3:∀ b',b' < b -> P i a b' = false):
 ol P I L = some (i,a,b):=by
 refine afq hi ?_ fun j hj=>ahi fun a' ha'=>by rw [aab fun b' hb'=>h1 j hj a' ha' b' hb'];rfl
 refine afq ha ?_ fun a' ha'=>by rw [aab fun b' hb'=>h2 a' ha' b' hb'];rfl
 rw [b9d hb h h3];rfl
def aaw {I L:Nat} (h:∀ i',i' < I -> ∀ a',a' < L -> ∀ b',b' < L -> P i' a' b' = false):ol P I L = none :=
 ahi fun i hi=>ahi fun a ha=>by rw [aab fun b hb=>h i hi a ha b hb];rfl
def j3 (l:List Rw) (x:Fd) (a b:Nat):Bool:=nx (l.getD a default) (l.getD b default) x.lhs && !nx (l.getD a default) (l.getD b default) x.rhs
def j4 (l:List Rw) (x:Fd) (a b:Nat):Bool:=nx (l.getD a default) (l.getD b default) x.lhs && !(l.any fun r=>decide (r = er (l.getD a default) (l.getD b default) (x.lhs ||| x.rhs)))
end
section
variable {l:List Rw} {x:Fd} {a b:Nat}
def bb2 (h:nx (l.getD a default) (l.getD b default) x.lhs = true) (h2:nx (l.getD a default) (l.getD b default) x.rhs = false):j3 l x a b = true:=by unfold j3;rw [h,h2];rfl
def amj (h:nx (l.getD a default) (l.getD b default) x.lhs = false):j3 l x a b = false:=by unfold j3;rw [h];rfl
def acs (h:nx (l.getD a default) (l.getD b default) x.rhs = true):j3 l x a b = false:=by unfold j3;rw [h];simp
def bck (h:nx (l.getD a default) (l.getD b default) x.lhs = true) (h2:(l.any fun r=>decide (r = er (l.getD a default) (l.getD b default) (x.lhs ||| x.rhs))) = false):j4 l x a b = true:=by unfold j4;rw [h,h2];rfl
def aob (h:nx (l.getD a default) (l.getD b default) x.lhs = false):j4 l x a b = false:=by unfold j4;rw [h];rfl
def acm (h:(l.any fun r=>decide (r = er (l.getD a default) (l.getD b default) (x.lhs ||| x.rhs))) = true):j4 l x a b = false:=by unfold j4;rw [h];simp
end
abbrev St:=Bool × Nat × Nat × Nat
abbrev St.pc (s:St):PC:=.agg [.raw (.bool s.1), .raw (.int .i64 (s.2.1:Int)), .raw (.int .i64 (s.2.2.1:Int)), .raw (.int .i64 (s.2.2.2:Int))]
def gp (l:List Rw) (p m:List Fd):Option St :=
 match ol (fun i a b=>j3 l (p.getD i default) a b) p.length l.length with
 | some x=>some (false,x)
 | none=>(ol (fun i a b=>j4 l (m.getD i default) a b) m.length l.length).map fun x=>(true,x)
def bbp {l:List Rw} {p m:List Fd} {x:Nat × Nat × Nat} (h:ol (fun i a b=>j3 l (p.getD i default) a b) p.length l.length = some x):gp l p m = some (false,x):=by unfold gp;rw [h]
def b8j {l:List Rw} {p m:List Fd} {x:Nat × Nat × Nat} (h0:ol (fun i a b=>j3 l (p.getD i default) a b) p.length l.length = none) (h:ol (fun i a b=>j4 l (m.getD i default) a b) m.length l.length = some x):gp l p m = some (true,x):=by unfold gp;rw [h0,h];rfl
def bch {l:List Rw} {p m:List Fd} (h0:ol (fun i a b=>j3 l (p.getD i default) a b) p.length l.length = none) (h:ol (fun i a b=>j4 l (m.getD i default) a b) m.length l.length = none):gp l p m = none:=by unfold gp;rw [h0,h];rfl
end
end Go.Hx

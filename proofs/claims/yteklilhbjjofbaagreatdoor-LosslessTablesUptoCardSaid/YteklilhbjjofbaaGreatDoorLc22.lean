/- A part of the proof: SrZ Ch5 X6 X7 Ch6 X9 X10 Ch7 X11 Ch8 X12. -/
import Derived.Shelf.SlSortCmp.NoneTotal
import Derived.Test.YteklilhbjjofbaaGreatDoorLc20
import Derived.Test.YteklilhbjjofbaaGreatDoorLc21
set_option linter.all false
set_option maxRecDepth 100000
set_option maxHeartbeats 1000000
namespace Go.Hx
section
open Go.Proofs Go.RowKit Go.Sort
section
variable {w:World}
def adc {w':World} (h:Below w.heap.size w w'):∃ q os,w' = grow (w.drewN q) os:=by
 refine ⟨w'.drawn - w.drawn,w'.heap.extract w.heap.size w'.heap.size, ?_⟩;have hd:=h.drawn;obtain ⟨h1,h2,h3,h4,h5,_⟩:=h
 cases w with
 | mk hp tp dr os out =>
 cases w' with
 | mk hp' tp' dr' os' out' =>
 dsimp only at *;subst h1 h2 h3;unfold grow World.drewN;simp only [World.mk.injEq,true_and,and_true];refine ⟨?_,by omega⟩;apply Array.ext_getElem?;intro k;rw [Array.getElem?_append];by_cases hk:k < hp.size
 · rw [if_pos hk,h5 k hk]
 rw [if_neg hk,Array.getElem?_extract];by_cases hk2:k < hp'.size
 · rw [if_pos b5s]
   congr 1;omega
 rw [if_neg b5s,b4i b5s]
variable {os:Array Obj} {α:Type} {d:Array α} {enc:α -> Value}
def acu [Inhabited α] {g m:Nat} {cur:Array Value} {e:TypeId} {fr:Nat × Nat} (h:w.heap[g]? = some (.cells cur e fr)):
 (sortWorld enc w g 0 m d os).heap[g]? = some (.cells (putCells enc 0 d cur) e fr):=by
 have hlt:=(b2t.1 h).1;unfold sortWorld;rw [heap_grow_old _ _ (by simpa using hlt)];unfold putRow mapBlock;simp only [heap_ahead,b5q,if_true,h];rfl
def vi [Inhabited α] {g m:Nat} {b:Nat} (hb:b < w.heap.size) (hne:b ≠ g):(sortWorld enc w g 0 m d os).heap[b]? = w.heap[b]?:=by
 unfold sortWorld;rw [heap_grow_old _ _ (by simpa using hb)];unfold putRow mapBlock;simp only [heap_ahead,b5q,if_neg (Ne.symm hne)]
def acs [Inhabited α] {g m:Nat}:Below 0 w (sortWorld enc w g 0 m d os) :=
 ⟨rfl,rfl,rfl,by unfold sortWorld;simp,fun k hk=>absurd hk (b2y k),by unfold sortWorld grow;simp⟩
def ak6 [Inhabited α] {cur:Array Value} (h:d.size <= cur.size):(putCells enc 0 d cur).toList.take d.size = d.toList.map enc:=by
 apply b4w;intro k;rw [b3p,b35,b4h,b4h];by_cases hk:k < d.size
 · rw [if_pos hk]
   unfold putCells;rw [Array.getElem?_mapIdx,b3r b5s,b3r hk];simp only [b3c,b3d,Nat.sub_zero];rw [if_pos ⟨b2w _,hk⟩,getElem!_pos d k hk]
 rw [if_neg hk,b4i b5s];rfl
def ag3 {P:Program} {ρ:Go.Shelf.Ren} {β:Type} [Inhabited β] (L:SlLaysF.n6 P ρ) (pc:β -> PV) (h1:∀ imm x v,af imm (pc x) v -> v.oneCell' = true) (cf:β -> β -> Int) (hO:SWO (ltOf cf)) (hT:∀ x y,(ltOf cf) x y = false -> (ltOf cf) y x = false -> x = y)
 (g:Nat) (caps:Nat -> PV) (hg:∀ args w,(callFunc g args).run P w = .ok (.enter g args) w) (hc:∀ x y,a8 P g [.one (pc x), .one (pc y)] (ab [.one (.raw (.int .i64 (cf x y)))])) (id:Nat) (e:TypeId) (l:List β) (hsz:l.length <= 8589934592) :
 cw P (ρ.f 6) [.one (.ref id l.length), .one (.p (.fn g 0 caps))] [(id, .arr true 1 e l.length (lf (fun x _=>pc x) l))] (.tup [])
  [(id, .arr true 1 e l.length (lf (fun x _=>pc x) (l.mergeSort fun x y=>!(ltOf cf) y x)))] [id]:=by
 intro w c us hM hus
 match us,hus with
 | [u,v],⟨hu,hv,_⟩ =>
  obtain ⟨cs,rfl,hcl,_⟩:=hv;have hcs:cs = []:=b47 hcl;subst hcs;have hl1:lk [(id,a6.arr true 1 e l.length (lf (fun x _=>pc x) l))] id = some (.arr true 1 e l.length (lf (fun x _=>pc x) l)):=by simp [lk]
  have hu2:=(hu.2.2 _ _ _ _ hl1 rfl).2 rfl;subst hu2;have hob:=hM.objs id _ hl1;obtain ⟨h0,hmax,h5⟩:=hob;have hlen:(l.mergeSort fun x y=>!(ltOf cf) y x).length = l.length:=b5r _
  have hev:∀ f':Nat -> Nat -> PV,Evo c (lk [(id,a6.arr true 1 e l.length (lf (fun x _=>pc x) l))]) c (lk [(id,a6.arr true 1 e l.length f')]) id:=fun f' =>
   .inr (.inr ⟨_, .arr true 1 e l.length f',1,e,l.length,l.length,hl1,rfl,by simp [lk],rfl,b2v _,fun _=>rfl,fun _ _ _ _ _ _ _ h=>by cases h⟩)
  rcases b46 l.length with hz | hpos
  ·
   have hl:l = []:=b47 hz;subst hl
   have hform:∃ ad cap,c.own id = .slice ad 0 cap:=by
    rcases h5 with ⟨_,xs,h2,_⟩ | ⟨_,_,ad,cap,hv,_⟩
    · rcases h2.2 with ⟨hv,_⟩ | ⟨g,cap,cur,hv,_⟩
      · exact ⟨none,0,hv⟩
      exact ⟨_,cap,hv⟩
    exact ⟨ad,cap,hv⟩
   obtain ⟨ad,cap,hown⟩:=hform;have hms:([]:List β).mergeSort (fun x y=>!(ltOf cf) y x) = []:=by simp
   rw [hown,hms];refine (AnyF.slices_SortFunc_none { L with } ad cap (.func (.func g) #[] #[]) w).mono ?_;rintro e' w' ⟨rfl,rfl⟩
   exact ⟨_,c,rfl,⟨[],rfl,trivial⟩,hM,Below.refl _ _,fun _ _ _=>⟨rfl,rfl⟩,fun id0 ob b ho hb=>.inr ⟨id0,ob,ho,hb⟩,fun id0 hid=>by
    rw [b39.1 hid]
    exact Evo.refl _ _ _⟩
  obtain ⟨h6,xs,h2,h4⟩:c.blk id = fc (c.own id) /\ ∃ xs,w.ownsRow 0 e 1 (c.own id) l.length xs /\ ∀ i j,i < l.length -> j < 1 -> ∃ x,xs[i * 1 + j]? = some x /\ af c.imm (lf (fun x _=>pc x) l i j) x:=by
   rcases h5 with h5 | ⟨h6 | h6,_⟩
   · exact h5
   · cases h6
   omega
  obtain ⟨hxl,hrow⟩:=h2
  rcases hrow with ⟨_,hz⟩ | ⟨b,cap,cur,hown,hbase,hheap,hnc,hcm,hcs,htake⟩
  · omega
  have hblk:c.blk id b:=by rw [h6,hown];rfl
  have hlt:b < w.heap.size:=(b2t.1 hheap).1
  have hval:∀ i,i < l.length -> ∃ x,cur[i]? = some x /\ af c.imm (pc (l.getD i default)) x:=fun i hi=>by
   obtain ⟨x,hx,hr⟩:=h4 i 0 hi b5s;rw [Nat.mul_one,b4f,<- htake,b3p,if_pos b5s,b4h] at hx;exact ⟨x,hx,hr⟩
  let A:={ p:β × Value // af c.imm (pc p.1) p.2 }
  let enc:A -> Value:=fun p=>p.1.2
  let fst:A -> β:=fun p=>p.1.1
  let cf':A -> A -> Int:=fun p q=>cf (fst p) (fst q)
  have hO':SWO (ltOf cf'):=⟨fun x=>hO.irrefl _,fun x y z=>hO.trans _ _ _,fun x y z=>hO.ntrans _ _ _⟩
  obtain ⟨d,hds,hdv⟩:∃ d:Array A,d.size = l.length /\ ∀ i,(hi:i < d.size) -> cur[i]? = some (enc d[i]) /\ fst d[i] = l.getD i default:=by
   refine ⟨Array.ofFn (n:=l.length) fun i=>⟨(l.getD i default,(hval i i.2).choose),(hval i i.2).choose_spec.2⟩,by simp,fun i hi=>?_⟩;rw [Array.getElem_ofFn];exact ⟨(hval i (by simpa using hi)).choose_spec.1,rfl⟩
  have hd0:0 < d.size:=by omega
  haveI:Inhabited A:=⟨d[0]⟩;have hen:∀ x:A,(enc x).oneCell' = true:=fun x=>h1 _ _ _ x.2
  have hH:Holds enc w b 0 d:=fun j hj=>by
   rw [b3d];refine ⟨?_,by simp [World.frozen?,hheap]⟩;rw [getElem!_pos d j hj];simp [World.cell?,hheap,(hdv j hj).1]
  have hcmp:CmpLays1 P g #[] enc cf' b 0 d.size w:=by
   intro m os dk hdk x y
   have hcimm:∀ b' ob,c.imm b' = some ob -> (sortWorld enc w b 0 m dk os).heap[b']? = some ob:=fun b' ob hb'=>by
    have hne:b' ≠ b:=fun he=>by
     have:=hM.sep id _ b hl1 hblk;rw [<- he,hb'] at this;cases this
    have hw:=hM.imm b' ob hb';rw [vi (b2t.1 hw).1 hne];exact hw
   have h:=hc (fst x) (fst y) (sortWorld enc w b 0 m dk os) c.imm [enc x,enc y] c.tab hcimm ⟨x.2,y.2,trivial⟩;refine h.mono ?_;rintro e' w' ⟨v,imm',rfl,hr,_,_,hb⟩;obtain ⟨q,os',hq⟩:=adc hb;exact ⟨by rw [hr.1],q,os',hq⟩
  have hS:=Any.slices_SortFunc L enc hen cf' hO' g #[] b 0 cap d w hg hcmp hH hlt b5s;rw [hds] at hS;rw [hown];refine Calls.mono hS ?_;rintro e' w' ⟨rfl,d',m,os,hperm,hsorted,rfl⟩;have hsz':d'.size = l.length:=by rw [hperm.1,hds]
  obtain ⟨S,hSl,hSp⟩:∃ S:List A,S = d'.toList /\ S.map fst = l.mergeSort fun x y=>!(ltOf cf) y x:=by
   refine ⟨_,rfl, ?_⟩
   have hp:(d'.toList.map fst).Perm l:=by
    obtain ⟨_,_,hp⟩:=hperm;have e1:d'.extract 0 l.length = d':=by rw [<- hsz'];exact Array.extract_size
    have e2:d.extract 0 l.length = d:=by rw [<- hds];exact Array.extract_size
    rw [e1,e2] at hp;refine (hp.map fst).trans ?_
    have:d.toList.map fst = l:=by
     refine k6 (by simp [hds]) fun j hj=>?_;have hj:j < d.size:=by simpa using hj
     rw [<- (hdv j hj).2,b2r,b35,b4h,b3r hj];rfl
    rw [this]
   refine List.Perm.eq_of_pairwise (le:=fun x y=>(!(ltOf cf) y x) = true) ?_ ?_ ?_ (hp.trans (List.mergeSort_perm _ _).symm)
   · intro a b _ _ h1 h2
     simp only [b3y] at h1 h2;exact hT a b h2 h1
   · rw [List.pairwise_map,b51]
     intro i j hi hj hij;have hi':i < d'.size:=by simpa using hi
     have hj':j < d'.size:=by simpa using hj
     have:=hsorted i j (b2w _) hij b5s;rw [getElem!_pos d' j hj',getElem!_pos d' i hi'] at this;simp only [Array.getElem_toList,b3y];exact this
   refine List.pairwise_mergeSort ?_ ?_ _
   · intro a b c h1 h2
     simp only [b3y] at h1 h2 ⊢;exact hO.ntrans c b a h2 h1
   intro a b
   cases h:(ltOf cf) b a with
   | false=>simp
   | true=>simp [hO.asymmA h]
  obtain rfl:d' = S.toArray:=by rw [hSl]
  rw [<- hSp] at hlen ⊢;rw [b3g] at hlen
  refine ⟨_,c,rfl,⟨[],rfl,trivial⟩,⟨fun id0 ob ho=>?_,fun id0 id1 ob0 ob1 b' ho0 ho1 _ _=>(md ho0).1.trans (md ho1).1.symm,fun b' ob hb'=>?_,fun id0 ob b' ho hb'=>?_⟩,acs,
   fun b' hb' hno=>⟨vi hb' (fun he=>hno id _ hl1 (by rw [he];exact hblk)),rfl⟩,fun id0 ob b' ho hb'=>.inr ⟨id,_,hl1,by rw [<- (md ho).1];exact hb'⟩,fun id0 hid=>by
    rw [b39.1 hid]
    exact hev _⟩
  · obtain ⟨rfl,rfl⟩:=md ho
    refine ⟨h0,hmax, .inl ⟨h6,S.map enc,⟨by simp [hlen], .inr ⟨b,cap,putCells enc 0 S.toArray cur,hown,hbase,acu hheap,hnc,hcm,by simpa [putCells] using hcs, ?_⟩⟩,fun i j hi hj=>?_⟩⟩
    · have:=ak6 (enc:=enc) (d:=S.toArray) (cur:=cur) (by rw [b3s,hlen,hcs];omega)
      rw [b3s,hlen] at this;rw [Nat.mul_one];exact this
    obtain rfl:j = 0:=by omega
    have hi':i < S.length:=by rw [hlen];exact hi
    refine ⟨enc S[i], ?_, ?_⟩
    · rw [Nat.mul_one,b4f,b35,b2q hi']
      rfl
    show af c.imm (pc ((S.map fst).getD i default)) _;rw [b2r,b35,b2q hi'];exact S[i].2
  · have hne:b' ≠ b:=fun he=>by
     have:=hM.sep id _ b hl1 hblk;rw [<- he,hb'] at this;cases this
    have hw:=hM.imm b' ob hb';rw [vi (b2t.1 hw).1 hne];exact hw
  have:=(md ho).1;subst this;exact hM.sep id0 _ b' hl1 hb'
 | [],h=>exact h.elim
 | [_],⟨_,h⟩=>exact h.elim
 | _ :: _ :: _ :: _,⟨_,_,h⟩=>exact h.elim
end
end
section
open Go.Proofs Go.RowKit Go.Sort
structure CpZ (l:List Rw) (k p q:Nat) (m:List Rw):Prop where
 len:m.length = l.length
 kq:k < q
 pq:p < q
 ql:q <= l.length
 pre:m.take p = j3 (l.take q)
 high:∀ j,q - 1 <= j -> m.getD j default = l.getD j default
section
variable {k:Nat} {l:List Rw}
theorem CpZ.start (h1:1 <= k) (hk:k < l.length) (h:∀ j,0 < j -> j < k -> ¬ l.getD j default = l.getD (j - 1) default) (hd:l.getD k default = l.getD (k - 1) default):CpZ l k k (k + 1) l :=
 ⟨rfl,by omega,by omega,by omega,by rw [gc b5s hk,if_pos hd.symm,b3u,ow b5s h],fun _ _=>rfl⟩
theorem CpZ.skip {p q:Nat} {m:List Rw} (h:CpZ l k p q m) (hq:q < l.length) (he:m.getD q default = m.getD (q - 1) default):CpZ l k p (q + 1) m:=by
 have hk:=h.kq;refine ⟨h.len,by omega,by have:=h.pq;omega,hq, ?_,fun j hj=>h.high j b5s⟩;rw [h.high q b5s,h.high (q - 1) b5s] at he;rw [gc b5s hq,if_pos he.symm,b3u,h.pre]
theorem CpZ.keep {p q:Nat} {m:List Rw} (h:CpZ l k p q m) (hq:q < l.length) (he:¬ m.getD q default = m.getD (q - 1) default):CpZ l k (p + 1) (q + 1) (m.set p (m.getD q default)):=by
 have hk:=h.kq;have hp:=h.pq;have hl:=h.len;refine ⟨by simp [hl],by omega,by omega,hq, ?_,fun j hj=>by rw [getD_set_ne' b5s];exact h.high j b5s⟩;have e:=h.high q b5s;rw [e,h.high (q - 1) b5s] at he;rw [gc b5s hq,if_neg (fun e=>he e.symm),<- h.pre,bi (by simp [hl];omega),ge b5s,e];congr 1;rw [List.take_set,b5f b66]
def a8y (hk:l.length <= k) (h:∀ j,0 < j -> j < k -> ¬ l.getD j default = l.getD (j - 1) default):CoP (.sl l.length 1 false (lf rC l)) (rl (j3 l)):=by
 have:=ow (b2v l.length) fun j h1 h2=>h j h1 b5s;rw [b3k] at this;rw [this];exact CoP.refl _
variable {a:Nat}
def an2 {m:List Rw} {p q n d:Nat} {cl:Bool} {z:List Value} (hC:CpZ l k p q m) (hq:¬ q < l.length) (ha:p <= a):CoP (.sl (fm (bh n (some (p:Int))) none) 1 cl (o3 (o7 (lf rC m) a d z) none)) (rl (j3 l)):=by
 have e:=hC.pre;have h1:=hC.ql;have h2:=hC.len;have h3:=hC.pq;rw [show q = l.length by omega,b3k] at e;have el:(j3 l).length = p:=by rw [<- e];simp;omega
 exact apr (by rw [el];rfl) rfl b5s (by rw [el,e])
def wv:∀ {l:List Rw} {p:Option Rw},l.Pairwise (fun a b=>ltZ b a = false) -> (∀ x,p = some x -> ∀ y ∈ l,ltZ y x = false) -> (io p l).Pairwise (fun a b=>ltZ a b = true) /\ ∀ x,p = some x -> ∀ y ∈ io p l,ltZ x y = true
 | [],p,_,_=>⟨by simp [io],fun x _ y hy=>by simp [io] at hy⟩
 | z :: l,p,h,hp=>by
  obtain ⟨h1,h2⟩:=b3q.1 h;simp only [io];split
  · rename_i e
    subst e;exact wv h2 fun x hx y hy=>hp x hx y (b3h _ hy)
  rename_i hne
  obtain ⟨q1,q2⟩:=wv (p:=some z) h2 fun x hx y hy=>by
   simp only [b2p] at hx;subst hx;exact h1 y hy
  refine ⟨b3q.2 ⟨fun y hy=>q2 z rfl y hy,q1⟩,fun x hx y hy=>?_⟩
  have hxz:ltZ x z = true:=by
   have h3:=hp x hx z b45
   rcases vu (a:=x) (b:=z) (fun e=>hne (by rw [hx,e])) with h4 | h4
   · exact h4
   rw [h3] at h4;cases h4
  rcases b2z.1 hy with rfl | hy
  · exact hxz
  exact jh hxz (q2 z rfl y hy)
variable {a' b':Nat}
def a0c {b:Nat} (h:l.getD a' default = l.getD b' default) (ha:a' = a) (hb:b' = b):l.getD a default = l.getD b default:=by subst ha hb;exact h
def a0j {b:Nat} (h:¬ l.getD a' default = l.getD b' default) (ha:a' = a) (hb:b' = b):¬ l.getD a default = l.getD b default:=by subst ha hb;exact h
def a6j {b:Nat} (h:decide (l.getD a' default = l.getD b' default) = true) (ha:a' = a) (hb:b' = b):l.getD a default = l.getD b default:=a0c (of_decide_eq_true h) ha hb
def a6n {b:Nat} (h:decide (l.getD a' default = l.getD b' default) = false) (ha:a' = a) (hb:b' = b):¬ l.getD a default = l.getD b default:=a0j (of_decide_eq_false h) ha hb
def py {a b:Rw}:ltOf lq a b = ltZ a b:=by
 rw [b5h];show decide (lq a b < 0) = true <-> _;rw [decide_eq_true_iff];exact xm
def ajw {x y z:Rw} (h:ltZ x y = false) (k:ltZ y z = false):ltZ x z = false:=by
 rw [b38];intro e;by_cases hyz:y = z
 · subst hyz;rw [h] at e;cases e
 rcases vu hyz with h2 | h2
 · rw [k] at h2;cases h2
 rw [jh e h2] at h;cases h
def akp:SWO (ltOf lq) where
 irrefl x:=by rw [py];exact p8 x
 trans x y z h k:=by rw [py] at *;exact jh h k
 ntrans x y z h k:=by rw [py] at *;exact ajw h k
def srZ (l:List Rw):List Rw:=l.mergeSort fun x y=>!ltZ y x
def aq9 {x:Rw}:x ∈ srZ l <-> x ∈ l:=by unfold srZ;exact List.mem_mergeSort
def aed (l:List Rw):(srZ l).length = l.length:=b5r _
def akx (l:List Rw):j3 (srZ l) = aw l:=by
 refine abx (wv ?_ fun x hx=>by cases hx).1 fun z=>by rw [a38,aq9]
 have h:=List.pairwise_mergeSort (le:=fun x y:Rw=>!ltZ y x) (fun a b c h k=>by
  simp only [b3y] at *
  exact ajw k h) (fun a b=>by
  simp only [b43,b3y];by_cases e:ltZ b a = true
  · right
    rw [b38];intro e2;have:=jh e e2;rw [p8] at this;cases this
  left
  exact b38.2 e) l
 refine h.imp fun {a b} hab=>?_;simpa using hab
def apm {r:Rw} (h:(l.any fun x=>decide (x = r)) = false):r ∉ l:=fun e=>by
 rw [b4a] at h;exact h r e (decide_eq_true rfl)
def asc:Go.Hx.goodFn b6g 135:=⟨Tryz.f135,Tryz.func135,by kernel_rfl,by kernel_rfl⟩
def b67 {p:Prop} (h:p:=by kernel_rfl):p:=h
def aui (id:Nat) (caps:Nat -> PV) (l:List Rw) (hsz:l.length <= 8589934592):cw b6g 135 [.one (.ref id l.length), .one (.p (.fn 136 0 caps))] [(id, .arr true 1 97 l.length (lf rC l))] (.tup [])
 [(id, .arr true 1 97 l.length (lf rC (srZ l)))] [id]:=by
 have h:=ag3 Tryz.laysSortZ (fun r:Rw=>zl r) (fun imm x v hr=>by obtain ⟨ad,cap,h1,_⟩:=hr;rw [h1];rfl) lq akp (fun x y h k=>by
  rw [py] at h k;apply Classical.byContradiction;intro hne
  rcases vu hne with h2 | h2
  · rw [h] at h2;cases h2
  rw [k] at h2;cases h2) 136 caps (enters_of Tryz.func136 b67 rfl) (fun x y=>aox x y) id 97 l hsz
 have e:(fun x y:Rw=>!(ltOf lq) y x) = fun x y=>!ltZ y x:=by
  funext x y;rw [py]
 rw [e] at h;exact h
end
end
section
open Go.Proofs
section
variable {p:Prop}
def b60 (h:p:=by first | rfl | (dsimp only;omega)):p:=h
def b63 (h:p:=by simp only [bh]; omega):p:=h
def b64 (h:p:=by first | rfl | (dsimp only; omega)):p:=h
def b65 (h:p:=by simp only [bh];omega):p:=h
def atj (l:List Rw):cw b6g 137 [.one (.ref 900 l.length), .one (.p (.fn 89 0 fun _=>.any))] [(900, .arr true 1 97 l.length (lf rC l))] (.v (.one (.p (rl (j3 l))))) [] []:=by
 refine hfx (nt:=66) Tryz.func137 ?_;refine dc ?_;refine aoo 900 rfl fun hlen=>?_;refine dq ?_;refine hcd (fun h0=>?_) (fun h0=>?_)
 · refine w_5 ?_;refine c3 4 rfl rfl rfl ?_;refine hrr ?_;exact ⟨_,_,rfl,b5u,a8y (k:=l.length) (b2v _) (fun j h1 h2=>by omega),trivial⟩
 refine w_7 ?_;refine ah (ι:=Nat) (ka 0 (ka 1 kn)) (kb 900 km) (fun k=>⟨[(5,some (vI k))],[]⟩) (fun k=>1 <= k /\ k <= l.length /\ ∀ j,0 < j -> j < k -> ¬ l.getD j default = l.getD (j - 1) default) (fun k=>l.length - k) (1) (⟨b2v _,by omega,fun j h1 h2=>by omega⟩) kk ?_;rintro k ⟨hk1,hk,hI⟩;refine w_8 ?_;refine hcd (fun h1=>?_) (fun h1=>?_)
 ·
  refine qk ?_;refine qcx ach (amn _ _) ?_;refine w_2 ?_;refine hcb (fun h2=>?_) (fun h2=>?_)
  ·
   refine ke ?_;refine ah (ι:=Nat × Nat × List Rw) (ka 0 (ka 1 (ka 6 kn))) km (fun x=>⟨[(5,some (vI x.1)),(7,some (vI ((x.2.1:Int) - k)))],[(900,some (.arr true 1 97 l.length (lf rC x.2.2)))]⟩) (fun x=>CpZ l k x.1 x.2.1 x.2.2) (fun x=>l.length - x.2.1) ((k,k + 1,l)) (CpZ.start hk1 b5s hI (by first | exact a0c b5t rfl b5s | exact a6j b5t rfl b5s)) ⟨⟨zy,⟨_,rfl,(coi b60)⟩,trivial⟩,uu⟩ ?_;rintro ⟨p,q,m⟩ hC;have hC0:=hC;obtain ⟨hml,hkq,hpq,hql,_,_⟩:=hC0;dsimp only at hC hml hkq hpq hql;refine w_8 ?_;refine hcd (fun h3=>?_) (fun h3=>?_)
   ·
    simp only [fm,bh,b44] at h3;refine qk ?_;refine qcx ach (amn _ _) ?_;refine w_3 ?_;refine hcv (fun h4=>?_) (fun h4=>?_)
    ·
     refine anh ?_
     first | (refine lpz (p + 1, q + 1, m.set p (m.getD q default)) ⟨⟨⟨_, rfl, (coi b64)⟩, ⟨_, rfl, (coi b64)⟩, tt⟩, ⟨⟨_, rfl, (af7 id hml.symm b5s (by dsimp only; omega) b63)⟩, trivial⟩⟩ ?_; exact hC.keep b5s (by first | exact a0j b5t b63 b63 | exact a6n b5t b63 b63))
           | (refine lpz (p,q + 1,m) ⟨⟨⟨_,rfl,(coi b60)⟩,⟨_,rfl,(coi b60)⟩,tt⟩,uu⟩ ?_;exact hC.skip b5s (by first | exact a0c b5t b65 b65 | exact a6j b5t b65 b65))
    refine w_6 ?_
    first | (refine lpz (p + 1, q + 1, m.set p (m.getD q default)) ⟨⟨⟨_, rfl, (coi b64)⟩, ⟨_, rfl, (coi b64)⟩, tt⟩, ⟨⟨_, rfl, (af7 id hml.symm b5s (by dsimp only; omega) b63)⟩, trivial⟩⟩ ?_; exact hC.keep b5s (by first | exact a0j b5t b63 b63 | exact a6n b5t b63 b63))
          | (refine lpz (p,q + 1,m) ⟨⟨⟨_,rfl,(coi b60)⟩,⟨_,rfl,(coi b60)⟩,tt⟩,uu⟩ ?_;exact hC.skip b5s (by first | exact a0c b5t b65 b65 | exact a6j b5t b65 b65))
   simp only [fm,bh,b44] at h3;refine w_6 ?_;refine r9 0 true ?_;refine w_5 ?_;refine an5 rfl rfl rfl rfl rfl ?_;refine w_2 ?_;refine hrr ?_;exact ⟨_,_,rfl,b5u,an2 hC b5s (by simp [bh]),trivial⟩
  refine w_6 ?_;refine lpz (k + 1) kk ?_;refine ⟨by omega,by show k + 1 <= _;omega,fun j h1 h2=>?_⟩
  rcases b5l (Nat.le_of_lt_succ h2) with h | h
  · exact hI j h1 h
  subst h
  first | exact a0j b5t rfl b5s | exact a6n b5t rfl b5s
 refine w_6 ?_;refine c3 4 rfl rfl rfl ?_;refine hrr ?_;exact ⟨_,_,rfl,b5u,a8y (k:=k) b5s hI,trivial⟩
end
end
section
open Go.Proofs
def abj:goodFn b6g 94:=wgx Tryz.func94
def a61 (n:Int) (l:List Rw) (hl:l.length <= 8589934592):cw b6g 94 [.agg [.p (.raw (.int .i64 n)), .ref 900 l.length]] [(900, .arr true 1 97 l.length (lf rC l))] (.v (.agg [.p (.raw (.int .i64 n)), .p (rl (aw l))])) [] []:=by
 refine hfx (nt:=11) Tryz.func94 ?_;refine sx7 ?_;refine m9 0 ?_;refine m9 1 ?_;refine w_5 ?_;refine fc9 asc (aui 900 _ l hl) uu ?_;refine w_5 ?_;refine jq rfl rfl rfl rfl rfl rfl (wgx Tryz.func137) (atj (srZ l)) (⟨congrArg (HV.ref 900) (aed l).symm,CoP.refl _,trivial⟩) ⟨⟨_,rfl,aex rfl (aed l).symm⟩,trivial⟩ rfl rfl ?_;refine w_8 ?_;refine hrr ?_;exact ⟨_,_,rfl,b5u,CoR.of_eq (by rw [<- akx];rfl),trivial⟩
end
section
abbrev nM (l:List Rw):Nat -> Nat:=fun i=>(l.getD i default).length
abbrev dj (l:List Rw):Nat -> Nat -> Int:=fun i r=>(l.getD i default).getD r default
abbrev mg (M:Nat -> Nat -> Int):Nat -> Nat -> Nat -> PV:=fun i r _=>.raw (.int .i64 (M i r))
section
variable {e et:TypeId} {i k:Nat}
def ahk {l:List Rw} {f:Nat -> Nat -> PV} (hk:k = (l.getD i default).length) (hf:f = lf zC (l.getD i default)):
 CoO (.nest e et 1 (i + 1) (ny (nM l) i k) (pi (mg (dj l)) i f) none) (.nest e et 1 (i + 1) (nM l) (mg (dj l)) none):=by
 subst hk hf
 have hm:∀ j,ny (nM l) i (l.getD i default).length j = nM l j:=fun j=>by
  by_cases h:j = i
  · subst h;rw [a6i]
  rw [xt h]
 refine ⟨rfl,rfl,rfl,rfl,rfl,fun j _=>(hm j).symm,fun j r c hj hr hc=>CoP.of_eq ?_⟩;by_cases h:j = i
 · subst h
   rw [adv];rfl
 rw [aak h]
abbrev hiI (x y:Int):Int:=if x < y then y else x
abbrev loI (x y:Int):Int:=if y < x then y else x
def jt (M:Nat -> Nat -> Int) (hi lo:Int) (i k:Nat):Nat -> Nat -> Int:=fun i' r=>if (i' < i \/ (i' = i /\ r < k)) /\ M i' r = hi then lo else M i' r
def eqM (M:Nat -> Nat -> Int) (a b j:Nat):Nat -> Nat -> Int:=fun i r=>if M i r = hiI (M a j) (M b j) then loI (M a j) (M b j) else M i r
def eqMs (M:Nat -> Nat -> Int) (a b:Nat) (js:List Nat):Nat -> Nat -> Int:=js.foldl (fun M j=>eqM M a b j) M
def cz (l:List Rw) (M:Nat -> Nat -> Int):List Rw:=(List.range l.length).map fun i=>(List.range (l.getD i default).length).map (M i)
def lj (l:List Rw) (M:Nat -> Nat -> Int):(cz l M).length = l.length:=by unfold cz;simp
variable {M:Nat -> Nat -> Int}
def a7o {l:List Rw} (h:i < l.length):(cz l M).getD i default = (List.range (l.getD i default).length).map (M i):=by
 unfold cz;rw [b2r,b35,b3t h];rfl
variable {hi lo:Int}
def aip:jt M hi lo 0 0 = M:=by
 funext i r;unfold jt;rw [if_neg b5s]
def aj2 (h:jt M hi lo i k i k = hi):jt M hi lo i (k + 1) = fun i' r=>if i' = i /\ r = k then lo else jt M hi lo i k i' r:=by
 have h0:M i k = hi:=by
  unfold jt at h;rwa [if_neg b5s] at h
 funext i' r;unfold jt;by_cases e:i' = i /\ r = k
 · rw [if_pos e,if_pos ⟨.inr ⟨e.1,by omega⟩,by rw [e.1,e.2];exact h0⟩]
 rw [if_neg e];by_cases e2:(i' < i \/ (i' = i /\ r < k)) /\ M i' r = hi
 · rw [if_pos e2,if_pos ⟨e2.1.imp_right fun x=>⟨x.1,by omega⟩,e2.2⟩]
 rw [if_neg e2,if_neg fun e3=>e2 ⟨by omega,e3.2⟩]
def akc (h:¬ jt M hi lo i k i k = hi):jt M hi lo i (k + 1) = jt M hi lo i k:=by
 have h0:¬ M i k = hi:=by
  unfold jt at h;rwa [if_neg b5s] at h
 funext i' r;unfold jt;by_cases e:i' = i /\ r = k
 · rw [if_neg (fun x=>h0 (by rw [<- e.1,<- e.2];exact x.2)),if_neg (fun x=>h0 (by rw [<- e.1,<- e.2];exact x.2))]
 by_cases e2:(i' < i \/ (i' = i /\ r < k)) /\ M i' r = hi
 · rw [if_pos e2,if_pos ⟨e2.1.imp_right fun x=>⟨x.1,by omega⟩,e2.2⟩]
 rw [if_neg e2,if_neg fun e3=>e2 ⟨by omega,e3.2⟩]
variable {M':Nat -> Nat -> Int} {m:Nat -> Nat} {n:Nat}
def aeq {i0 k0:Nat} {v:Int} (hM:M' = fun i' r=>if i' = i /\ r = k then v else M i' r) (hi:i0 = i) (hk:k0 = k):
 CoO (.nest e et 1 n m (lb (mg M) i0 k0 0 [.raw (.int .i64 v)]) none) (.nest e et 1 n m (mg M') none):=by
 subst hi hk hM;refine ⟨rfl,rfl,rfl,rfl,rfl,fun j _=>rfl,fun j r c hj hr hc=>CoP.of_eq ?_⟩;obtain rfl:c = 0:=by omega
 unfold lb;by_cases h:j = i0
 · rw [if_pos h]
   unfold ej;by_cases h2:r = k0
   · rw [if_pos ⟨h2,by omega,by simp⟩]
     show _ = PV.raw (.int .i64 (if j = i0 /\ r = k0 then v else M j r));rw [if_pos ⟨h,h2⟩];rfl
   rw [if_neg (fun x=>h2 x.1)];show _ = PV.raw (.int .i64 (if j = i0 /\ r = k0 then v else M j r));rw [if_neg (fun x=>h2 x.2)]
 rw [if_neg h];show _ = PV.raw (.int .i64 (if j = i0 /\ r = k0 then v else M j r));rw [if_neg (fun x=>h x.1)]
def a20 (h:∀ i r,i < n -> r < m i -> M' i r = M i r):CoO (.nest e et 1 n m (mg M) none) (.nest e et 1 n m (mg M') none) :=
 ⟨rfl,rfl,rfl,rfl,rfl,fun _ _=>rfl,fun j r c hj hr hc=>CoP.of_eq (by show PV.raw (.int .i64 (M j r)) = PV.raw (.int .i64 (M' j r));rw [h j r hj hr])⟩
def al6 (hk:¬ k < m i):∀ i' r,i' < n -> r < m i' -> jt M hi lo (i + 1) 0 i' r = jt M hi lo i k i' r:=fun i' r h1 h2=>by
 unfold jt;by_cases e2:(i' < i \/ (i' = i /\ r < k)) /\ M i' r = hi
 · rw [if_pos e2,if_pos ⟨by omega,e2.2⟩]
 rw [if_neg e2,if_neg fun e3=>e2 ⟨by
  rcases b5e i' i with h | h
  · exact .inl h
  right;obtain rfl:i' = i:=by omega
  exact ⟨rfl,by omega⟩,e3.2⟩]
def abw {a b j:Nat} (hn:¬ i < n):∀ i' r,i' < n -> r < m i' -> eqM M a b j i' r = jt M (hiI (M a j) (M b j)) (loI (M a j) (M b j)) i 0 i' r:=fun i' r h1 h2=>by
 unfold jt eqM;by_cases e2:M i' r = hiI (M a j) (M b j)
 · rw [if_pos e2,if_pos ⟨by omega,e2⟩]
 rw [if_neg e2,if_neg fun e3=>e2 e3.2]
def a1w {a b j:Nat} (h:M a j = M b j):eqM M a b j = M:=by
 funext i r;unfold eqM;have e1:hiI (M a j) (M b j) = M b j:=by unfold hiI;rw [if_neg b5s,h]
 have e2:loI (M a j) (M b j) = M b j:=by unfold loI;rw [if_neg b5s,h]
 rw [e1,e2];by_cases e:M i r = M b j
 · rw [if_pos e,e]
 rw [if_neg e]
def ul {a b:Nat} {js:List Nat} (h:i < js.length):eqMs M a b (js.take (i + 1)) = eqM (eqMs M a b (js.take i)) a b (js.getD i default):=by
 unfold eqMs;rw [bi h,b5b];rfl
def aj6 (s:AS):(b9 s).length <= 32:=b3v (List.length_filter_le _ _) b5v
def anl {l:List Nat} {j:Nat} (h:j < l.length):l.getD j default ∈ l:=by
 rw [b2r,b2q h];exact b31 h
def aq8 {l:List Rw} (hn:n = l.length):CoO (.arr true 1 e n (xc 1 (nM l) (mg M))) (.arr true 1 e (cz l M).length (lf rC (cz l M))):=by
 subst hn;refine ⟨fun h=>h,rfl,rfl,lj l M,fun i j hi hj=>?_⟩;show CoP (.sl (l.getD i default).length 1 false (mg M i)) (zl ((cz l M).getD i default));rw [a7o hi];refine CoP.sl b5v (.inl rfl) (fun h=>h) fun r c hr hc=>CoP.of_eq ?_;show PV.raw (.int .i64 (M i r)) = PV.raw (.int .i64 (((List.range (l.getD i default).length).map (M i)).getD r default));rw [b2r,b35,b3t hr];rfl
end
end
section
open Go.Proofs
def alr (n:Int) (l:List Rw) (hl:∀ i,i < l.length -> (l.getD i default).length <= 17592186044416) (hl2:l.length <= 5864062014805):cw b6g 125 [.agg [.p (.raw (.int .i64 n)), .p (rl l)]] [] (.v (.agg [.p (.raw (.int .i64 n)), .ref 901 l.length])) [(901, .nest 97 3 1 l.length (nM l) (mg (dj l)) none)] []:=by
 refine hfx (nt:=25) Tryz.func125 ?_;refine sx7 ?_;refine m9 0 ?_;refine m9 1 ?_;refine w_6 ?_;refine m9 2 ?_;refine w_2 ?_;refine a5s 2 1 901 97 3 1 (nM l) (mg (dj l)) b5x rfl rfl rfl rfl ?_;refine w_9 ?_;refine cj (ka 2 (ka 3 (ka 10 (ka 11 kn)))) (kb 1 km) (fun i=>⟨[(12,some (vI i))],[(2,some (.box [.p (.raw (.int .i64 n)), .ref 901 i])),(901,some (.nest 97 3 1 i (nM l) (mg (dj l)) none))]⟩) l.length kk ?_;rintro i hi;refine w_5 ?_;refine hcd (fun h0=>?_) (fun h0=>?_)
 · refine ke ?_;refine fc9 a5w ((a5v (l.getD i default).length false (lf zC (l.getD i default)) (hl i b5s)).swap 0 907) trivial ?_;refine m9 3 ?_;refine r9 4 true ?_;refine w_4 ?_;refine ajr 901 907 rfl rfl ?_;refine w_4 ?_;exact lpx (i + 1) ⟨tt,⟨u9,⟨_,rfl,(ahk rfl rfl)⟩,uu⟩⟩
 obtain rfl:i = l.length:=by omega
 refine w_6 ?_;refine hrr ?_;exact ⟨_,_,rfl,b5u,CoR.refl _,uu⟩
end
section
open Go.Proofs
def aqw (n:Int) (l:List Rw) (s:AS) (a b:Nat) (hl:∀ i,i < l.length -> (l.getD i default).length <= 17592186044416) (hl2:l.length <= 8589934592) (ha:a < l.length) (hb:b < l.length) (hs:∀ j,j ∈ b9 s -> ∀ i,i < l.length -> j < (l.getD i default).length):a8 b6g 130 [pT n l,pA s,pI (a:Int),pI (b:Int)] (ab [pT n (aw (cz l (eqMs (dj l) a b (b9 s))))]):=by
 refine hpx (nt:=76) Tryz.func130 ?_;refine sx7 ?_;refine m9 0 ?_;refine m9 1 ?_;refine w_4 ?_;refine fc9 a5h (alr n l hl b5s) trivial ?_;refine m9 2 ?_;refine w_6 ?_;refine qcx (wgx Tryz.func164) (azt s) ?_;refine w_4 ?_;refine cj (ka 2 (ka 3 (ka 8 (ka 9 (ka 20 (ka 21 kn)))))) (kb 1 (kb 2 km)) (fun q=>⟨[(22,some (vI q))],[(901,some (.nest 97 3 1 l.length (fun i=>(l.getD i default).length) (mg (eqMs (dj l) a b ((b9 s).take q))) none))]⟩) ((b9 s).length) kk ?_;rintro q hq;have hm32:=aj6 s;refine w_5 ?_;refine hcd (fun h0=>?_) (fun h0=>?_)
 ·
  have hjm:((b9 s).getD q default) ∈ b9 s:=anl b5s;have hja:=hs _ hjm a ha;have hjb:=hs _ hjm b hb;refine uw ?_;refine rq rfl rfl rfl rfl rfl ?_ (hp:=(by (try simp only [b44,nM]);(repeat' apply And.intro) <;> first | trivial | rfl | omega | exact b2u rfl));refine w_7 ?_;refine rq rfl rfl rfl rfl rfl ?_ (hp:=(by (try simp only [b44,nM]);(repeat' apply And.intro) <;> first | trivial | rfl | omega | exact b2u rfl));refine sv ?_;refine hcd (fun h1=>?_) (fun h1=>?_)
  ·
   refine w_5 ?_
   first | (refine lpz (q + 1) ⟨tt, ⟨⟨_, rfl, (by rw [ul b5s, a1w b5t]; exact CoO.refl _)⟩, uu⟩⟩ ?_; show q + 1 <= _; omega)
         | (refine lpz (q + 1) ⟨tt,⟨⟨_,rfl,(by rw [ul b5s];exact a20 (abw b5s))⟩,uu⟩⟩ ?_;show q + 1 <= _;omega)
  refine w_9 ?_;refine cj (ka 2 (ka 3 (ka 8 (ka 9 (ka 12 (ka 13 (ka 20 (ka 21 (ka 22 (ka 46 (ka 47 kn))))))))))) (kb 1 (kb 2 km)) (fun i=>⟨[(48,some (vI i))],[(901,some (.nest 97 3 1 l.length (fun i=>(l.getD i default).length) (mg (jt (eqMs (dj l) a b ((b9 s).take q)) (hiI ((eqMs (dj l) a b ((b9 s).take q)) a ((b9 s).getD q default)) ((eqMs (dj l) a b ((b9 s).take q)) b ((b9 s).getD q default))) (loI ((eqMs (dj l) a b ((b9 s).take q)) a ((b9 s).getD q default)) ((eqMs (dj l) a b ((b9 s).take q)) b ((b9 s).getD q default))) i 0)) none))]⟩) l.length ⟨tt,⟨⟨_,rfl,(by rw [aip];exact CoO.refl _)⟩,trivial⟩⟩ ?_;rintro i hi;refine w_5 ?_;refine hcd (fun h2=>?_) (fun h2=>?_)
  ·
   have hli:=hl i b5s;refine tk ?_;refine cj (ka 2 (ka 3 (ka 8 (ka 9 (ka 12 (ka 13 (ka 15 (ka 20 (ka 21 (ka 22 (ka 46 (ka 47 (ka 48 (ka 53 kn)))))))))))))) (kb 1 (kb 2 km)) (fun k=>⟨[(54,some (vI k))],[(901,some (.nest 97 3 1 l.length (fun i=>(l.getD i default).length) (mg (jt (eqMs (dj l) a b ((b9 s).take q)) (hiI ((eqMs (dj l) a b ((b9 s).take q)) a ((b9 s).getD q default)) ((eqMs (dj l) a b ((b9 s).take q)) b ((b9 s).getD q default))) (loI ((eqMs (dj l) a b ((b9 s).take q)) a ((b9 s).getD q default)) ((eqMs (dj l) a b ((b9 s).take q)) b ((b9 s).getD q default))) i k)) none))]⟩) ((l.getD i default).length) kk ?_;rintro k hk;refine w_5 ?_;refine hcd (fun h3=>?_) (fun h3=>?_)
   ·
    refine sv ?_;(iterate 2 refine rq rfl rfl rfl rfl rfl ?_ (hp:=(by (try simp only [b44,nM]);(repeat' apply And.intro) <;> first | trivial | rfl | omega | exact b2u rfl)));refine w_5 ?_;refine hcd (fun h4=>?_) (fun h4=>?_)
    · refine w_6 ?_;refine rq rfl rfl rfl rfl rfl ?_ (hp:=(by (try simp only [b44,nM]);(repeat' apply And.intro) <;> first | trivial | rfl | omega | exact b2u rfl));refine rs rfl rfl rfl rfl rfl ?_ (hp:=(by (try simp only [b44,nM]);(repeat' apply And.intro) <;> first | trivial | rfl | omega | exact b2u rfl));refine w_5 ?_;exact lpx (k + 1) ⟨tt,⟨⟨_,rfl,(by first | exact aeq (aj2 b5t) b5v b5v | (rw [akc b5t];exact CoO.refl _))⟩,uu⟩⟩
    refine w_5 ?_;exact lpx (k + 1) ⟨tt,⟨⟨_,rfl,(by first | exact aeq (aj2 b5t) b5v b5v | (rw [akc b5t];exact CoO.refl _))⟩,uu⟩⟩
   refine w_5 ?_;exact lpx (i + 1) ⟨tt,⟨⟨_,rfl,(a20 (al6 b5s))⟩,uu⟩⟩
  refine w_5 ?_
  first | (refine lpz (q + 1) ⟨tt, ⟨⟨_, rfl, (by rw [ul b5s, a1w b5t]; exact CoO.refl _)⟩, uu⟩⟩ ?_; show q + 1 <= _; omega)
        | (refine lpz (q + 1) ⟨tt,⟨⟨_,rfl,(by rw [ul b5s];exact a20 (abw b5s))⟩,uu⟩⟩ ?_;show q + 1 <= _;omega)
 obtain rfl:q = (b9 s).length:=by omega
 refine w_2 ?_;refine apq 901 rfl ?_;refine w_2 ?_;refine jq rfl rfl rfl rfl rfl rfl abj ((a61 n (cz l (eqMs (dj l) a b (b9 s))) (by rw [lj];omega)).swap 900 901) (⟨⟨CoP.refl _,congrArg (HV.ref 901) (lj _ _).symm,trivial⟩,trivial⟩) ⟨⟨_,rfl,(by rw [b3k];exact aq8 rfl)⟩,trivial⟩ rfl rfl ?_;refine v_2 ?_;exact CoL.refl _
end
section
def oi (n:Int) (l:List Rw) (row:Rw):Int × List Rw × Int:=if 256 < (aw (l ++ [row])).length then (0,[],3) else (n,aw (l ++ [row]),0)
def ce {s:Nat} {f:Nat -> Nat -> PV}:CoP (.sl 0 s true f) (rl []):=CoP.sl rfl (.inr rfl) (fun h=>by cases h) fun i j hi _=>absurd hi (b2y i)
def fdE (n:Int) (l:List Rw) (a b:Nat) (x:Fd):Int × List Rw × Int:=if jj (l.getD a default) (l.getD b default) x.lhs = true then (n,aw (cz l (eqMs (dj l) a b (b9 x.rhs))),0) else (0,[],1)
def mvE (n:Int) (l:List Rw) (a b:Nat) (x:Fd):Int × List Rw × Int:=if jj (l.getD a default) (l.getD b default) x.lhs = true then oi n l (d7 (l.getD a default) (l.getD b default) (x.lhs ||| x.rhs)) else (0,[],1)
def j4 {n:Int} {l:List Rw} (h:tok n l = true):0 <= n /\ n <= 16 /\ l.length <= 256 /\ ∀ i,i < l.length -> (l.getD i default).length = n.toNat:=by
 unfold tok at h;rw [b2x,decide_eq_true_iff,decide_eq_true_iff] at h;obtain ⟨⟨h0,h1,h2⟩,h3⟩:=h;refine ⟨h0,h1,h2,fun i hi=>?_⟩;have:=h3 i hi;unfold kz at this;rw [b2x,b2x,decide_eq_true_iff] at this;omega
def a5e {n:Int} (h0:0 <= n) (h1:n <= 16) {x:Fd} (h:inU n x = true) {j:Nat} (hj:j ∈ b9 x.rhs):j < n.toNat:=by
 obtain ⟨_,h3⟩:=(aem h0 h1).1 h;obtain ⟨h4,h5⟩:=zr.1 hj;have h6:x.rhs >>> n.toNat = 0:=(x3 (n:=n.toNat) b5s).1 (by unfold ai at h3;rwa [b42 b5s] at h3)
 rcases b5e j n.toNat with h | h
 · exact h
 rw [auj.1 h6 j h4 h] at h5;cases h5
end
section
open Go.Proofs
def az8 (n:Int) (l:List Rw) (row:Rw) (hl:∀ i,i < l.length -> (l.getD i default).length <= 17592186044416) (hl2:l.length <= 4294967296):a8 b6g 131 [pT n l,pZ row] (ab [pT (oi n l row).1 (oi n l row).2.1,pI (oi n l row).2.2]):=by
 refine hpx (nt:=23) Tryz.func131 ?_;refine sx7 ?_;refine m9 0 ?_;refine m9 1 ?_;refine w_5 ?_;refine fc9 a5h (af4 n l hl b5s) trivial ?_;refine m9 2 ?_;refine w_7 ?_;refine m9 3 ?_;refine r9 4 true ?_;refine w_6 ?_;refine jq rfl rfl rfl rfl rfl rfl abj ((a61 n (l ++ [row]) b66).swap 900 901) (⟨⟨CoP.refl _,congrArg (HV.ref 901) b5v,trivial⟩,trivial⟩) ⟨⟨_,rfl,mw rfl (CoP.refl _)⟩,trivial⟩ rfl rfl ?_;refine dq ?_;refine hcd (fun h0=>?_) (fun h0=>?_)
 · refine w_6 ?_;refine hrr ?_;have he:oi n l row = (0,[],3):=if_pos b5s;exact f9 rfl rfl (by rw [he];exact ⟨CoC.agg ⟨CoP.refl _,ce,trivial⟩,CoC.refl _,trivial⟩)
 refine w_7 ?_;refine hrr ?_;have he:oi n l row = (n,aw (l ++ [row]),0):=if_neg b5s;exact f9 rfl rfl (by rw [he];exact CoL.refl _)
def acb:goodFn b6g 91:=wgx Tryz.func91
def af3 (n:Int) (l:List Rw) (p m:List Fd) (i a b:Nat) (hT:tok n l = true) (ha:a < l.length) (hb:b < l.length) (hi:i < p.length) (hu:inU n (p.getD i default) = true):a8 b6g 91 [pT n l,pP (fdl p),pP (fdl m), .agg [.raw (.bool false), .raw (.int .i64 (i:Int)), .raw (.int .i64 (a:Int)), .raw (.int .i64 (b:Int))]] (ab [pT (fdE n l a b (p.getD i default)).1 (fdE n l a b (p.getD i default)).2.1,pI (fdE n l a b (p.getD i default)).2.2]):=by
 refine hpx (nt:=75) Tryz.func91 ?_;refine dc ?_;obtain ⟨hn0,hn16,hl256,hrow⟩:=j4 hT;have hra:=hrow a ha;have hrb:=hrow b hb;have hbig:∀ i,i < l.length -> (l.getD i default).length <= 17592186044416:=fun i hi=>by rw [hrow i hi];omega
 refine gy ?_;refine m9 0 ?_;refine m9 1 ?_;refine m9 2 ?_;refine awj ?_;refine w_7 ?_;refine qcx vr (a06 (l.getD a default) (l.getD b default) (p.getD i default).lhs b5s b5s) ?_;refine w_2 ?_;refine hcv (fun h0=>?_) (fun h0=>?_)
 · refine w_6 ?_;refine hrr ?_;have he:fdE n l a b (p.getD i default) = (0,[],1):=if_neg b62;exact f9 rfl rfl (by rw [he];exact ⟨CoC.agg ⟨CoP.refl _,ce,trivial⟩,CoC.refl _,trivial⟩)
 refine up ?_;refine qcx (wgx Tryz.func130) (aqw n l (p.getD i default).rhs a b hbig b5s ha hb (fun j hj i hi=>by rw [hrow i hi];exact a5e hn0 hn16 hu hj)) ?_;refine w_4 ?_;refine hrr ?_;have he:fdE n l a b (p.getD i default) = (n,aw (cz l (eqMs (dj l) a b (b9 (p.getD i default).rhs))),0):=if_pos b62;exact f9 rfl rfl (by rw [he];exact CoL.refl _)
def ado (n:Int) (l:List Rw) (p m:List Fd) (i a b:Nat) (hT:tok n l = true) (ha:a < l.length) (hb:b < l.length) (hi:i < m.length):a8 b6g 91 [pT n l,pP (fdl p),pP (fdl m), .agg [.raw (.bool true), .raw (.int .i64 (i:Int)), .raw (.int .i64 (a:Int)), .raw (.int .i64 (b:Int))]] (ab [pT (mvE n l a b (m.getD i default)).1 (mvE n l a b (m.getD i default)).2.1,pI (mvE n l a b (m.getD i default)).2.2]):=by
 refine hpx (nt:=75) Tryz.func91 ?_;refine dc ?_;obtain ⟨hn0,hn16,hl256,hrow⟩:=j4 hT;have hra:=hrow a ha;have hrb:=hrow b hb;have hbig:∀ i,i < l.length -> (l.getD i default).length <= 17592186044416:=fun i hi=>by rw [hrow i hi];omega
 refine gy ?_;refine m9 0 ?_;refine m9 1 ?_;refine m9 2 ?_;refine awj ?_;refine w_4 ?_;refine m9 3 ?_;refine w_9 ?_;refine qcx vr (a06 (l.getD a default) (l.getD b default) (m.getD i default).lhs b5s b5s) ?_;refine w_2 ?_;refine hcv (fun h0=>?_) (fun h0=>?_)
 · refine w_6 ?_;refine hrr ?_;have he:mvE n l a b (m.getD i default) = (0,[],1):=if_neg b62;exact f9 rfl rfl (by rw [he];exact ⟨CoC.agg ⟨CoP.refl _,ce,trivial⟩,CoC.refl _,trivial⟩)
 refine fl ?_;refine rc rfl rfl rfl rfl rfl rfl (wgx Tryz.func132) (air (l.getD a default) (l.getD b default) ((m.getD i default).lhs ||| (m.getD i default).rhs) b5s b5s) (⟨CoC.refl _,CoC.refl _,cci (by rw [bOr];rfl),trivial⟩) rfl rfl ?_;refine qcx (wgx Tryz.func131) (az8 n l (d7 (l.getD a default) (l.getD b default) ((m.getD i default).lhs ||| (m.getD i default).rhs)) hbig b5s) ?_;refine w_6 ?_;refine hrr ?_;have he:mvE n l a b (m.getD i default) = oi n l (d7 (l.getD a default) (l.getD b default) ((m.getD i default).lhs ||| (m.getD i default).rhs)):=if_pos b62;exact f9 rfl rfl (by rw [he];exact CoL.refl _)
end
section
def j7 (P:Nat -> Nat -> Nat -> Bool) (I L:Nat):Option (Nat × Nat × Nat) :=
 (List.range I).findSome? fun i=>(List.range L).findSome? fun a=>((List.range L).find? fun b=>P i a b).map fun b=>(i,a,b)
def a5c {α:Type} {f:Nat -> Option α}:∀ {n k:Nat} {x:α},k < n -> f k = some x -> (∀ j,j < k -> f j = none) -> (List.range n).findSome? f = some x
 | n + 1,k,x,hk,h,hb=>by
  rw [List.range_succ,List.findSome?_append];by_cases e:k < n
  · rw [a5c e h hb];rfl
  obtain rfl:k = n:=by omega
  have:(List.range k).findSome? f = none:=by
   rw [b5a];intro j hj;exact hb j (b3e.1 hj)
  rw [this];simp [h]
def a6d {α:Type} {f:Nat -> Option α} {n:Nat} (h:∀ j,j < n -> f j = none):(List.range n).findSome? f = none:=by
 rw [b5a];intro j hj;exact h j (b3e.1 hj)
def a11 {p:Nat -> Bool} {n:Nat} (h:∀ j,j < n -> p j = false):(List.range n).find? p = none:=by
 rw [List.find?_eq_none];intro j hj;rw [h j (b3e.1 hj)];decide
def asa {p:Nat -> Bool} {n k:Nat} (hk:k < n) (h:p k = true) (hb:∀ j,j < k -> p j = false):(List.range n).find? p = some k:=by
 induction n with
 | zero=>omega
 | succ n ih =>
  rw [List.range_succ,List.find?_append];by_cases e:k < n
  · rw [ih e];rfl
  obtain rfl:k = n:=by omega
  rw [a11 hb];simp [h]
section
variable {P:Nat -> Nat -> Nat -> Bool}
def a1h {I L i a b:Nat} (hi:i < I) (ha:a < L) (hb:b < L) (h:P i a b = true) (h1:∀ i',i' < i -> ∀ a',a' < L -> ∀ b',b' < L -> P i' a' b' = false) (h2:∀ a',a' < a -> ∀ b',b' < L -> P i a' b' = false) (h3:∀ b',b' < b -> P i a b' = false):
 j7 P I L = some (i,a,b):=by
 refine a5c hi ?_ fun j hj=>a6d fun a' ha'=>by rw [a11 fun b' hb'=>h1 j hj a' ha' b' hb'];rfl
 refine a5c ha ?_ fun a' ha'=>by rw [a11 fun b' hb'=>h2 a' ha' b' hb'];rfl
 rw [asa hb h h3];rfl
def a1t {I L:Nat} (h:∀ i',i' < I -> ∀ a',a' < L -> ∀ b',b' < L -> P i' a' b' = false):j7 P I L = none :=
 a6d fun i hi=>a6d fun a ha=>by rw [a11 fun b hb=>h i hi a ha b hb];rfl
def eg (l:List Rw) (x:Fd) (a b:Nat):Bool:=jj (l.getD a default) (l.getD b default) x.lhs && !jj (l.getD a default) (l.getD b default) x.rhs
def ef (l:List Rw) (x:Fd) (a b:Nat):Bool:=jj (l.getD a default) (l.getD b default) x.lhs && !(l.any fun r=>decide (r = d7 (l.getD a default) (l.getD b default) (x.lhs ||| x.rhs)))
end
section
variable {l:List Rw} {x:Fd} {a b:Nat}
def ars (h:jj (l.getD a default) (l.getD b default) x.lhs = true) (h2:jj (l.getD a default) (l.getD b default) x.rhs = false):eg l x a b = true:=by unfold eg;rw [h,h2];rfl
def aa5 (h:jj (l.getD a default) (l.getD b default) x.lhs = false):eg l x a b = false:=by unfold eg;rw [h];rfl
def a35 (h:jj (l.getD a default) (l.getD b default) x.rhs = true):eg l x a b = false:=by unfold eg;rw [h];simp
def ap2 (h:jj (l.getD a default) (l.getD b default) x.lhs = true) (h2:(l.any fun r=>decide (r = d7 (l.getD a default) (l.getD b default) (x.lhs ||| x.rhs))) = false):ef l x a b = true:=by unfold ef;rw [h,h2];rfl
def aa2 (h:jj (l.getD a default) (l.getD b default) x.lhs = false):ef l x a b = false:=by unfold ef;rw [h];rfl
def a32 (h:(l.any fun r=>decide (r = d7 (l.getD a default) (l.getD b default) (x.lhs ||| x.rhs))) = true):ef l x a b = false:=by unfold ef;rw [h];simp
end
abbrev St:=Bool × Nat × Nat × Nat
abbrev St.pc (s:St):PC:=.agg [.raw (.bool s.1), .raw (.int .i64 (s.2.1:Int)), .raw (.int .i64 (s.2.2.1:Int)), .raw (.int .i64 (s.2.2.2:Int))]
def d9 (l:List Rw) (p m:List Fd):Option St :=
 match j7 (fun i a b=>eg l (p.getD i default) a b) p.length l.length with
 | some x=>some (false,x)
 | none=>(j7 (fun i a b=>ef l (m.getD i default) a b) m.length l.length).map fun x=>(true,x)
def arm {l:List Rw} {p m:List Fd} {x:Nat × Nat × Nat} (h:j7 (fun i a b=>eg l (p.getD i default) a b) p.length l.length = some x):d9 l p m = some (false,x):=by unfold d9;rw [h]
def aqr {l:List Rw} {p m:List Fd} {x:Nat × Nat × Nat} (h0:j7 (fun i a b=>eg l (p.getD i default) a b) p.length l.length = none) (h:j7 (fun i a b=>ef l (m.getD i default) a b) m.length l.length = some x):d9 l p m = some (true,x):=by unfold d9;rw [h0,h];rfl
def arf {l:List Rw} {p m:List Fd} (h0:j7 (fun i a b=>eg l (p.getD i default) a b) p.length l.length = none) (h:j7 (fun i a b=>ef l (m.getD i default) a b) m.length l.length = none):d9 l p m = none:=by unfold d9;rw [h0,h];rfl
end
section
open Go.Proofs
def atn (n:Int) (l:List Rw) (p m:List Fd) (hT:tok n l = true):a8 b6g 126 [pT n l,pP (fdl p),pP (fdl m)] (ab [St.pc ((d9 l p m).getD (false,0,0,0)),pB (d9 l p m).isSome]):=by
 refine hpx (nt:=132) Tryz.func126 ?_;refine dc ?_;obtain ⟨hn0,hn16,hl256,hrow⟩:=j4 hT;refine ci 1 rfl fun hn1=>?_;refine ci 2 rfl fun hn2=>?_;refine gy ?_;refine m9 0 ?_;refine m9 1 ?_;refine dq ?_;refine ah (ι:=Nat) (ka 2 (ka 3 (ka 6 (ka 16 (ka 17 kn))))) (kb 0 (kb 1 km)) (fun i=>⟨[(18,some (vI i))],[]⟩) (fun i=>i <= p.length /\ (∀ i',i' < i -> ∀ a',a' < l.length -> ∀ b',b' < l.length -> eg l (p.getD i' default) a' b' = false)) (fun i=>p.length - i) (0) (⟨b2w _,b7⟩) kk ?_;rintro i ⟨hi,hI⟩;refine w_5 ?_;refine hcd (fun h0=>?_) (fun h0=>?_)
 ·
  refine w_8 ?_;refine m9 2 ?_;refine fl ?_;refine ah (ι:=Nat) (ka 2 (ka 3 (ka 6 (ka 8 (ka 9 (ka 16 (ka 17 (ka 18 (ka 25 kn))))))))) (kb 0 (kb 1 (kb 2 km))) (fun a=>⟨[(26,some (vI a))],[]⟩) (fun a=>a <= l.length /\ (∀ a',a' < a -> ∀ b',b' < l.length -> eg l (p.getD i default) a' b' = false)) (fun a=>l.length - a) (0) (⟨b2w _,b7⟩) kk ?_;rintro a ⟨ha,hA⟩;refine w_5 ?_;refine hcd (fun h1=>?_) (fun h1=>?_)
  ·
   refine tk ?_;refine ah (ι:=Nat) (ka 2 (ka 3 (ka 6 (ka 8 (ka 9 (ka 10 (ka 16 (ka 17 (ka 18 (ka 25 (ka 26 (ka 31 kn)))))))))))) (kb 0 (kb 1 (kb 2 km))) (fun b=>⟨[(32,some (vI b))],[]⟩) (fun b=>b <= l.length /\ (∀ b',b' < b -> eg l (p.getD i default) a b' = false)) (fun b=>l.length - b) (0) (⟨b2w _,b7⟩) kk ?_;rintro b ⟨hb,hB⟩;refine w_5 ?_;refine hcd (fun h2=>?_) (fun h2=>?_)
   ·
    refine afv ?_;refine qcx vr (a06 (l.getD a default) (l.getD b default) (p.getD i default).lhs (by rw [hrow _ b5s,hrow _ b5s]) (by rw [hrow _ b5s];omega)) ?_;refine qy ?_;refine ae rfl rfl (fun r3=>?_) (fun r3=>?_)
    ·
     have h3:=r3;(iterate 12 refine qy ?_ (hg:=(gtt r3)));refine qcx vr (a06 (l.getD a default) (l.getD b default) (p.getD i default).rhs (by rw [hrow _ b5s,hrow _ b5s]) (by rw [hrow _ b5s];omega)) ?_ (hg:=(gtt r3));refine qy ?_ (hg:=(gtt r3));refine w_3 ?_;refine am _ rfl (fun r4=>?_) (fun r4=>?_)
     · have h4:=ez (bp r3 r4);refine w_9 ?_;refine hrr ?_;have he:=arm (m:=m) (a1h (P:=fun i a b=>eg l (p.getD i default) a b) (i:=i) (a:=a) (b:=b) b5s b5s b5s (ars b5t b5t) hI hA hB);exact f9 rfl rfl (by rw [he];exact CoL.refl _)
     have h4:=f0 (bp r3 r4);refine w_5 ?_;refine lpz (b + 1) kk ?_;exact ⟨by show b + 1 <= _;omega,av hB (by first | exact aa5 b5t | exact a35 b5t)⟩
    have h3:=r3;(iterate 14 refine k9 (gft r3) ?_);refine w_9 ?_;refine lpz (b + 1) kk ?_
    exact ⟨by show b + 1 <= _;omega,av hB (by first | exact aa5 b5t | exact a35 b5t)⟩
   refine w_5 ?_;refine lpz (a + 1) kk ?_;exact ⟨by show a + 1 <= _;omega,av hA (fun b' hb'=>hB b' b5s)⟩
  refine w_5 ?_;refine lpz (i + 1) kk ?_;exact ⟨by show i + 1 <= _;omega,av hI (fun a' ha'=>hA a' b5s)⟩
 obtain rfl:i = p.length:=by omega
 have hno:=a1t (P:=fun i a b=>eg l (p.getD i default) a b) (I:=p.length) (L:=l.length) hI;refine w_9 ?_;refine ah (ι:=Nat) (ka 3 (ka 6 (ka 71 (ka 72 kn)))) (kb 0 (kb 1 km)) (fun k=>⟨[(73,some (vI k))],[]⟩) (fun k=>k <= m.length /\ (∀ i',i' < k -> ∀ a',a' < l.length -> ∀ b',b' < l.length -> ef l (m.getD i' default) a' b' = false)) (fun k=>m.length - k) (0) (⟨b2w _,b7⟩) kk ?_;rintro k ⟨hk,hK⟩;refine w_5 ?_;refine hcd (fun h5=>?_) (fun h5=>?_)
 ·
  refine w_8 ?_;refine m9 3 ?_;refine fl ?_;refine ah (ι:=Nat) (ka 3 (ka 6 (ka 12 (ka 13 (ka 71 (ka 72 (ka 73 (ka 80 kn)))))))) (kb 0 (kb 1 (kb 3 km))) (fun c=>⟨[(81,some (vI c))],[]⟩) (fun c=>c <= l.length /\ (∀ a',a' < c -> ∀ b',b' < l.length -> ef l (m.getD k default) a' b' = false)) (fun c=>l.length - c) (0) (⟨b2w _,b7⟩) kk ?_;rintro c ⟨hc,hC⟩;refine w_5 ?_;refine hcd (fun h6=>?_) (fun h6=>?_)
  ·
   refine tk ?_;refine ah (ι:=Nat) (ka 3 (ka 6 (ka 12 (ka 13 (ka 14 (ka 71 (ka 72 (ka 73 (ka 80 (ka 81 (ka 86 kn))))))))))) (kb 0 (kb 1 (kb 3 km))) (fun d=>⟨[(87,some (vI d))],[]⟩) (fun d=>d <= l.length /\ (∀ b',b' < d -> ef l (m.getD k default) c b' = false)) (fun d=>l.length - d) (0) (⟨b2w _,b7⟩) kk ?_;rintro d ⟨hd,hD⟩;refine w_5 ?_;refine hcd (fun h7=>?_) (fun h7=>?_)
   ·
    refine afv ?_;refine qcx vr (a06 (l.getD c default) (l.getD d default) (m.getD k default).lhs (by rw [hrow _ b5s,hrow _ b5s]) (by rw [hrow _ b5s];omega)) ?_;refine qy ?_;refine ae rfl rfl (fun r8=>?_) (fun r8=>?_)
    ·
     have h8:=r8;(iterate 16 refine qy ?_ (hg:=(gtt r8)));refine rc rfl rfl rfl rfl rfl rfl (wgx Tryz.func132) (air (l.getD c default) (l.getD d default) ((m.getD k default).lhs ||| (m.getD k default).rhs) (by rw [hrow _ b5s,hrow _ b5s]) (by rw [hrow _ b5s];omega)) (⟨CoC.refl _,CoC.refl _,cci (by rw [bOr];rfl),trivial⟩) rfl (gtt r8) ?_;refine qcx zq (a4y n l (d7 (l.getD c default) (l.getD d default) ((m.getD k default).lhs ||| (m.getD k default).rhs))) ?_ (hg:=(gtt r8));refine qy ?_ (hg:=(gtt r8));refine w_3 ?_;refine am _ rfl (fun r9=>?_) (fun r9=>?_)
     · have h9:=ez (bp r8 r9);refine w_9 ?_;refine hrr ?_;have he:=aqr hno (a1h (P:=fun i a b=>ef l (m.getD i default) a b) (i:=k) (a:=c) (b:=d) b5s b5s b5s (ap2 b5t b5t) hK hC hD);exact f9 rfl rfl (by rw [he];exact CoL.refl _)
     have h9:=f0 (bp r8 r9);refine w_5 ?_;refine lpz (d + 1) kk ?_;exact ⟨by show d + 1 <= _;omega,av hD (by first | exact aa2 b5t | exact a32 b5t)⟩
    have h8:=r8;(iterate 19 refine k9 (gft r8) ?_);refine w_9 ?_;refine lpz (d + 1) kk ?_
    exact ⟨by show d + 1 <= _;omega,av hD (by first | exact aa2 b5t | exact a32 b5t)⟩
   refine w_5 ?_;refine lpz (c + 1) kk ?_;exact ⟨by show c + 1 <= _;omega,av hC (fun b' hb'=>hD b' b5s)⟩
  refine w_5 ?_;refine lpz (k + 1) kk ?_;exact ⟨by show k + 1 <= _;omega,av hK (fun a' ha'=>hC a' b5s)⟩
 refine w_7 ?_;refine hrr ?_;have he:=arf hno (a1t (P:=fun i a b=>ef l (m.getD i default) a b) (I:=m.length) (L:=l.length) fun j hj=>hK j b5s);exact f9 rfl rfl (by rw [he];exact CoL.refl _)
end
end Go.Hx

/- A part of the proof: SrZ Ch5 X6 X7 X8 Ch6 X9 X10 Ch7 X11 Ch8. -/
import Derived.Shelf.SlSortCmp.NoneTotal
import Derived.Test.YteklilhbjjofbaaGreatDoorLd20
import Derived.Test.YteklilhbjjofbaaGreatDoorLd21
set_option linter.all false
set_option maxRecDepth 100000
namespace Go.Hx
section
open Go.Proofs Go.RowKit Go.Sort
section
variable {w:World}
def af6 {w':World} (h:Below w.heap.size w w'):∃ q os,w' = grow (w.drewN q) os:=by
 refine ⟨w'.drawn - w.drawn,w'.heap.extract w.heap.size w'.heap.size, ?_⟩;have hd:=h.drawn;obtain ⟨h1,h2,h3,h4,h5,_⟩:=h
 cases w with
 | mk hp tp dr os out =>
 cases w' with
 | mk hp' tp' dr' os' out' =>
 dsimp only at *;subst h1 h2 h3;unfold grow World.drewN;simp only [World.mk.injEq,true_and,and_true];refine ⟨?_,by omega⟩;apply Array.ext_getElem?;intro k;rw [Array.getElem?_append];by_cases hk:k < hp.size
 · rw [if_pos hk,h5 k hk]
 rw [if_neg hk,Array.getElem?_extract];by_cases hk2:k < hp'.size
 · rw [if_pos b8i]
   congr 1;omega
 rw [if_neg b8i,b74 b8i]
variable {os:Array Obj} {α:Type} {d:Array α} {enc:α -> Value}
def afi [Inhabited α] {g m:Nat} {cur:Array Value} {e:TypeId} {fr:Nat × Nat} (h:w.heap[g]? = some (.cells cur e fr)):
 (sortWorld enc w g 0 m d os).heap[g]? = some (.cells (putCells enc 0 d cur) e fr):=by
 have hlt:=(b5e.1 h).1;unfold sortWorld;rw [heap_grow_old _ _ (by simpa using hlt)];unfold putRow mapBlock;simp only [heap_ahead,b8f,if_true,h];rfl
def ws [Inhabited α] {g m:Nat} {b:Nat} (hb:b < w.heap.size) (hne:b ≠ g):(sortWorld enc w g 0 m d os).heap[b]? = w.heap[b]?:=by
 unfold sortWorld;rw [heap_grow_old _ _ (by simpa using hb)];unfold putRow mapBlock;simp only [heap_ahead,b8f,if_neg (Ne.symm hne)]
def afr [Inhabited α] {g m:Nat}:Below 0 w (sortWorld enc w g 0 m d os) :=
 ⟨rfl,rfl,rfl,by unfold sortWorld;simp,fun k hk=>absurd hk (b5i k),by unfold sortWorld grow;simp⟩
def alz [Inhabited α] {cur:Array Value} (h:d.size <= cur.size):(putCells enc 0 d cur).toList.take d.size = d.toList.map enc:=by
 apply b7c;intro k;rw [b69,b5s,b72,b72];by_cases hk:k < d.size
 · rw [if_pos hk]
   unfold putCells;rw [Array.getElem?_mapIdx,b6e b8i,b6e hk];simp only [b63,b5q,b83];rw [if_pos ⟨b5h _,hk⟩,getElem!_pos d k hk]
 rw [if_neg hk,b74 b8i];rfl
def aib {P:Program} {ρ:Go.Shelf.Ren} {β:Type} [Inhabited β] (L:SlLaysF.n6 P ρ) (pc:β -> PV) (h1:∀ imm x v,am imm (pc x) v -> v.oneCell' = true) (cf:β -> β -> Int) (hO:SWO (ltOf cf)) (hT:∀ x y,(ltOf cf) x y = false -> (ltOf cf) y x = false -> x = y)
 (g:Nat) (caps:Nat -> PV) (hg:∀ args w,(callFunc g args).run P w = .ok (.enter g args) w) (hc:∀ x y,a8 P g [.one (pc x), .one (pc y)] (ae [.one (.raw (.int .i64 (cf x y)))])) (id:Nat) (e:TypeId) (l:List β) (hsz:l.length <= 8589934592) :
 cq P (ρ.f 6) [.one (.ref id l.length), .one (.p (.fn g 0 caps))] [(id, .arr true 1 e l.length (lf (fun x _=>pc x) l))] (.tup [])
  [(id, .arr true 1 e l.length (lf (fun x _=>pc x) (l.mergeSort fun x y=>!(ltOf cf) y x)))] [id]:=by
 intro w c us hM hus
 match us,hus with
 | [u,v],⟨hu,hv,_⟩ =>
  obtain ⟨cs,rfl,hcl,_⟩:=hv;have hcs:cs = []:=b6s hcl;subst hcs;have hl1:lk [(id,a6.arr true 1 e l.length (lf (fun x _=>pc x) l))] id = some (.arr true 1 e l.length (lf (fun x _=>pc x) l)):=by simp [lk]
  have hu2:=(hu.2.2 _ _ _ _ hl1 rfl).2 rfl;subst hu2;have hob:=hM.objs id _ hl1;obtain ⟨h0,hmax,h5⟩:=hob;have hlen:(l.mergeSort fun x y=>!(ltOf cf) y x).length = l.length:=b8g _
  have hev:∀ f':Nat -> Nat -> PV,Evo c (lk [(id,a6.arr true 1 e l.length (lf (fun x _=>pc x) l))]) c (lk [(id,a6.arr true 1 e l.length f')]) id:=fun f' =>
   .inr (.inr ⟨_, .arr true 1 e l.length f',1,e,l.length,l.length,hl1,rfl,by simp [lk],rfl,b5g _,fun _=>rfl,fun _ _ _ _ _ _ _ h=>by cases h⟩)
  rcases b6m l.length with hz | hpos
  ·
   have hl:l = []:=b6s hz;subst hl
   have hform:∃ ad cap,c.own id = .slice ad 0 cap:=by
    rcases h5 with ⟨_,xs,h2,_⟩ | ⟨_,_,ad,cap,hv,_⟩
    · rcases h2.2 with ⟨hv,_⟩ | ⟨g,cap,cur,hv,_⟩
      · exact ⟨none,0,hv⟩
      exact ⟨_,cap,hv⟩
    exact ⟨ad,cap,hv⟩
   obtain ⟨ad,cap,hown⟩:=hform;have hms:([]:List β).mergeSort (fun x y=>!(ltOf cf) y x) = []:=by simp
   rw [hown,hms];refine (AnyF.slices_SortFunc_none { L with } ad cap (.func (.func g) #[] #[]) w).mono ?_;rintro e' w' ⟨rfl,rfl⟩
   exact ⟨_,c,rfl,⟨[],rfl,trivial⟩,hM,Below.refl _ _,fun _ _ _=>⟨rfl,rfl⟩,fun id0 ob b ho hb=>.inr ⟨id0,ob,ho,hb⟩,fun id0 hid=>by
    rw [b61.1 hid]
    exact Evo.refl _ _ _⟩
  obtain ⟨h6,xs,h2,h4⟩:c.blk id = gj (c.own id) /\ ∃ xs,w.ownsRow 0 e 1 (c.own id) l.length xs /\ ∀ i j,i < l.length -> j < 1 -> ∃ x,xs[i * 1 + j]? = some x /\ am c.imm (lf (fun x _=>pc x) l i j) x:=by
   rcases h5 with h5 | ⟨h6 | h6,_⟩
   · exact h5
   · cases h6
   omega
  obtain ⟨hxl,hrow⟩:=h2
  rcases hrow with ⟨_,hz⟩ | ⟨b,cap,cur,hown,hbase,hheap,hnc,hcm,hcs,htake⟩
  · omega
  have hblk:c.blk id b:=by rw [h6,hown];rfl
  have hlt:b < w.heap.size:=(b5e.1 hheap).1
  have hval:∀ i,i < l.length -> ∃ x,cur[i]? = some x /\ am c.imm (pc (l.getD i default)) x:=fun i hi=>by
   obtain ⟨x,hx,hr⟩:=h4 i 0 hi b8i;rw [Nat.mul_one,b73,<- htake,b69,if_pos b8i,b72] at hx;exact ⟨x,hx,hr⟩
  let A:={ p:β × Value // am c.imm (pc p.1) p.2 }
  let enc:A -> Value:=fun p=>p.1.2
  let fst:A -> β:=fun p=>p.1.1
  let cf':A -> A -> Int:=fun p q=>cf (fst p) (fst q)
  have hO':SWO (ltOf cf'):=⟨fun x=>hO.irrefl _,fun x y z=>hO.trans _ _ _,fun x y z=>hO.ntrans _ _ _⟩
  obtain ⟨d,hds,hdv⟩:∃ d:Array A,d.size = l.length /\ ∀ i,(hi:i < d.size) -> cur[i]? = some (enc d[i]) /\ fst d[i] = l.getD i default:=by
   refine ⟨Array.ofFn (n:=l.length) fun i=>⟨(l.getD i default,(hval i i.2).choose),(hval i i.2).choose_spec.2⟩,by simp,fun i hi=>?_⟩;rw [Array.getElem_ofFn];exact ⟨(hval i (by simpa using hi)).choose_spec.1,rfl⟩
  have hd0:0 < d.size:=by omega
  haveI:Inhabited A:=⟨d[0]⟩;have hen:∀ x:A,(enc x).oneCell' = true:=fun x=>h1 _ _ _ x.2
  have hH:Holds enc w b 0 d:=fun j hj=>by
   rw [b5q];refine ⟨?_,by simp [World.frozen?,hheap]⟩;rw [getElem!_pos d j hj];simp [World.cell?,hheap,(hdv j hj).1]
  have hcmp:CmpLays1 P g #[] enc cf' b 0 d.size w:=by
   intro m os dk hdk x y
   have hcimm:∀ b' ob,c.imm b' = some ob -> (sortWorld enc w b 0 m dk os).heap[b']? = some ob:=fun b' ob hb'=>by
    have hne:b' ≠ b:=fun he=>by
     have:=hM.sep id _ b hl1 hblk;rw [<- he,hb'] at this;cases this
    have hw:=hM.imm b' ob hb';rw [ws (b5e.1 hw).1 hne];exact hw
   have h:=hc (fst x) (fst y) (sortWorld enc w b 0 m dk os) c.imm [enc x,enc y] c.tab hcimm ⟨x.2,y.2,trivial⟩;refine h.mono ?_;rintro e' w' ⟨v,imm',rfl,hr,_,_,hb⟩;obtain ⟨q,os',hq⟩:=af6 hb;exact ⟨by rw [hr.1],q,os',hq⟩
  have hS:=Any.slices_SortFunc L enc hen cf' hO' g #[] b 0 cap d w hg hcmp hH hlt b8i;rw [hds] at hS;rw [hown];refine Calls.mono hS ?_;rintro e' w' ⟨rfl,d',m,os,hperm,hsorted,rfl⟩;have hsz':d'.size = l.length:=by rw [hperm.1,hds]
  obtain ⟨S,hSl,hSp⟩:∃ S:List A,S = d'.toList /\ S.map fst = l.mergeSort fun x y=>!(ltOf cf) y x:=by
   refine ⟨_,rfl, ?_⟩
   have hp:(d'.toList.map fst).Perm l:=by
    obtain ⟨_,_,hp⟩:=hperm;have e1:d'.extract 0 l.length = d':=by rw [<- hsz'];exact Array.extract_size
    have e2:d.extract 0 l.length = d:=by rw [<- hds];exact Array.extract_size
    rw [e1,e2] at hp;refine (hp.map fst).trans ?_
    have:d.toList.map fst = l:=by
     refine jw (by simp [hds]) fun j hj=>?_;have hj:j < d.size:=by simpa using hj
     rw [<- (hdv j hj).2,b5c,b5s,b72,b6e hj];rfl
    rw [this]
   refine List.Perm.eq_of_pairwise (le:=fun x y=>(!(ltOf cf) y x) = true) ?_ ?_ ?_ (hp.trans (List.mergeSort_perm _ _).symm)
   · intro a b _ _ h1 h2
     simp only [b6j] at h1 h2;exact hT a b h2 h1
   · rw [List.pairwise_map,b7d]
     intro i j hi hj hij;have hi':i < d'.size:=by simpa using hi
     have hj':j < d'.size:=by simpa using hj
     have:=hsorted i j (b5h _) hij b8i;rw [getElem!_pos d' j hj',getElem!_pos d' i hi'] at this;simp only [Array.getElem_toList,b6j];exact this
   refine List.pairwise_mergeSort ?_ ?_ _
   · intro a b c h1 h2
     simp only [b6j] at h1 h2 ⊢;exact hO.ntrans c b a h2 h1
   intro a b
   cases h:(ltOf cf) b a with
   | false=>simp
   | true=>simp [hO.asymmA h]
  obtain rfl:d' = S.toArray:=by rw [hSl]
  rw [<- hSp] at hlen ⊢;rw [b64] at hlen
  refine ⟨_,c,rfl,⟨[],rfl,trivial⟩,⟨fun id0 ob ho=>?_,fun id0 id1 ob0 ob1 b' ho0 ho1 _ _=>(n7 ho0).1.trans (n7 ho1).1.symm,fun b' ob hb'=>?_,fun id0 ob b' ho hb'=>?_⟩,afr,
   fun b' hb' hno=>⟨ws hb' (fun he=>hno id _ hl1 (by rw [he];exact hblk)),rfl⟩,fun id0 ob b' ho hb'=>.inr ⟨id,_,hl1,by rw [<- (n7 ho).1];exact hb'⟩,fun id0 hid=>by
    rw [b61.1 hid]
    exact hev _⟩
  · obtain ⟨rfl,rfl⟩:=n7 ho
    refine ⟨h0,hmax, .inl ⟨h6,S.map enc,⟨by simp [hlen], .inr ⟨b,cap,putCells enc 0 S.toArray cur,hown,hbase,afi hheap,hnc,hcm,by simpa [putCells] using hcs, ?_⟩⟩,fun i j hi hj=>?_⟩⟩
    · have:=alz (enc:=enc) (d:=S.toArray) (cur:=cur) (by rw [b6f,hlen,hcs];omega)
      rw [b6f,hlen] at this;rw [Nat.mul_one];exact this
    obtain rfl:j = 0:=by omega
    have hi':i < S.length:=by rw [hlen];exact hi
    refine ⟨enc S[i], ?_, ?_⟩
    · rw [Nat.mul_one,b73,b5s,b5b hi']
      rfl
    show am c.imm (pc ((S.map fst).getD i default)) _;rw [b5c,b5s,b5b hi'];exact S[i].2
  · have hne:b' ≠ b:=fun he=>by
     have:=hM.sep id _ b hl1 hblk;rw [<- he,hb'] at this;cases this
    have hw:=hM.imm b' ob hb';rw [ws (b5e.1 hw).1 hne];exact hw
  have:=(n7 ho).1;subst this;exact hM.sep id0 _ b' hl1 hb'
 | [],h=>exact h.elim
 | [_],⟨_,h⟩=>exact h.elim
 | _ :: _ :: _ :: _,⟨_,_,h⟩=>exact h.elim
end
end
section
open Go.Proofs Go.RowKit Go.Sort
structure CpZ (l:List Rw) (k p q:Nat) (m:List Rw):Prop where
 len:m.length = l.length
 kq:k < q
 pq:p < q
 ql:q <= l.length
 pre:m.take p = jx (l.take q)
 high:∀ j,q - 1 <= j -> m.getD j default = l.getD j default
section
variable {k:Nat} {l:List Rw}
theorem CpZ.start (h1:1 <= k) (hk:k < l.length) (h:∀ j,0 < j -> j < k -> ¬ l.getD j default = l.getD (j - 1) default) (hd:l.getD k default = l.getD (k - 1) default):CpZ l k k (k + 1) l :=
 ⟨rfl,by omega,by omega,by omega,by rw [gz b8i hk,if_pos hd.symm,b6h,qt b8i h],fun _ _=>rfl⟩
theorem CpZ.skip {p q:Nat} {m:List Rw} (h:CpZ l k p q m) (hq:q < l.length) (he:m.getD q default = m.getD (q - 1) default):CpZ l k p (q + 1) m:=by
 have hk:=h.kq;refine ⟨h.len,by omega,by have:=h.pq;omega,hq, ?_,fun j hj=>h.high j b8i⟩;rw [h.high q b8i,h.high (q - 1) b8i] at he;rw [gz b8i hq,if_pos he.symm,b6h,h.pre]
theorem CpZ.keep {p q:Nat} {m:List Rw} (h:CpZ l k p q m) (hq:q < l.length) (he:¬ m.getD q default = m.getD (q - 1) default):CpZ l k (p + 1) (q + 1) (m.set p (m.getD q default)):=by
 have hk:=h.kq;have hp:=h.pq;have hl:=h.len;refine ⟨by simp [hl],by omega,by omega,hq, ?_,fun j hj=>by rw [getD_set_ne' b8i];exact h.high j b8i⟩;have e:=h.high q b8i;rw [e,h.high (q - 1) b8i] at he;rw [gz b8i hq,if_neg (fun e=>he e.symm),<- h.pre,c0 (by simp [hl];omega),jg b8i,e];congr 1;rw [List.take_set,b84 b8w]
def abu (hk:l.length <= k) (h:∀ j,0 < j -> j < k -> ¬ l.getD j default = l.getD (j - 1) default):CoP (.sl l.length 1 false (lf rC l)) (rl (jx l)):=by
 have:=qt (b5g l.length) fun j h1 h2=>h j h1 b8i;rw [b67] at this;rw [this];exact CoP.refl _
variable {a:Nat}
def ana {m:List Rw} {p q n d:Nat} {cl:Bool} {z:List Value} (hC:CpZ l k p q m) (hq:¬ q < l.length) (ha:p <= a):CoP (.sl (gp (bo n (some (p:Int))) none) 1 cl (pn (pf (lf rC m) a d z) none)) (rl (jx l)):=by
 have e:=hC.pre;have h1:=hC.ql;have h2:=hC.len;have h3:=hC.pq;rw [show q = l.length by omega,b67] at e;have el:(jx l).length = p:=by rw [<- e];simp;omega
 exact ase (by rw [el];rfl) rfl b8i (by rw [el,e])
def zw:∀ {l:List Rw} {p:Option Rw},l.Pairwise (fun a b=>ltZ b a = false) -> (∀ x,p = some x -> ∀ y ∈ l,ltZ y x = false) -> (jf p l).Pairwise (fun a b=>ltZ a b = true) /\ ∀ x,p = some x -> ∀ y ∈ jf p l,ltZ x y = true
 | [],p,_,_=>⟨by simp [jf],fun x _ y hy=>by simp [jf] at hy⟩
 | z :: l,p,h,hp=>by
  obtain ⟨h1,h2⟩:=b6a.1 h;simp only [jf];split
  · rename_i e
    subst e;exact zw h2 fun x hx y hy=>hp x hx y (b65 _ hy)
  rename_i hne
  obtain ⟨q1,q2⟩:=zw (p:=some z) h2 fun x hx y hy=>by
   simp only [b5a] at hx;subst hx;exact h1 y hy
  refine ⟨b6a.2 ⟨fun y hy=>q2 z rfl y hy,q1⟩,fun x hx y hy=>?_⟩
  have hxz:ltZ x z = true:=by
   have h3:=hp x hx z b6q
   rcases u6 (a:=x) (b:=z) (fun e=>hne (by rw [hx,e])) with h4 | h4
   · exact h4
   rw [h3] at h4;cases h4
  rcases b5k.1 hy with rfl | hy
  · exact hxz
  exact gw hxz (q2 z rfl y hy)
variable {a' b':Nat}
def a2h {b:Nat} (h:l.getD a' default = l.getD b' default) (ha:a' = a) (hb:b' = b):l.getD a default = l.getD b default:=by subst ha hb;exact h
def a1y {b:Nat} (h:¬ l.getD a' default = l.getD b' default) (ha:a' = a) (hb:b' = b):¬ l.getD a default = l.getD b default:=by subst ha hb;exact h
def a73 {b:Nat} (h:decide (l.getD a' default = l.getD b' default) = true) (ha:a' = a) (hb:b' = b):l.getD a default = l.getD b default:=a2h (of_decide_eq_true h) ha hb
def a8o {b:Nat} (h:decide (l.getD a' default = l.getD b' default) = false) (ha:a' = a) (hb:b' = b):¬ l.getD a default = l.getD b default:=a1y (of_decide_eq_false h) ha hb
def s6 {a b:Rw}:ltOf mq a b = ltZ a b:=by
 rw [b87];show decide (mq a b < 0) = true <-> _;rw [decide_eq_true_iff];exact yh
def akg {x y z:Rw} (h:ltZ x y = false) (k:ltZ y z = false):ltZ x z = false:=by
 rw [b5m];intro e;by_cases hyz:y = z
 · subst hyz;rw [h] at e;cases e
 rcases u6 hyz with h2 | h2
 · rw [k] at h2;cases h2
 rw [gw e h2] at h;cases h
def ao7:SWO (ltOf mq) where
 irrefl x:=by rw [s6];exact oi x
 trans x y z h k:=by rw [s6] at *;exact gw h k
 ntrans x y z h k:=by rw [s6] at *;exact akg h k
def srZ (l:List Rw):List Rw:=l.mergeSort fun x y=>!ltZ y x
def aua {x:Rw}:x ∈ srZ l <-> x ∈ l:=by unfold srZ;exact List.mem_mergeSort
def aga (l:List Rw):(srZ l).length = l.length:=b8g _
def anl (l:List Rw):jx (srZ l) = ai l:=by
 refine abq (zw ?_ fun x hx=>by cases hx).1 fun z=>by rw [a56,aua]
 have h:=List.pairwise_mergeSort (le:=fun x y:Rw=>!ltZ y x) (fun a b c h k=>by
  simp only [b6j] at *
  exact akg k h) (fun a b=>by
  simp only [b6r,b6j];by_cases e:ltZ b a = true
  · right
    rw [b5m];intro e2;have:=gw e e2;rw [oi] at this;cases this
  left
  exact b5m.2 e) l
 refine h.imp fun {a b} hab=>?_;simpa using hab
def axi {r:Rw} (h:(l.any fun x=>decide (x = r)) = true):r ∈ l:=by
 rw [b6c] at h;obtain ⟨x,hx,e⟩:=h;rwa [<- of_decide_eq_true e]
def agc {r:Rw} (h:(l.any fun x=>decide (x = r)) = false):r ∉ l:=fun e=>by
 rw [b6v] at h;exact h r e (decide_eq_true rfl)
def atd:Go.Hx.goodFn b98 135:=⟨Tryz.f135,Tryz.func135,by kernel_rfl,by kernel_rfl⟩
def axk (id:Nat) (caps:Nat -> PV) (l:List Rw) (hsz:l.length <= 8589934592):cq b98 135 [.one (.ref id l.length), .one (.p (.fn 136 0 caps))] [(id, .arr true 1 97 l.length (lf rC l))] (.tup [])
 [(id, .arr true 1 97 l.length (lf rC (srZ l)))] [id]:=by
 have h:=aib Tryz.laysSortZ (fun r:Rw=>zl r) (fun imm x v hr=>by obtain ⟨ad,cap,h1,_⟩:=hr;rw [h1];rfl) mq ao7 (fun x y h k=>by
  rw [s6] at h k;apply Classical.byContradiction;intro hne
  rcases u6 hne with h2 | h2
  · rw [h] at h2;cases h2
  rw [k] at h2;cases h2) 136 caps (enters_of Tryz.func136 (by kernel_rfl) rfl) (fun x y=>aqj x y) id 97 l hsz
 have e:(fun x y:Rw=>!(ltOf mq) y x) = fun x y=>!ltZ y x:=by
  funext x y;rw [s6]
 rw [e] at h;exact h
end
end
section
open Go.Proofs
section
variable {p:Prop}
def b8r (h:p:=by first | rfl | (dsimp only;omega)):p:=h
def b8s (h:p:=by simp only [bo]; omega):p:=h
def b8t (h:p:=by first | rfl | (dsimp only; omega)):p:=h
def b8u (h:p:=by simp only [bo];omega):p:=h
def ayi (l:List Rw):cq b98 137 [.one (.ref 900 l.length), .one (.p (.fn 89 0 fun _=>.any))] [(900, .arr true 1 97 l.length (lf rC l))] (.v (.one (.p (rl (jx l))))) [] []:=by
 refine hfx (nt:=66) Tryz.func137 ?_;refine cu ?_;refine ar8 900 rfl fun hlen=>?_;refine df ?_;refine hcd (fun h0=>?_) (fun h0=>?_)
 · refine w_5 ?_;refine bm 4 rfl rfl rfl ?_;refine hrr ?_;exact ⟨_,_,rfl,b8k,abu (k:=l.length) (b5g _) (fun j h1 h2=>by omega),trivial⟩
 refine w_7 ?_;refine af (ι:=Nat) (ka 0 (ka 1 kn)) (kb 900 km) (fun k=>⟨[(5,some (vI k))],[]⟩) (fun k=>1 <= k /\ k <= l.length /\ ∀ j,0 < j -> j < k -> ¬ l.getD j default = l.getD (j - 1) default) (fun k=>l.length - k) (1) (⟨b5g _,by omega,fun j h1 h2=>by omega⟩) kk ?_;rintro k ⟨hk1,hk,hI⟩;refine w_8 ?_;refine hcd (fun h1=>?_) (fun h1=>?_)
 ·
  refine pl ?_;refine qcx aer (apo _ _) ?_;refine w_2 ?_;refine hcb (fun h2=>?_) (fun h2=>?_)
  ·
   refine m7 ?_;refine af (ι:=Nat × Nat × List Rw) (ka 0 (ka 1 (ka 6 kn))) km (fun x=>⟨[(5,some (vI x.1)),(7,some (vI ((x.2.1:Int) - k)))],[(900,some (.arr true 1 97 l.length (lf rC x.2.2)))]⟩) (fun x=>CpZ l k x.1 x.2.1 x.2.2) (fun x=>l.length - x.2.1) ((k,k + 1,l)) (CpZ.start hk1 b8i hI (by first | exact a2h b8j rfl b8i | exact a73 b8j rfl b8i)) ⟨⟨zy,⟨_,rfl,(coi b8r)⟩,trivial⟩,uu⟩ ?_;rintro ⟨p,q,m⟩ hC;have hC0:=hC;obtain ⟨hml,hkq,hpq,hql,_,_⟩:=hC0;dsimp only at hC hml hkq hpq hql;refine w_8 ?_;refine hcd (fun h3=>?_) (fun h3=>?_)
   ·
    simp only [gp,bo,b5t] at h3;refine pl ?_;refine qcx aer (apo _ _) ?_;refine w_3 ?_;refine hcv (fun h4=>?_) (fun h4=>?_)
    ·
     refine an7 ?_
     first | (refine lpz (p + 1, q + 1, m.set p (m.getD q default)) ⟨⟨⟨_, rfl, (coi b8t)⟩, ⟨_, rfl, (coi b8t)⟩, tt⟩, ⟨⟨_, rfl, (agv id hml.symm b8i (by dsimp only; omega) b8s)⟩, trivial⟩⟩ ?_; exact hC.keep b8i (by first | exact a1y b8j b8s b8s | exact a8o b8j b8s b8s))
           | (refine lpz (p,q + 1,m) ⟨⟨⟨_,rfl,(coi b8r)⟩,⟨_,rfl,(coi b8r)⟩,tt⟩,uu⟩ ?_;exact hC.skip b8i (by first | exact a2h b8j b8u b8u | exact a73 b8j b8u b8u))
    refine w_6 ?_
    first | (refine lpz (p + 1, q + 1, m.set p (m.getD q default)) ⟨⟨⟨_, rfl, (coi b8t)⟩, ⟨_, rfl, (coi b8t)⟩, tt⟩, ⟨⟨_, rfl, (agv id hml.symm b8i (by dsimp only; omega) b8s)⟩, trivial⟩⟩ ?_; exact hC.keep b8i (by first | exact a1y b8j b8s b8s | exact a8o b8j b8s b8s))
          | (refine lpz (p,q + 1,m) ⟨⟨⟨_,rfl,(coi b8r)⟩,⟨_,rfl,(coi b8r)⟩,tt⟩,uu⟩ ?_;exact hC.skip b8i (by first | exact a2h b8j b8u b8u | exact a73 b8j b8u b8u))
   simp only [gp,bo,b5t] at h3;refine w_6 ?_;refine r9 0 true ?_;refine w_5 ?_;refine anr rfl rfl rfl rfl rfl ?_;refine w_2 ?_;refine hrr ?_;exact ⟨_,_,rfl,b8k,ana hC b8i (by simp [bo]),trivial⟩
  refine w_6 ?_;refine lpz (k + 1) kk ?_;refine ⟨by omega,by show k + 1 <= _;omega,fun j h1 h2=>?_⟩
  rcases b7s (b8d h2) with h | h
  · exact hI j h1 h
  subst h
  first | exact a1y b8j rfl b8i | exact a8o b8j rfl b8i
 refine w_6 ?_;refine bm 4 rfl rfl rfl ?_;refine hrr ?_;exact ⟨_,_,rfl,b8k,abu (k:=k) b8i hI,trivial⟩
end
end
section
open Go.Proofs
def adw:goodFn b98 94:=wgx Tryz.func94
def a8f (n:Int) (l:List Rw) (hl:l.length <= 8589934592):cq b98 94 [.agg [.p (.raw (.int .i64 n)), .ref 900 l.length]] [(900, .arr true 1 97 l.length (lf rC l))] (.v (.agg [.p (.raw (.int .i64 n)), .p (rl (ai l))])) [] []:=by
 refine hfx (nt:=11) Tryz.func94 ?_;refine sx7 ?_;refine m9 0 ?_;refine m9 1 ?_;refine w_5 ?_;refine fc9 atd (axk 900 _ l hl) uu ?_;refine w_5 ?_;refine ji rfl rfl rfl rfl rfl rfl (wgx Tryz.func137) (ayi (srZ l)) (⟨congrArg (HV.ref 900) (aga l).symm,CoP.refl _,trivial⟩) ⟨⟨_,rfl,y8 rfl (aga l).symm⟩,trivial⟩ rfl rfl ?_;refine w_8 ?_;refine hrr ?_;exact ⟨_,_,rfl,b8k,CoR.of_eq (by rw [<- anl];rfl),trivial⟩
end
section
open Go.Proofs
def a7q:goodFn b98 120:=wgx Tryz.func120
def alr (n:Int) (l:List Rw) (hl:l.length <= 5864062014805):cq b98 120 [.one (.p (.raw (.int .i64 n))), .one (.p (rl l))] [] (.v (.agg [.p (.raw (.int .i64 n)), .ref 900 (ai l).length])) [(900, .arr true 1 97 (ai l).length (lf rC (ai l)))] []:=by
 refine hfx (nt:=74) Tryz.func120 ?_;refine cu ?_;refine bv 1 rfl fun hn=>?_;refine gy ?_;refine m9 0 ?_;refine w_5 ?_;refine m9 1 ?_;refine w_2 ?_;refine dx 1 1 900 true 1 97 (lf rC (ai (l.take 0))) b8n rfl rfl (CoP.sl rfl (.inr rfl) (fun h=>h) (fun i j hi _=>absurd hi (b5i i))) (.inr rfl) rfl rfl ?_;refine w_6 ?_;refine cj (ka 1 (ka 4 (ka 5 kn))) (kb 0 km) (fun i=>⟨[(6,some (vI i))],[(1,some (.box [.p (.raw (.int .i64 n)), .ref 900 (ai (l.take i)).length])),(900,some (.arr true 1 97 (ai (l.take i)).length (lf rC (ai (l.take i)))))]⟩) l.length kk ?_;rintro i hi;have hlen:=w9 (l.take i);rw [b5p] at hlen;refine w_8 ?_;refine hcd (fun h0=>?_) (fun h0=>?_)
 ·
  refine ej ?_;refine qcx ac7 (aeo n (ai (l.take i)) (l.getD i default)) ?_;refine w_2 ?_;refine hcb (fun h1=>?_) (fun h1=>?_)
  ·
   have hin:=axi h1;refine w_6 ?_
   first | (refine lpz (i + 1) ⟨tt, ⟨⟨_, rfl, ⟨CoH.refl _, congrArg (HV.ref 900) (by rw [dv b8i, qv (er _) hin]), trivial⟩⟩, ⟨_, rfl, (ik (by rw [dv b8i, qv (er _) hin]))⟩, uu⟩⟩ ?_; show i + 1 <= _; omega)
         | (refine lpz (i + 1) ⟨tt,⟨⟨_,rfl,⟨CoH.refl _,congrArg (HV.ref 900) (by rw [dv b8i,<- hfin,jk hk]),trivial⟩⟩,⟨_,rfl,(y8 (by rw [dv b8i,<- hfin]) (by rw [dv b8i,<- hfin,jk hk]))⟩,uu⟩⟩ ?_;show i + 1 <= _;omega)
  have hin:=agc h1;refine w_9 ?_;refine m9 2 ?_;refine r9 3 true ?_;refine m7 ?_;refine af (ι:=Nat) (ka 1 (ka 4 (ka 5 (ka 6 kn)))) (kb 1 (kb 0 km)) (fun k=>⟨[(7,some (vI k))],[(900,some (.arr true 1 97 ((ai (l.take i)).length + 1) (lf rC (iw (ai (l.take i)) k (l.getD i default)))))]⟩) (fun k=>k <= (ai (l.take i)).length /\ ∀ j,k <= j -> j < (ai (l.take i)).length -> ltZ (l.getD i default) ((ai (l.take i)).getD j default) = true) (fun k=>k) ((ai (l.take i)).length) (⟨b5g _,fun j h1 h2=>by omega⟩) ⟨tt,⟨⟨_,rfl,(by rw [ao6];exact aur (CoP.refl _))⟩,trivial⟩⟩ ?_;rintro k ⟨hk,hK⟩;refine w_6 ?_;refine aa rfl rfl (fun r2=>?_) (fun r2=>?_)
  ·
   have h2:=tz1 r2;(iterate 11 refine qy ?_ (hg:=(gtt r2)));refine qcx (wgx Tryz.func160) (aqi _ _) ?_ (hg:=(gtt r2));refine w_3 ?_;refine ag _ rfl (fun r3=>?_) (fun r3=>?_)
   ·
    have h3:=bd r2 r3;have hb:=aju b8i hk h3 b8i b8i;refine w_3 ?_;refine ahc (E:=rh) s8 a9a [0,1,2,7,8,9,10,11,12,13,14,15,16,17,18,19,3,4,5,6,20,21] ?_;refine ang ?_;refine ⟨k - 1, ?_, ?_, ?_⟩
    · refine ⟨by omega,fun j h1 h2=>?_⟩
      by_cases hj:j = k - 1
      · rw [hj];exact hb
      exact hK j b8i h2
    · show k - 1 < k
      omega
    exact ⟨tt,⟨⟨_,rfl,(alu b8i hk b8i b8i rfl)⟩,uu⟩⟩
   have h3:=bd r2 r3;have hb:=aju b8i hk h3 b8i b8i;have hfin:=a9k (er _) hin hk hK (.inr (by rw [hb];decide));refine w_6 ?_
   first | (refine lpz (i + 1) ⟨tt, ⟨⟨_, rfl, ⟨CoH.refl _, congrArg (HV.ref 900) (by rw [dv b8i, qv (er _) hin]), trivial⟩⟩, ⟨_, rfl, (ik (by rw [dv b8i, qv (er _) hin]))⟩, uu⟩⟩ ?_; show i + 1 <= _; omega)
         | (refine lpz (i + 1) ⟨tt,⟨⟨_,rfl,⟨CoH.refl _,congrArg (HV.ref 900) (by rw [dv b8i,<- hfin,jk hk]),trivial⟩⟩,⟨_,rfl,(y8 (by rw [dv b8i,<- hfin]) (by rw [dv b8i,<- hfin,jk hk]))⟩,uu⟩⟩ ?_;show i + 1 <= _;omega)
  have h2:=tz2 r2;have hfin:=a9k (er _) hin hk hK (.inl b8i);(iterate 12 refine k9 (gft r2) ?_);refine df ?_
  first | (refine lpz (i + 1) ⟨tt, ⟨⟨_, rfl, ⟨CoH.refl _, congrArg (HV.ref 900) (by rw [dv b8i, qv (er _) hin]), trivial⟩⟩, ⟨_, rfl, (ik (by rw [dv b8i, qv (er _) hin]))⟩, uu⟩⟩ ?_; show i + 1 <= _; omega)
        | (refine lpz (i + 1) ⟨tt,⟨⟨_,rfl,⟨CoH.refl _,congrArg (HV.ref 900) (by rw [dv b8i,<- hfin,jk hk]),trivial⟩⟩,⟨_,rfl,(y8 (by rw [dv b8i,<- hfin]) (by rw [dv b8i,<- hfin,jk hk]))⟩,uu⟩⟩ ?_;show i + 1 <= _;omega)
 obtain rfl:i = l.length:=by omega
 refine w_6 ?_;refine hrr ?_;exact ⟨_,_,rfl,b8k,CoR.of_eq (by rw [b67];rfl),⟨⟨_,rfl,CoO.of_eq (by rw [b67])⟩,trivial⟩⟩
def a3y (n:Int) (l:List Rw) (hl:l.length <= 5864062014805):a8 b98 120 [pI n,pR l] (ae [pT n (ai l)]) :=
 cq.pure (args:=[pI n,pR l]) (l:=[.agg [.p (.raw (.int .i64 n)), .ref 900 (ai l).length]]) (alr n l hl) rfl ⟨⟨trivial,rfl,trivial⟩,trivial⟩
end
section
abbrev nM (l:List Rw):Nat -> Nat:=fun i=>(l.getD i default).length
abbrev bf (l:List Rw):Nat -> Nat -> Int:=fun i r=>(l.getD i default).getD r default
abbrev mg (M:Nat -> Nat -> Int):Nat -> Nat -> Nat -> PV:=fun i r _=>.raw (.int .i64 (M i r))
section
variable {e et:TypeId} {i k:Nat}
def aa6 {l:List Rw} {f:Nat -> Nat -> PV} (hk:k = (l.getD i default).length) (hf:f = lf zC (l.getD i default)):
 CoO (.nest e et 1 (i + 1) (nc (nM l) i k) (ph (mg (bf l)) i f) none) (.nest e et 1 (i + 1) (nM l) (mg (bf l)) none):=by
 subst hk hf
 have hm:∀ j,nc (nM l) i (l.getD i default).length j = nM l j:=fun j=>by
  by_cases h:j = i
  · subst h;rw [a8l]
  rw [yg h]
 refine ⟨rfl,rfl,rfl,rfl,rfl,fun j _=>(hm j).symm,fun j r c hj hr hc=>CoP.of_eq ?_⟩;by_cases h:j = i
 · subst h
   rw [ahj];rfl
 rw [ad6 h]
abbrev hiI (x y:Int):Int:=if x < y then y else x
abbrev loI (x y:Int):Int:=if y < x then y else x
def jj (M:Nat -> Nat -> Int) (hi lo:Int) (i k:Nat):Nat -> Nat -> Int:=fun i' r=>if (i' < i \/ (i' = i /\ r < k)) /\ M i' r = hi then lo else M i' r
def eqM (M:Nat -> Nat -> Int) (a b j:Nat):Nat -> Nat -> Int:=fun i r=>if M i r = hiI (M a j) (M b j) then loI (M a j) (M b j) else M i r
def eqMs (M:Nat -> Nat -> Int) (a b:Nat) (js:List Nat):Nat -> Nat -> Int:=js.foldl (fun M j=>eqM M a b j) M
def d4 (l:List Rw) (M:Nat -> Nat -> Int):List Rw:=(List.range l.length).map fun i=>(List.range (l.getD i default).length).map (M i)
def j3 (l:List Rw) (M:Nat -> Nat -> Int):(d4 l M).length = l.length:=by unfold d4;simp
variable {M:Nat -> Nat -> Int}
def a9c {l:List Rw} (h:i < l.length):(d4 l M).getD i default = (List.range (l.getD i default).length).map (M i):=by
 unfold d4;rw [b5c,b5s,b6d h];rfl
variable {hi lo:Int}
def a9y:jj M hi lo 0 0 = M:=by
 funext i r;unfold jj;rw [if_neg b8i]
def a64 (h:jj M hi lo i k i k = hi):jj M hi lo i (k + 1) = fun i' r=>if i' = i /\ r = k then lo else jj M hi lo i k i' r:=by
 have h0:M i k = hi:=by
  unfold jj at h;rwa [if_neg b8i] at h
 funext i' r;unfold jj;by_cases e:i' = i /\ r = k
 · rw [if_pos e,if_pos ⟨.inr ⟨e.1,by omega⟩,by rw [e.1,e.2];exact h0⟩]
 rw [if_neg e];by_cases e2:(i' < i \/ (i' = i /\ r < k)) /\ M i' r = hi
 · rw [if_pos e2,if_pos ⟨e2.1.imp_right fun x=>⟨x.1,by omega⟩,e2.2⟩]
 rw [if_neg e2,if_neg fun e3=>e2 ⟨by omega,e3.2⟩]
def a5f (h:¬ jj M hi lo i k i k = hi):jj M hi lo i (k + 1) = jj M hi lo i k:=by
 have h0:¬ M i k = hi:=by
  unfold jj at h;rwa [if_neg b8i] at h
 funext i' r;unfold jj;by_cases e:i' = i /\ r = k
 · rw [if_neg (fun x=>h0 (by rw [<- e.1,<- e.2];exact x.2)),if_neg (fun x=>h0 (by rw [<- e.1,<- e.2];exact x.2))]
 by_cases e2:(i' < i \/ (i' = i /\ r < k)) /\ M i' r = hi
 · rw [if_pos e2,if_pos ⟨e2.1.imp_right fun x=>⟨x.1,by omega⟩,e2.2⟩]
 rw [if_neg e2,if_neg fun e3=>e2 ⟨by omega,e3.2⟩]
variable {M':Nat -> Nat -> Int} {m:Nat -> Nat} {n:Nat}
def a2o {i0 k0:Nat} {v:Int} (hM:M' = fun i' r=>if i' = i /\ r = k then v else M i' r) (hi:i0 = i) (hk:k0 = k):
 CoO (.nest e et 1 n m (me (mg M) i0 k0 0 [.raw (.int .i64 v)]) none) (.nest e et 1 n m (mg M') none):=by
 subst hi hk hM;refine ⟨rfl,rfl,rfl,rfl,rfl,fun j _=>rfl,fun j r c hj hr hc=>CoP.of_eq ?_⟩;obtain rfl:c = 0:=by omega
 unfold me;by_cases h:j = i0
 · rw [if_pos h]
   unfold ew;by_cases h2:r = k0
   · rw [if_pos ⟨h2,by omega,by simp⟩]
     show _ = PV.raw (.int .i64 (if j = i0 /\ r = k0 then v else M j r));rw [if_pos ⟨h,h2⟩];rfl
   rw [if_neg (fun x=>h2 x.1)];show _ = PV.raw (.int .i64 (if j = i0 /\ r = k0 then v else M j r));rw [if_neg (fun x=>h2 x.2)]
 rw [if_neg h];show _ = PV.raw (.int .i64 (if j = i0 /\ r = k0 then v else M j r));rw [if_neg (fun x=>h x.1)]
def nx (h:∀ i r,i < n -> r < m i -> M' i r = M i r):CoO (.nest e et 1 n m (mg M) none) (.nest e et 1 n m (mg M') none) :=
 ⟨rfl,rfl,rfl,rfl,rfl,fun _ _=>rfl,fun j r c hj hr hc=>CoP.of_eq (by show PV.raw (.int .i64 (M j r)) = PV.raw (.int .i64 (M' j r));rw [h j r hj hr])⟩
def acb (hk:¬ k < m i):∀ i' r,i' < n -> r < m i' -> jj M hi lo (i + 1) 0 i' r = jj M hi lo i k i' r:=fun i' r h1 h2=>by
 unfold jj;by_cases e2:(i' < i \/ (i' = i /\ r < k)) /\ M i' r = hi
 · rw [if_pos e2,if_pos ⟨by omega,e2.2⟩]
 rw [if_neg e2,if_neg fun e3=>e2 ⟨by
  rcases b82 i' i with h | h
  · exact .inl h
  right;obtain rfl:i' = i:=by omega
  exact ⟨rfl,by omega⟩,e3.2⟩]
def um {a b j:Nat} (hn:¬ i < n):∀ i' r,i' < n -> r < m i' -> eqM M a b j i' r = jj M (hiI (M a j) (M b j)) (loI (M a j) (M b j)) i 0 i' r:=fun i' r h1 h2=>by
 unfold jj eqM;by_cases e2:M i' r = hiI (M a j) (M b j)
 · rw [if_pos e2,if_pos ⟨by omega,e2⟩]
 rw [if_neg e2,if_neg fun e3=>e2 e3.2]
def qk {a b j:Nat} (h:M a j = M b j):eqM M a b j = M:=by
 funext i r;unfold eqM;have e1:hiI (M a j) (M b j) = M b j:=by unfold hiI;rw [if_neg b8i,h]
 have e2:loI (M a j) (M b j) = M b j:=by unfold loI;rw [if_neg b8i,h]
 rw [e1,e2];by_cases e:M i r = M b j
 · rw [if_pos e,e]
 rw [if_neg e]
def wd {a b:Nat} {js:List Nat} (h:i < js.length):eqMs M a b (js.take (i + 1)) = eqM (eqMs M a b (js.take i)) a b (js.getD i default):=by
 unfold eqMs;rw [c0 h,b7p];rfl
def amu (s:AS):(b7 s).length <= 32:=b6i (List.length_filter_le _ _) b8l
def apf {l:List Nat} {j:Nat} (h:j < l.length):l.getD j default ∈ l:=by
 rw [b5c,b5b h];exact b5l h
def ag5 {l:List Rw} (hn:n = l.length):CoO (.arr true 1 e n (w7 1 (nM l) (mg M))) (.arr true 1 e (d4 l M).length (lf rC (d4 l M))):=by
 subst hn;refine ⟨fun h=>h,rfl,rfl,j3 l M,fun i j hi hj=>?_⟩;show CoP (.sl (l.getD i default).length 1 false (mg M i)) (zl ((d4 l M).getD i default));rw [a9c hi];refine CoP.sl b8l (.inl rfl) (fun h=>h) fun r c hr hc=>CoP.of_eq ?_;show PV.raw (.int .i64 (M i r)) = PV.raw (.int .i64 (((List.range (l.getD i default).length).map (M i)).getD r default));rw [b5c,b5s,b6d hr];rfl
end
end
section
open Go.Proofs
def ann (n:Int) (l:List Rw) (hl:∀ i,i < l.length -> (l.getD i default).length <= 17592186044416) (hl2:l.length <= 5864062014805):cq b98 125 [.agg [.p (.raw (.int .i64 n)), .p (rl l)]] [] (.v (.agg [.p (.raw (.int .i64 n)), .ref 901 l.length])) [(901, .nest 97 3 1 l.length (nM l) (mg (bf l)) none)] []:=by
 refine hfx (nt:=25) Tryz.func125 ?_;refine sx7 ?_;refine m9 0 ?_;refine m9 1 ?_;refine w_6 ?_;refine m9 2 ?_;refine w_2 ?_;refine a7p 2 1 901 97 3 1 (nM l) (mg (bf l)) b8n rfl rfl rfl rfl ?_;refine w_9 ?_;refine cj (ka 2 (ka 3 (ka 10 (ka 11 kn)))) (kb 1 km) (fun i=>⟨[(12,some (vI i))],[(2,some (.box [.p (.raw (.int .i64 n)), .ref 901 i])),(901,some (.nest 97 3 1 i (nM l) (mg (bf l)) none))]⟩) l.length kk ?_;rintro i hi;refine w_5 ?_;refine hcd (fun h0=>?_) (fun h0=>?_)
 · refine m7 ?_;refine fc9 a8n ((a8a (l.getD i default).length false (lf zC (l.getD i default)) (hl i b8i)).swap 0 907) trivial ?_;refine m9 3 ?_;refine r9 4 true ?_;refine w_4 ?_;refine aa3 901 907 rfl rfl ?_;refine w_4 ?_;exact lpx (i + 1) ⟨tt,⟨u9,⟨_,rfl,(aa6 rfl rfl)⟩,uu⟩⟩
 obtain rfl:i = l.length:=by omega
 refine w_6 ?_;refine hrr ?_;exact ⟨_,_,rfl,b8k,CoR.refl _,uu⟩
end
section
open Go.Proofs
def auy (n:Int) (l:List Rw) (s:AS) (a b:Nat) (hl:∀ i,i < l.length -> (l.getD i default).length <= 17592186044416) (hl2:l.length <= 8589934592) (ha:a < l.length) (hb:b < l.length) (hs:∀ j,j ∈ b7 s -> ∀ i,i < l.length -> j < (l.getD i default).length):a8 b98 130 [pT n l,pA s,pI (a:Int),pI (b:Int)] (ae [pT n (ai (d4 l (eqMs (bf l) a b (b7 s))))]):=by
 refine hpx (nt:=76) Tryz.func130 ?_;refine sx7 ?_;refine m9 0 ?_;refine m9 1 ?_;refine w_4 ?_;refine fc9 a7w (ann n l hl b8i) trivial ?_;refine m9 2 ?_;refine w_6 ?_;refine qcx (wgx Tryz.func164) (b2m s) ?_;refine w_4 ?_;refine cj (ka 2 (ka 3 (ka 8 (ka 9 (ka 20 (ka 21 kn)))))) (kb 1 (kb 2 km)) (fun q=>⟨[(22,some (vI q))],[(901,some (.nest 97 3 1 l.length (fun i=>(l.getD i default).length) (mg (eqMs (bf l) a b ((b7 s).take q))) none))]⟩) ((b7 s).length) kk ?_;rintro q hq;have hm32:=amu s;refine w_5 ?_;refine hcd (fun h0=>?_) (fun h0=>?_)
 ·
  have hjm:((b7 s).getD q default) ∈ b7 s:=apf b8i;have hja:=hs _ hjm a ha;have hjb:=hs _ hjm b hb;refine v7 ?_;refine rq rfl rfl rfl rfl rfl ?_ (hp:=(by (try simp only [b5t,nM]);(repeat' apply And.intro) <;> first | trivial | rfl | omega | exact b5d rfl));refine w_7 ?_;refine rq rfl rfl rfl rfl rfl ?_ (hp:=(by (try simp only [b5t,nM]);(repeat' apply And.intro) <;> first | trivial | rfl | omega | exact b5d rfl));refine o4 ?_;refine hcd (fun h1=>?_) (fun h1=>?_)
  ·
   refine w_5 ?_
   first | (refine lpz (q + 1) ⟨tt, ⟨⟨_, rfl, (by rw [wd b8i, qk b8j]; exact CoO.refl _)⟩, uu⟩⟩ ?_; show q + 1 <= _; omega)
         | (refine lpz (q + 1) ⟨tt,⟨⟨_,rfl,(by rw [wd b8i];exact nx (um b8i))⟩,uu⟩⟩ ?_;show q + 1 <= _;omega)
  refine w_9 ?_;refine cj (ka 2 (ka 3 (ka 8 (ka 9 (ka 12 (ka 13 (ka 20 (ka 21 (ka 22 (ka 46 (ka 47 kn))))))))))) (kb 1 (kb 2 km)) (fun i=>⟨[(48,some (vI i))],[(901,some (.nest 97 3 1 l.length (fun i=>(l.getD i default).length) (mg (jj (eqMs (bf l) a b ((b7 s).take q)) (hiI ((eqMs (bf l) a b ((b7 s).take q)) a ((b7 s).getD q default)) ((eqMs (bf l) a b ((b7 s).take q)) b ((b7 s).getD q default))) (loI ((eqMs (bf l) a b ((b7 s).take q)) a ((b7 s).getD q default)) ((eqMs (bf l) a b ((b7 s).take q)) b ((b7 s).getD q default))) i 0)) none))]⟩) l.length ⟨tt,⟨⟨_,rfl,(by rw [a9y];exact CoO.refl _)⟩,trivial⟩⟩ ?_;rintro i hi;refine w_5 ?_;refine hcd (fun h2=>?_) (fun h2=>?_)
  ·
   have hli:=hl i b8i;refine nk ?_;refine cj (ka 2 (ka 3 (ka 8 (ka 9 (ka 12 (ka 13 (ka 15 (ka 20 (ka 21 (ka 22 (ka 46 (ka 47 (ka 48 (ka 53 kn)))))))))))))) (kb 1 (kb 2 km)) (fun k=>⟨[(54,some (vI k))],[(901,some (.nest 97 3 1 l.length (fun i=>(l.getD i default).length) (mg (jj (eqMs (bf l) a b ((b7 s).take q)) (hiI ((eqMs (bf l) a b ((b7 s).take q)) a ((b7 s).getD q default)) ((eqMs (bf l) a b ((b7 s).take q)) b ((b7 s).getD q default))) (loI ((eqMs (bf l) a b ((b7 s).take q)) a ((b7 s).getD q default)) ((eqMs (bf l) a b ((b7 s).take q)) b ((b7 s).getD q default))) i k)) none))]⟩) ((l.getD i default).length) kk ?_;rintro k hk;refine w_5 ?_;refine hcd (fun h3=>?_) (fun h3=>?_)
   ·
    refine o4 ?_;(iterate 2 refine rq rfl rfl rfl rfl rfl ?_ (hp:=(by (try simp only [b5t,nM]);(repeat' apply And.intro) <;> first | trivial | rfl | omega | exact b5d rfl)));refine w_5 ?_;refine hcd (fun h4=>?_) (fun h4=>?_)
    · refine w_6 ?_;refine rq rfl rfl rfl rfl rfl ?_ (hp:=(by (try simp only [b5t,nM]);(repeat' apply And.intro) <;> first | trivial | rfl | omega | exact b5d rfl));refine rs rfl rfl rfl rfl rfl ?_ (hp:=(by (try simp only [b5t,nM]);(repeat' apply And.intro) <;> first | trivial | rfl | omega | exact b5d rfl));refine w_5 ?_;exact lpx (k + 1) ⟨tt,⟨⟨_,rfl,(by first | exact a2o (a64 b8j) b8l b8l | (rw [a5f b8j];exact CoO.refl _))⟩,uu⟩⟩
    refine w_5 ?_;exact lpx (k + 1) ⟨tt,⟨⟨_,rfl,(by first | exact a2o (a64 b8j) b8l b8l | (rw [a5f b8j];exact CoO.refl _))⟩,uu⟩⟩
   refine w_5 ?_;exact lpx (i + 1) ⟨tt,⟨⟨_,rfl,(nx (acb b8i))⟩,uu⟩⟩
  refine w_5 ?_
  first | (refine lpz (q + 1) ⟨tt, ⟨⟨_, rfl, (by rw [wd b8i, qk b8j]; exact CoO.refl _)⟩, uu⟩⟩ ?_; show q + 1 <= _; omega)
        | (refine lpz (q + 1) ⟨tt,⟨⟨_,rfl,(by rw [wd b8i];exact nx (um b8i))⟩,uu⟩⟩ ?_;show q + 1 <= _;omega)
 obtain rfl:q = (b7 s).length:=by omega
 refine w_2 ?_;refine agx 901 rfl ?_;refine w_2 ?_;refine ji rfl rfl rfl rfl rfl rfl adw ((a8f n (d4 l (eqMs (bf l) a b (b7 s))) (by rw [j3];omega)).swap 900 901) (⟨⟨CoP.refl _,congrArg (HV.ref 901) (j3 _ _).symm,trivial⟩,trivial⟩) ⟨⟨_,rfl,(by rw [b67];exact ag5 rfl)⟩,trivial⟩ rfl rfl ?_;refine v_2 ?_;exact CoL.refl _
end
section
def pj (n:Int) (l:List Rw) (row:Rw):Int × List Rw × Int:=if 256 < (ai (l ++ [row])).length then (0,[],3) else (n,ai (l ++ [row]),0)
def aw {s:Nat} {f:Nat -> Nat -> PV}:CoP (.sl 0 s true f) (rl []):=CoP.sl rfl (.inr rfl) (fun h=>by cases h) fun i j hi _=>absurd hi (b5i i)
def fdE (n:Int) (l:List Rw) (a b:Nat) (x:Fd):Int × List Rw × Int:=if ip (l.getD a default) (l.getD b default) x.lhs = true then (n,ai (d4 l (eqMs (bf l) a b (b7 x.rhs))),0) else (0,[],1)
def mvE (n:Int) (l:List Rw) (a b:Nat) (x:Fd):Int × List Rw × Int:=if ip (l.getD a default) (l.getD b default) x.lhs = true then pj n l (d7 (l.getD a default) (l.getD b default) (x.lhs ||| x.rhs)) else (0,[],1)
def eu {n:Int} {l:List Rw} (h:tok n l = true):0 <= n /\ n <= 16 /\ l.length <= 256 /\ ∀ i,i < l.length -> (l.getD i default).length = n.toNat:=by
 unfold tok at h;rw [b5j,decide_eq_true_iff,decide_eq_true_iff] at h;obtain ⟨⟨h0,h1,h2⟩,h3⟩:=h;refine ⟨h0,h1,h2,fun i hi=>?_⟩;have:=h3 i hi;unfold lc at this;rw [b5j,b5j,decide_eq_true_iff] at this;omega
def a2d {n:Int} (h0:0 <= n) (h1:n <= 16) {x:Fd} (h:inU n x = true) {j:Nat} (hj:j ∈ b7 x.rhs):j < n.toNat:=by
 obtain ⟨_,h3⟩:=(od h0 h1).1 h;obtain ⟨h4,h5⟩:=vn.1 hj;have h6:x.rhs >>> n.toNat = 0:=(zh (n:=n.toNat) b8i).1 (by unfold b6 at h3;rwa [b6p b8i] at h3)
 rcases b82 j n.toNat with h | h
 · exact h
 rw [awp.1 h6 j h4 h] at h5;cases h5
end
section
open Go.Proofs
def b1s (n:Int) (l:List Rw) (row:Rw) (hl:∀ i,i < l.length -> (l.getD i default).length <= 17592186044416) (hl2:l.length <= 4294967296):a8 b98 131 [pT n l,pZ row] (ae [pT (pj n l row).1 (pj n l row).2.1,pI (pj n l row).2.2]):=by
 refine hpx (nt:=23) Tryz.func131 ?_;refine sx7 ?_;refine m9 0 ?_;refine m9 1 ?_;refine w_5 ?_;refine fc9 a7w (ahr n l hl b8i) trivial ?_;refine m9 2 ?_;refine w_7 ?_;refine m9 3 ?_;refine r9 4 true ?_;refine w_6 ?_;refine ji rfl rfl rfl rfl rfl rfl adw ((a8f n (l ++ [row]) b8w).swap 900 901) (⟨⟨CoP.refl _,congrArg (HV.ref 901) b8l,trivial⟩,trivial⟩) ⟨⟨_,rfl,kz rfl (CoP.refl _)⟩,trivial⟩ rfl rfl ?_;refine df ?_;refine hcd (fun h0=>?_) (fun h0=>?_)
 · refine w_6 ?_;refine hrr ?_;have he:pj n l row = (0,[],3):=if_pos b8i;exact f9 rfl rfl (by rw [he];exact ⟨CoC.agg ⟨CoP.refl _,aw,trivial⟩,CoC.refl _,trivial⟩)
 refine w_7 ?_;refine hrr ?_;have he:pj n l row = (n,ai (l ++ [row]),0):=if_neg b8i;exact f9 rfl rfl (by rw [he];exact CoL.refl _)
def ae4:goodFn b98 91:=wgx Tryz.func91
def ag6 (n:Int) (l:List Rw) (p m:List Fd) (i a b:Nat) (hT:tok n l = true) (ha:a < l.length) (hb:b < l.length) (hi:i < p.length) (hu:inU n (p.getD i default) = true):a8 b98 91 [pT n l,pP (fdl p),pP (fdl m), .agg [.raw (.bool false), .raw (.int .i64 (i:Int)), .raw (.int .i64 (a:Int)), .raw (.int .i64 (b:Int))]] (ae [pT (fdE n l a b (p.getD i default)).1 (fdE n l a b (p.getD i default)).2.1,pI (fdE n l a b (p.getD i default)).2.2]):=by
 refine hpx (nt:=75) Tryz.func91 ?_;refine cu ?_;obtain ⟨hn0,hn16,hl256,hrow⟩:=eu hT;have hra:=hrow a ha;have hrb:=hrow b hb;have hbig:∀ i,i < l.length -> (l.getD i default).length <= 17592186044416:=fun i hi=>by rw [hrow i hi];omega
 refine gy ?_;refine m9 0 ?_;refine m9 1 ?_;refine m9 2 ?_;refine aip ?_;refine w_7 ?_;refine qcx y5 (a12 (l.getD a default) (l.getD b default) (p.getD i default).lhs b8i b8i) ?_;refine w_2 ?_;refine hcv (fun h0=>?_) (fun h0=>?_)
 · refine w_6 ?_;refine hrr ?_;have he:fdE n l a b (p.getD i default) = (0,[],1):=if_neg b8p;exact f9 rfl rfl (by rw [he];exact ⟨CoC.agg ⟨CoP.refl _,aw,trivial⟩,CoC.refl _,trivial⟩)
 refine v6 ?_;refine qcx (wgx Tryz.func130) (auy n l (p.getD i default).rhs a b hbig b8i ha hb (fun j hj i hi=>by rw [hrow i hi];exact a2d hn0 hn16 hu hj)) ?_;refine w_4 ?_;refine hrr ?_;have he:fdE n l a b (p.getD i default) = (n,ai (d4 l (eqMs (bf l) a b (b7 (p.getD i default).rhs))),0):=if_pos b8p;exact f9 rfl rfl (by rw [he];exact CoL.refl _)
def ah3 (n:Int) (l:List Rw) (p m:List Fd) (i a b:Nat) (hT:tok n l = true) (ha:a < l.length) (hb:b < l.length) (hi:i < m.length):a8 b98 91 [pT n l,pP (fdl p),pP (fdl m), .agg [.raw (.bool true), .raw (.int .i64 (i:Int)), .raw (.int .i64 (a:Int)), .raw (.int .i64 (b:Int))]] (ae [pT (mvE n l a b (m.getD i default)).1 (mvE n l a b (m.getD i default)).2.1,pI (mvE n l a b (m.getD i default)).2.2]):=by
 refine hpx (nt:=75) Tryz.func91 ?_;refine cu ?_;obtain ⟨hn0,hn16,hl256,hrow⟩:=eu hT;have hra:=hrow a ha;have hrb:=hrow b hb;have hbig:∀ i,i < l.length -> (l.getD i default).length <= 17592186044416:=fun i hi=>by rw [hrow i hi];omega
 refine gy ?_;refine m9 0 ?_;refine m9 1 ?_;refine m9 2 ?_;refine aip ?_;refine w_4 ?_;refine m9 3 ?_;refine w_9 ?_;refine qcx y5 (a12 (l.getD a default) (l.getD b default) (m.getD i default).lhs b8i b8i) ?_;refine w_2 ?_;refine hcv (fun h0=>?_) (fun h0=>?_)
 · refine w_6 ?_;refine hrr ?_;have he:mvE n l a b (m.getD i default) = (0,[],1):=if_neg b8p;exact f9 rfl rfl (by rw [he];exact ⟨CoC.agg ⟨CoP.refl _,aw,trivial⟩,CoC.refl _,trivial⟩)
 refine ej ?_;refine rc rfl rfl rfl rfl rfl rfl (wgx Tryz.func132) (am6 (l.getD a default) (l.getD b default) ((m.getD i default).lhs ||| (m.getD i default).rhs) b8i b8i) (⟨CoC.refl _,CoC.refl _,cci (by rw [bOr];rfl),trivial⟩) rfl rfl ?_;refine qcx (wgx Tryz.func131) (b1s n l (d7 (l.getD a default) (l.getD b default) ((m.getD i default).lhs ||| (m.getD i default).rhs)) hbig b8i) ?_;refine w_6 ?_;refine hrr ?_;have he:mvE n l a b (m.getD i default) = pj n l (d7 (l.getD a default) (l.getD b default) ((m.getD i default).lhs ||| (m.getD i default).rhs)):=if_pos b8p;exact f9 rfl rfl (by rw [he];exact CoL.refl _)
end
section
def eg (P:Nat -> Nat -> Nat -> Bool) (I L:Nat):Option (Nat × Nat × Nat) :=
 (List.range I).findSome? fun i=>(List.range L).findSome? fun a=>((List.range L).find? fun b=>P i a b).map fun b=>(i,a,b)
def a85 {α:Type} {f:Nat -> Option α}:∀ {n k:Nat} {x:α},k < n -> f k = some x -> (∀ j,j < k -> f j = none) -> (List.range n).findSome? f = some x
 | n + 1,k,x,hk,h,hb=>by
  rw [b8b,List.findSome?_append];by_cases e:k < n
  · rw [a85 e h hb];rfl
  obtain rfl:k = n:=by omega
  have:(List.range k).findSome? f = none:=by
   rw [b7x];intro j hj;exact hb j (b5r.1 hj)
  rw [this];simp [h]
def a74 {α:Type} {f:Nat -> Option α} {n:Nat} (h:∀ j,j < n -> f j = none):(List.range n).findSome? f = none:=by
 rw [b7x];intro j hj;exact h j (b5r.1 hj)
def a1w {p:Nat -> Bool} {n:Nat} (h:∀ j,j < n -> p j = false):(List.range n).find? p = none:=by
 rw [List.find?_eq_none];intro j hj;rw [h j (b5r.1 hj)];decide
def asd {p:Nat -> Bool} {n k:Nat} (hk:k < n) (h:p k = true) (hb:∀ j,j < k -> p j = false):(List.range n).find? p = some k:=by
 induction n with
 | zero=>omega
 | succ n ih =>
  rw [b8b,List.find?_append];by_cases e:k < n
  · rw [ih e];rfl
  obtain rfl:k = n:=by omega
  rw [a1w hb];simp [h]
section
variable {P:Nat -> Nat -> Nat -> Bool}
def x7 {I L i a b:Nat} (hi:i < I) (ha:a < L) (hb:b < L) (h:P i a b = true) (h1:∀ i',i' < i -> ∀ a',a' < L -> ∀ b',b' < L -> P i' a' b' = false) (h2:∀ a',a' < a -> ∀ b',b' < L -> P i a' b' = false) (h3:∀ b',b' < b -> P i a b' = false):
 eg P I L = some (i,a,b):=by
 refine a85 hi ?_ fun j hj=>a74 fun a' ha'=>by rw [a1w fun b' hb'=>h1 j hj a' ha' b' hb'];rfl
 refine a85 ha ?_ fun a' ha'=>by rw [a1w fun b' hb'=>h2 a' ha' b' hb'];rfl
 rw [asd hb h h3];rfl
def x6 {I L:Nat} (h:∀ i',i' < I -> ∀ a',a' < L -> ∀ b',b' < L -> P i' a' b' = false):eg P I L = none :=
 a74 fun i hi=>a74 fun a ha=>by rw [a1w fun b hb=>h i hi a ha b hb];rfl
def dm (l:List Rw) (x:Fd) (a b:Nat):Bool:=ip (l.getD a default) (l.getD b default) x.lhs && !ip (l.getD a default) (l.getD b default) x.rhs
def dt (l:List Rw) (x:Fd) (a b:Nat):Bool:=ip (l.getD a default) (l.getD b default) x.lhs && !(l.any fun r=>decide (r = d7 (l.getD a default) (l.getD b default) (x.lhs ||| x.rhs)))
end
section
variable {l:List Rw} {x:Fd} {a b:Nat}
def aro (h:ip (l.getD a default) (l.getD b default) x.lhs = true) (h2:ip (l.getD a default) (l.getD b default) x.rhs = false):dm l x a b = true:=by unfold dm;rw [h,h2];rfl
def yy (h:ip (l.getD a default) (l.getD b default) x.lhs = false):dm l x a b = false:=by unfold dm;rw [h];rfl
def a52 (h:ip (l.getD a default) (l.getD b default) x.rhs = true):dm l x a b = false:=by unfold dm;rw [h];simp
def atf (h:ip (l.getD a default) (l.getD b default) x.lhs = true) (h2:(l.any fun r=>decide (r = d7 (l.getD a default) (l.getD b default) (x.lhs ||| x.rhs))) = false):dt l x a b = true:=by unfold dt;rw [h,h2];rfl
def adi (h:ip (l.getD a default) (l.getD b default) x.lhs = false):dt l x a b = false:=by unfold dt;rw [h];rfl
def a4v (h:(l.any fun r=>decide (r = d7 (l.getD a default) (l.getD b default) (x.lhs ||| x.rhs))) = true):dt l x a b = false:=by unfold dt;rw [h];simp
end
abbrev St:=Bool × Nat × Nat × Nat
abbrev St.pc (s:St):PC:=.agg [.raw (.bool s.1), .raw (.int .i64 (s.2.1:Int)), .raw (.int .i64 (s.2.2.1:Int)), .raw (.int .i64 (s.2.2.2:Int))]
def dc (l:List Rw) (p m:List Fd):Option St :=
 match eg (fun i a b=>dm l (p.getD i default) a b) p.length l.length with
 | some x=>some (false,x)
 | none=>(eg (fun i a b=>dt l (m.getD i default) a b) m.length l.length).map fun x=>(true,x)
def ary {l:List Rw} {p m:List Fd} {x:Nat × Nat × Nat} (h:eg (fun i a b=>dm l (p.getD i default) a b) p.length l.length = some x):dc l p m = some (false,x):=by unfold dc;rw [h]
def aux {l:List Rw} {p m:List Fd} {x:Nat × Nat × Nat} (h0:eg (fun i a b=>dm l (p.getD i default) a b) p.length l.length = none) (h:eg (fun i a b=>dt l (m.getD i default) a b) m.length l.length = some x):dc l p m = some (true,x):=by unfold dc;rw [h0,h];rfl
def at0 {l:List Rw} {p m:List Fd} (h0:eg (fun i a b=>dm l (p.getD i default) a b) p.length l.length = none) (h:eg (fun i a b=>dt l (m.getD i default) a b) m.length l.length = none):dc l p m = none:=by unfold dc;rw [h0,h];rfl
end
end Go.Hx

/- A part of the proof: SrZ Ch5 X6 X7 X8 Ch6 X9 X10 Ch7 X11 Ch8. -/
import Derived.Shelf.SlSortCmp.NoneTotal
import Derived.Test.YteklilhbjjofbaaGreatDoorLb21
import Derived.Test.YteklilhbjjofbaaGreatDoorLb22
set_option linter.all false
set_option maxRecDepth 100000
namespace Go.Hx
section
open Go.Proofs Go.RowKit Go.Sort
section
variable {w:World}
def adx {w':World} (h:Below w.heap.size w w'):∃ q os,w' = grow (w.drewN q) os:=by
 refine ⟨w'.drawn - w.drawn,w'.heap.extract w.heap.size w'.heap.size, ?_⟩;have hd:=h.drawn;obtain ⟨h1,h2,h3,h4,h5,_⟩:=h
 cases w with
 | mk hp tp dr os out =>
 cases w' with
 | mk hp' tp' dr' os' out' =>
 dsimp only at *;subst h1 h2 h3;unfold grow World.drewN;simp only [World.mk.injEq,true_and,and_true];refine ⟨?_,by omega⟩;apply Array.ext_getElem?;intro k;rw [Array.getElem?_append];by_cases hk:k < hp.size
 · rw [if_pos hk,h5 k hk]
 rw [if_neg hk,Array.getElem?_extract];by_cases hk2:k < hp'.size
 · rw [if_pos b5c]
   congr 1;omega
 rw [if_neg b5c,b3w b5c]
variable {os:Array Obj} {α:Type} {d:Array α} {enc:α -> Value}
def adm [Inhabited α] {g m:Nat} {cur:Array Value} {e:TypeId} {fr:Nat × Nat} (h:w.heap[g]? = some (.cells cur e fr)):
 (sortWorld enc w g 0 m d os).heap[g]? = some (.cells (putCells enc 0 d cur) e fr):=by
 have hlt:=(b28.1 h).1;unfold sortWorld;rw [heap_grow_old _ _ (by simpa using hlt)];unfold putRow mapBlock;simp only [heap_ahead,b5a,if_true,h];rfl
def vr [Inhabited α] {g m:Nat} {b:Nat} (hb:b < w.heap.size) (hne:b ≠ g):(sortWorld enc w g 0 m d os).heap[b]? = w.heap[b]?:=by
 unfold sortWorld;rw [heap_grow_old _ _ (by simpa using hb)];unfold putRow mapBlock;simp only [heap_ahead,b5a,if_neg (Ne.symm hne)]
def adg [Inhabited α] {g m:Nat}:Below 0 w (sortWorld enc w g 0 m d os) :=
 ⟨rfl,rfl,rfl,by unfold sortWorld;simp,fun k hk=>absurd hk (b2c k),by unfold sortWorld grow;simp⟩
def ai5 [Inhabited α] {cur:Array Value} (h:d.size <= cur.size):(putCells enc 0 d cur).toList.take d.size = d.toList.map enc:=by
 apply b4a;intro k;rw [b2o,b2p,b3v,b3v];by_cases hk:k < d.size
 · rw [if_pos hk]
   unfold putCells;rw [Array.getElem?_mapIdx,b30 b5c,b30 hk];simp only [b2t,b2r,b58];rw [if_pos ⟨b2b _,hk⟩,getElem!_pos d k hk]
 rw [if_neg hk,b3w b5c];rfl
def ahi {P:Program} {ρ:Go.Shelf.Ren} {β:Type} [Inhabited β] (L:SlLaysF.n6 P ρ) (pc:β -> PV) (h1:∀ imm x v,aj imm (pc x) v -> v.oneCell' = true) (cf:β -> β -> Int) (hO:SWO (ltOf cf)) (hT:∀ x y,(ltOf cf) x y = false -> (ltOf cf) y x = false -> x = y)
 (g:Nat) (caps:Nat -> PV) (hg:∀ args w,(callFunc g args).run P w = .ok (.enter g args) w) (hc:∀ x y,a8 P g [.one (pc x), .one (pc y)] (ah [.one (.raw (.int .i64 (cf x y)))])) (id:Nat) (e:TypeId) (l:List β) (hsz:l.length <= 8589934592) :
 c4 P (ρ.f 6) [.one (.ref id l.length), .one (.p (.fn g 0 caps))] [(id, .arr true 1 e l.length (lf (fun x _=>pc x) l))] (.tup [])
  [(id, .arr true 1 e l.length (lf (fun x _=>pc x) (l.mergeSort fun x y=>!(ltOf cf) y x)))] [id]:=by
 intro w c us hM hus
 match us,hus with
 | [u,v],⟨hu,hv,_⟩ =>
  obtain ⟨cs,rfl,hcl,_⟩:=hv;have hcs:cs = []:=b3s hcl;subst hcs;have hl1:lk [(id,a6.arr true 1 e l.length (lf (fun x _=>pc x) l))] id = some (.arr true 1 e l.length (lf (fun x _=>pc x) l)):=by simp [lk]
  have hu2:=(hu.2.2 _ _ _ _ hl1 rfl).2 rfl;subst hu2;have hob:=hM.objs id _ hl1;obtain ⟨h0,hmax,h5⟩:=hob;have hlen:(l.mergeSort fun x y=>!(ltOf cf) y x).length = l.length:=b5b _
  have hev:∀ f':Nat -> Nat -> PV,Evo c (lk [(id,a6.arr true 1 e l.length (lf (fun x _=>pc x) l))]) c (lk [(id,a6.arr true 1 e l.length f')]) id:=fun f' =>
   .inr (.inr ⟨_, .arr true 1 e l.length f',1,e,l.length,l.length,hl1,rfl,by simp [lk],rfl,b29 _,fun _=>rfl,fun _ _ _ _ _ _ _ h=>by cases h⟩)
  rcases b3h l.length with hz | hpos
  ·
   have hl:l = []:=b3s hz;subst hl
   have hform:∃ ad cap,c.own id = .slice ad 0 cap:=by
    rcases h5 with ⟨_,xs,h2,_⟩ | ⟨_,_,ad,cap,hv,_⟩
    · rcases h2.2 with ⟨hv,_⟩ | ⟨g,cap,cur,hv,_⟩
      · exact ⟨none,0,hv⟩
      exact ⟨_,cap,hv⟩
    exact ⟨ad,cap,hv⟩
   obtain ⟨ad,cap,hown⟩:=hform;have hms:([]:List β).mergeSort (fun x y=>!(ltOf cf) y x) = []:=by simp
   rw [hown,hms];refine (AnyF.slices_SortFunc_none { L with } ad cap (.func (.func g) #[] #[]) w).mono ?_;rintro e' w' ⟨rfl,rfl⟩
   exact ⟨_,c,rfl,⟨[],rfl,trivial⟩,hM,Below.refl _ _,fun _ _ _=>⟨rfl,rfl⟩,fun id0 ob b ho hb=>.inr ⟨id0,ob,ho,hb⟩,fun id0 hid=>by
    rw [b2q.1 hid]
    exact Evo.refl _ _ _⟩
  obtain ⟨h6,xs,h2,h4⟩:c.blk id = eu (c.own id) /\ ∃ xs,w.ownsRow 0 e 1 (c.own id) l.length xs /\ ∀ i j,i < l.length -> j < 1 -> ∃ x,xs[i * 1 + j]? = some x /\ aj c.imm (lf (fun x _=>pc x) l i j) x:=by
   rcases h5 with h5 | ⟨h6 | h6,_⟩
   · exact h5
   · cases h6
   omega
  obtain ⟨hxl,hrow⟩:=h2
  rcases hrow with ⟨_,hz⟩ | ⟨b,cap,cur,hown,hbase,hheap,hnc,hcm,hcs,htake⟩
  · omega
  have hblk:c.blk id b:=by rw [h6,hown];rfl
  have hlt:b < w.heap.size:=(b28.1 hheap).1
  have hval:∀ i,i < l.length -> ∃ x,cur[i]? = some x /\ aj c.imm (pc (l.getD i default)) x:=fun i hi=>by
   obtain ⟨x,hx,hr⟩:=h4 i 0 hi b5c;rw [Nat.mul_one,b40,<- htake,b2o,if_pos b5c,b3v] at hx;exact ⟨x,hx,hr⟩
  let A:={ p:β × Value // aj c.imm (pc p.1) p.2 }
  let enc:A -> Value:=fun p=>p.1.2
  let fst:A -> β:=fun p=>p.1.1
  let cf':A -> A -> Int:=fun p q=>cf (fst p) (fst q)
  have hO':SWO (ltOf cf'):=⟨fun x=>hO.irrefl _,fun x y z=>hO.trans _ _ _,fun x y z=>hO.ntrans _ _ _⟩
  obtain ⟨d,hds,hdv⟩:∃ d:Array A,d.size = l.length /\ ∀ i,(hi:i < d.size) -> cur[i]? = some (enc d[i]) /\ fst d[i] = l.getD i default:=by
   refine ⟨Array.ofFn (n:=l.length) fun i=>⟨(l.getD i default,(hval i i.2).choose),(hval i i.2).choose_spec.2⟩,by simp,fun i hi=>?_⟩;rw [Array.getElem_ofFn];exact ⟨(hval i (by simpa using hi)).choose_spec.1,rfl⟩
  have hd0:0 < d.size:=by omega
  haveI:Inhabited A:=⟨d[0]⟩;have hen:∀ x:A,(enc x).oneCell' = true:=fun x=>h1 _ _ _ x.2
  have hH:Holds enc w b 0 d:=fun j hj=>by
   rw [b2r];refine ⟨?_,by simp [World.frozen?,hheap]⟩;rw [getElem!_pos d j hj];simp [World.cell?,hheap,(hdv j hj).1]
  have hcmp:CmpLays1 P g #[] enc cf' b 0 d.size w:=by
   intro m os dk hdk x y
   have hcimm:∀ b' ob,c.imm b' = some ob -> (sortWorld enc w b 0 m dk os).heap[b']? = some ob:=fun b' ob hb'=>by
    have hne:b' ≠ b:=fun he=>by
     have:=hM.sep id _ b hl1 hblk;rw [<- he,hb'] at this;cases this
    have hw:=hM.imm b' ob hb';rw [vr (b28.1 hw).1 hne];exact hw
   have h:=hc (fst x) (fst y) (sortWorld enc w b 0 m dk os) c.imm [enc x,enc y] c.tab hcimm ⟨x.2,y.2,trivial⟩;refine h.mono ?_;rintro e' w' ⟨v,imm',rfl,hr,_,_,hb⟩;obtain ⟨q,os',hq⟩:=adx hb;exact ⟨by rw [hr.1],q,os',hq⟩
  have hS:=Any.slices_SortFunc L enc hen cf' hO' g #[] b 0 cap d w hg hcmp hH hlt b5c;rw [hds] at hS;rw [hown];refine Calls.mono hS ?_;rintro e' w' ⟨rfl,d',m,os,hperm,hsorted,rfl⟩;have hsz':d'.size = l.length:=by rw [hperm.1,hds]
  obtain ⟨S,hSl,hSp⟩:∃ S:List A,S = d'.toList /\ S.map fst = l.mergeSort fun x y=>!(ltOf cf) y x:=by
   refine ⟨_,rfl, ?_⟩
   have hp:(d'.toList.map fst).Perm l:=by
    obtain ⟨_,_,hp⟩:=hperm;have e1:d'.extract 0 l.length = d':=by rw [<- hsz'];exact Array.extract_size
    have e2:d.extract 0 l.length = d:=by rw [<- hds];exact Array.extract_size
    rw [e1,e2] at hp;refine (hp.map fst).trans ?_
    have:d.toList.map fst = l:=by
     refine kx (by simp [hds]) fun j hj=>?_;have hj:j < d.size:=by simpa using hj
     rw [<- (hdv j hj).2,b26,b2p,b3v,b30 hj];rfl
    rw [this]
   refine List.Perm.eq_of_pairwise (le:=fun x y=>(!(ltOf cf) y x) = true) ?_ ?_ ?_ (hp.trans (List.mergeSort_perm _ _).symm)
   · intro a b _ _ h1 h2
     simp only [b39] at h1 h2;exact hT a b h2 h1
   · rw [List.pairwise_map,b44]
     intro i j hi hj hij;have hi':i < d'.size:=by simpa using hi
     have hj':j < d'.size:=by simpa using hj
     have:=hsorted i j (b2b _) hij b5c;rw [getElem!_pos d' j hj',getElem!_pos d' i hi'] at this;simp only [Array.getElem_toList,b39];exact this
   refine List.pairwise_mergeSort ?_ ?_ _
   · intro a b c h1 h2
     simp only [b39] at h1 h2 ⊢;exact hO.ntrans c b a h2 h1
   intro a b
   cases h:(ltOf cf) b a with
   | false=>simp
   | true=>simp [hO.asymmA h]
  obtain rfl:d' = S.toArray:=by rw [hSl]
  rw [<- hSp] at hlen ⊢;rw [b33] at hlen
  refine ⟨_,c,rfl,⟨[],rfl,trivial⟩,⟨fun id0 ob ho=>?_,fun id0 id1 ob0 ob1 b' ho0 ho1 _ _=>(ll ho0).1.trans (ll ho1).1.symm,fun b' ob hb'=>?_,fun id0 ob b' ho hb'=>?_⟩,adg,
   fun b' hb' hno=>⟨vr hb' (fun he=>hno id _ hl1 (by rw [he];exact hblk)),rfl⟩,fun id0 ob b' ho hb'=>.inr ⟨id,_,hl1,by rw [<- (ll ho).1];exact hb'⟩,fun id0 hid=>by
    rw [b2q.1 hid]
    exact hev _⟩
  · obtain ⟨rfl,rfl⟩:=ll ho
    refine ⟨h0,hmax, .inl ⟨h6,S.map enc,⟨by simp [hlen], .inr ⟨b,cap,putCells enc 0 S.toArray cur,hown,hbase,adm hheap,hnc,hcm,by simpa [putCells] using hcs, ?_⟩⟩,fun i j hi hj=>?_⟩⟩
    · have:=ai5 (enc:=enc) (d:=S.toArray) (cur:=cur) (by rw [b2z,hlen,hcs];omega)
      rw [b2z,hlen] at this;rw [Nat.mul_one];exact this
    obtain rfl:j = 0:=by omega
    have hi':i < S.length:=by rw [hlen];exact hi
    refine ⟨enc S[i], ?_, ?_⟩
    · rw [Nat.mul_one,b40,b2p,b25 hi']
      rfl
    show aj c.imm (pc ((S.map fst).getD i default)) _;rw [b26,b2p,b25 hi'];exact S[i].2
  · have hne:b' ≠ b:=fun he=>by
     have:=hM.sep id _ b hl1 hblk;rw [<- he,hb'] at this;cases this
    have hw:=hM.imm b' ob hb';rw [vr (b28.1 hw).1 hne];exact hw
  have:=(ll ho).1;subst this;exact hM.sep id0 _ b' hl1 hb'
 | [],h=>exact h.elim
 | [_],⟨_,h⟩=>exact h.elim
 | _ :: _ :: _ :: _,⟨_,_,h⟩=>exact h.elim
end
end
section
open Go.Proofs Go.RowKit Go.Sort
structure CpZ (l:List Rw) (k p q:Nat) (m:List Rw):Prop where
 len:m.length = l.length
 kq:k < q
 pq:p < q
 ql:q <= l.length
 pre:m.take p = j4 (l.take q)
 high:∀ j,q - 1 <= j -> m.getD j default = l.getD j default
section
variable {k:Nat} {l:List Rw}
theorem CpZ.start (h1:1 <= k) (hk:k < l.length) (h:∀ j,0 < j -> j < k -> ¬ l.getD j default = l.getD (j - 1) default) (hd:l.getD k default = l.getD (k - 1) default):CpZ l k k (k + 1) l :=
 ⟨rfl,by omega,by omega,by omega,by rw [gl b5c hk,if_pos hd.symm,b3b,p8 b5c h],fun _ _=>rfl⟩
theorem CpZ.skip {p q:Nat} {m:List Rw} (h:CpZ l k p q m) (hq:q < l.length) (he:m.getD q default = m.getD (q - 1) default):CpZ l k p (q + 1) m:=by
 have hk:=h.kq;refine ⟨h.len,by omega,by have:=h.pq;omega,hq, ?_,fun j hj=>h.high j b5c⟩;rw [h.high q b5c,h.high (q - 1) b5c] at he;rw [gl b5c hq,if_pos he.symm,b3b,h.pre]
theorem CpZ.keep {p q:Nat} {m:List Rw} (h:CpZ l k p q m) (hq:q < l.length) (he:¬ m.getD q default = m.getD (q - 1) default):CpZ l k (p + 1) (q + 1) (m.set p (m.getD q default)):=by
 have hk:=h.kq;have hp:=h.pq;have hl:=h.len;refine ⟨by simp [hl],by omega,by omega,hq, ?_,fun j hj=>by rw [getD_set_ne' b5c];exact h.high j b5c⟩;have e:=h.high q b5c;rw [e,h.high (q - 1) b5c] at he;rw [gl b5c hq,if_neg (fun e=>he e.symm),<- h.pre,bz (by simp [hl];omega),j1 b5c,e];congr 1;rw [List.take_set,b4x b5l]
def aa3 (hk:l.length <= k) (h:∀ j,0 < j -> j < k -> ¬ l.getD j default = l.getD (j - 1) default):CoP (.sl l.length 1 false (lf rC l)) (rl (j4 l)):=by
 have:=p8 (b29 l.length) fun j h1 h2=>h j h1 b5c;rw [b31] at this;rw [this];exact CoP.refl _
variable {a:Nat}
def amq {m:List Rw} {p q n d:Nat} {cl:Bool} {z:List Value} (hC:CpZ l k p q m) (hq:¬ q < l.length) (ha:p <= a):CoP (.sl (f0 (bd n (some (p:Int))) none) 1 cl (ne (k7 (lf rC m) a d z) none)) (rl (j4 l)):=by
 have e:=hC.pre;have h1:=hC.ql;have h2:=hC.len;have h3:=hC.pq;rw [show q = l.length by omega,b31] at e;have el:(j4 l).length = p:=by rw [<- e];simp;omega
 exact asb (by rw [el];rfl) rfl b5c (by rw [el,e])
def x9:∀ {l:List Rw} {p:Option Rw},l.Pairwise (fun a b=>ltZ b a = false) -> (∀ x,p = some x -> ∀ y ∈ l,ltZ y x = false) -> (it p l).Pairwise (fun a b=>ltZ a b = true) /\ ∀ x,p = some x -> ∀ y ∈ it p l,ltZ x y = true
 | [],p,_,_=>⟨by simp [it],fun x _ y hy=>by simp [it] at hy⟩
 | z :: l,p,h,hp=>by
  obtain ⟨h1,h2⟩:=b35.1 h;simp only [it];split
  · rename_i e
    subst e;exact x9 h2 fun x hx y hy=>hp x hx y (b3f _ hy)
  rename_i hne
  obtain ⟨q1,q2⟩:=x9 (p:=some z) h2 fun x hx y hy=>by
   simp only [b24] at hx;subst hx;exact h1 y hy
  refine ⟨b35.2 ⟨fun y hy=>q2 z rfl y hy,q1⟩,fun x hx y hy=>?_⟩
  have hxz:ltZ x z = true:=by
   have h3:=hp x hx z b3i
   rcases sa (a:=x) (b:=z) (fun e=>hne (by rw [hx,e])) with h4 | h4
   · exact h4
   rw [h3] at h4;cases h4
  rcases b2f.1 hy with rfl | hy
  · exact hxz
  exact gm hxz (q2 z rfl y hy)
variable {a' b':Nat}
def a0j {b:Nat} (h:l.getD a' default = l.getD b' default) (ha:a' = a) (hb:b' = b):l.getD a default = l.getD b default:=by subst ha hb;exact h
def a12 {b:Nat} (h:¬ l.getD a' default = l.getD b' default) (ha:a' = a) (hb:b' = b):¬ l.getD a default = l.getD b default:=by subst ha hb;exact h
def a6q {b:Nat} (h:decide (l.getD a' default = l.getD b' default) = true) (ha:a' = a) (hb:b' = b):l.getD a default = l.getD b default:=a0j (of_decide_eq_true h) ha hb
def a63 {b:Nat} (h:decide (l.getD a' default = l.getD b' default) = false) (ha:a' = a) (hb:b' = b):¬ l.getD a default = l.getD b default:=a12 (of_decide_eq_false h) ha hb
def qc {a b:Rw}:ltOf l6 a b = ltZ a b:=by
 rw [b51];show decide (l6 a b < 0) = true <-> _;rw [decide_eq_true_iff];exact xl
def ahy {x y z:Rw} (h:ltZ x y = false) (k:ltZ y z = false):ltZ x z = false:=by
 rw [b2e];intro e;by_cases hyz:y = z
 · subst hyz;rw [h] at e;cases e
 rcases sa hyz with h2 | h2
 · rw [k] at h2;cases h2
 rw [gm e h2] at h;cases h
def alw:SWO (ltOf l6) where
 irrefl x:=by rw [qc];exact oj x
 trans x y z h k:=by rw [qc] at *;exact gm h k
 ntrans x y z h k:=by rw [qc] at *;exact ahy h k
def srZ (l:List Rw):List Rw:=l.mergeSort fun x y=>!ltZ y x
def apd {x:Rw}:x ∈ srZ l <-> x ∈ l:=by unfold srZ;exact List.mem_mergeSort
def aek (l:List Rw):(srZ l).length = l.length:=b5b _
def am1 (l:List Rw):j4 (srZ l) = ae l:=by
 refine a9a (x9 ?_ fun x hx=>by cases hx).1 fun z=>by rw [aav,apd]
 have h:=List.pairwise_mergeSort (le:=fun x y:Rw=>!ltZ y x) (fun a b c h k=>by
  simp only [b39] at *
  exact ahy k h) (fun a b=>by
  simp only [b3p,b39];by_cases e:ltZ b a = true
  · right
    rw [b2e];intro e2;have:=gm e e2;rw [oj] at this;cases this
  left
  exact b2e.2 e) l
 refine h.imp fun {a b} hab=>?_;simpa using hab
def av8 {r:Rw} (h:(l.any fun x=>decide (x = r)) = true):r ∈ l:=by
 rw [b3a] at h;obtain ⟨x,hx,e⟩:=h;rwa [<- of_decide_eq_true e]
def ae6 {r:Rw} (h:(l.any fun x=>decide (x = r)) = false):r ∉ l:=fun e=>by
 rw [b3n] at h;exact h r e (decide_eq_true rfl)
def apy:Go.Hx.goodFn b62 135:=⟨Tryz.f135,Tryz.func135,by kernel_rfl,by kernel_rfl⟩
def b5q {p:Prop} (h:p:=by kernel_rfl):p:=h
def ata (id:Nat) (caps:Nat -> PV) (l:List Rw) (hsz:l.length <= 8589934592):c4 b62 135 [.one (.ref id l.length), .one (.p (.fn 136 0 caps))] [(id, .arr true 1 97 l.length (lf rC l))] (.tup [])
 [(id, .arr true 1 97 l.length (lf rC (srZ l)))] [id]:=by
 have h:=ahi Tryz.laysSortZ (fun r:Rw=>zl r) (fun imm x v hr=>by obtain ⟨ad,cap,h1,_⟩:=hr;rw [h1];rfl) l6 alw (fun x y h k=>by
  rw [qc] at h k;apply Classical.byContradiction;intro hne
  rcases sa hne with h2 | h2
  · rw [h] at h2;cases h2
  rw [k] at h2;cases h2) 136 caps (enters_of Tryz.func136 b5q rfl) (fun x y=>aod x y) id 97 l hsz
 have e:(fun x y:Rw=>!(ltOf l6) y x) = fun x y=>!ltZ y x:=by
  funext x y;rw [qc]
 rw [e] at h;exact h
end
end
section
open Go.Proofs
section
variable {p:Prop}
def b5k (h:p:=by first | rfl | (dsimp only;omega)):p:=h
def b5m (h:p:=by simp only [bd]; omega):p:=h
def b5n (h:p:=by first | rfl | (dsimp only; omega)):p:=h
def b5o (h:p:=by simp only [bd];omega):p:=h
def asn (l:List Rw):c4 b62 137 [.one (.ref 900 l.length), .one (.p (.fn 89 0 fun _=>.any))] [(900, .arr true 1 97 l.length (lf rC l))] (.v (.one (.p (rl (j4 l))))) [] []:=by
 refine hfx (nt:=66) Tryz.func137 ?_;refine c7 ?_;refine ag8 900 rfl fun hlen=>?_;refine dm ?_;refine hcd (fun h0=>?_) (fun h0=>?_)
 · refine w_5 ?_;refine bo 4 rfl rfl rfl ?_;refine hrr ?_;exact ⟨_,_,rfl,b5e,aa3 (k:=l.length) (b29 _) (fun j h1 h2=>by omega),trivial⟩
 refine w_7 ?_;refine am (ι:=Nat) (ka 0 (ka 1 kn)) (kb 900 km) (fun k=>⟨[(5,some (vI k))],[]⟩) (fun k=>1 <= k /\ k <= l.length /\ ∀ j,0 < j -> j < k -> ¬ l.getD j default = l.getD (j - 1) default) (fun k=>l.length - k) (1) (⟨b29 _,by omega,fun j h1 h2=>by omega⟩) kk ?_;rintro k ⟨hk1,hk,hI⟩;refine w_8 ?_;refine hcd (fun h1=>?_) (fun h1=>?_)
 ·
  refine ml ?_;refine qcx abb (ao1 _ _) ?_;refine w_2 ?_;refine hcb (fun h2=>?_) (fun h2=>?_)
  ·
   refine mj ?_;refine am (ι:=Nat × Nat × List Rw) (ka 0 (ka 1 (ka 6 kn))) km (fun x=>⟨[(5,some (vI x.1)),(7,some (vI ((x.2.1:Int) - k)))],[(900,some (.arr true 1 97 l.length (lf rC x.2.2)))]⟩) (fun x=>CpZ l k x.1 x.2.1 x.2.2) (fun x=>l.length - x.2.1) ((k,k + 1,l)) (CpZ.start hk1 b5c hI (by first | exact a0j b5d rfl b5c | exact a6q b5d rfl b5c)) ⟨⟨zy,⟨_,rfl,(coi b5k)⟩,trivial⟩,uu⟩ ?_;rintro ⟨p,q,m⟩ hC;have hC0:=hC;obtain ⟨hml,hkq,hpq,hql,_,_⟩:=hC0;dsimp only at hC hml hkq hpq hql;refine w_8 ?_;refine hcd (fun h3=>?_) (fun h3=>?_)
   ·
    simp only [f0,bd,b2k] at h3;refine ml ?_;refine qcx abb (ao1 _ _) ?_;refine w_3 ?_;refine hcv (fun h4=>?_) (fun h4=>?_)
    ·
     refine alm ?_
     first | (refine lpz (p + 1, q + 1, m.set p (m.getD q default)) ⟨⟨⟨_, rfl, (coi b5n)⟩, ⟨_, rfl, (coi b5n)⟩, tt⟩, ⟨⟨_, rfl, (af6 id hml.symm b5c (by dsimp only; omega) b5m)⟩, trivial⟩⟩ ?_; exact hC.keep b5c (by first | exact a12 b5d b5m b5m | exact a63 b5d b5m b5m))
           | (refine lpz (p,q + 1,m) ⟨⟨⟨_,rfl,(coi b5k)⟩,⟨_,rfl,(coi b5k)⟩,tt⟩,uu⟩ ?_;exact hC.skip b5c (by first | exact a0j b5d b5o b5o | exact a6q b5d b5o b5o))
    refine w_6 ?_
    first | (refine lpz (p + 1, q + 1, m.set p (m.getD q default)) ⟨⟨⟨_, rfl, (coi b5n)⟩, ⟨_, rfl, (coi b5n)⟩, tt⟩, ⟨⟨_, rfl, (af6 id hml.symm b5c (by dsimp only; omega) b5m)⟩, trivial⟩⟩ ?_; exact hC.keep b5c (by first | exact a12 b5d b5m b5m | exact a63 b5d b5m b5m))
          | (refine lpz (p,q + 1,m) ⟨⟨⟨_,rfl,(coi b5k)⟩,⟨_,rfl,(coi b5k)⟩,tt⟩,uu⟩ ?_;exact hC.skip b5c (by first | exact a0j b5d b5o b5o | exact a6q b5d b5o b5o))
   simp only [f0,bd,b2k] at h3;refine w_6 ?_;refine r9 0 true ?_;refine w_5 ?_;refine aur rfl rfl rfl rfl rfl ?_;refine w_2 ?_;refine hrr ?_;exact ⟨_,_,rfl,b5e,amq hC b5c (by simp [bd]),trivial⟩
  refine w_6 ?_;refine lpz (k + 1) kk ?_;refine ⟨by omega,by show k + 1 <= _;omega,fun j h1 h2=>?_⟩
  rcases b4h (b56 h2) with h | h
  · exact hI j h1 h
  subst h
  first | exact a12 b5d rfl b5c | exact a63 b5d rfl b5c
 refine w_6 ?_;refine bo 4 rfl rfl rfl ?_;refine hrr ?_;exact ⟨_,_,rfl,b5e,aa3 (k:=k) b5c hI,trivial⟩
end
end
section
open Go.Proofs
def acq:goodFn b62 94:=wgx Tryz.func94
def a5q (n:Int) (l:List Rw) (hl:l.length <= 8589934592):c4 b62 94 [.agg [.p (.raw (.int .i64 n)), .ref 900 l.length]] [(900, .arr true 1 97 l.length (lf rC l))] (.v (.agg [.p (.raw (.int .i64 n)), .p (rl (ae l))])) [] []:=by
 refine hfx (nt:=11) Tryz.func94 ?_;refine sx7 ?_;refine m9 0 ?_;refine m9 1 ?_;refine w_5 ?_;refine fc9 apy (ata 900 _ l hl) uu ?_;refine w_5 ?_;refine fl rfl rfl rfl rfl rfl rfl (wgx Tryz.func137) (asn (srZ l)) (⟨congrArg (HV.ref 900) (aek l).symm,CoP.refl _,trivial⟩) ⟨⟨_,rfl,x3 rfl (aek l).symm⟩,trivial⟩ rfl rfl ?_;refine w_8 ?_;refine hrr ?_;exact ⟨_,_,rfl,b5e,CoR.of_eq (by rw [<- am1];rfl),trivial⟩
end
section
open Go.Proofs
def a74:goodFn b62 120:=wgx Tryz.func120
def akm (n:Int) (l:List Rw) (hl:l.length <= 5864062014805):c4 b62 120 [.one (.p (.raw (.int .i64 n))), .one (.p (rl l))] [] (.v (.agg [.p (.raw (.int .i64 n)), .ref 900 (ae l).length])) [(900, .arr true 1 97 (ae l).length (lf rC (ae l)))] []:=by
 refine hfx (nt:=74) Tryz.func120 ?_;refine c7 ?_;refine ca 1 rfl fun hn=>?_;refine gy ?_;refine m9 0 ?_;refine w_5 ?_;refine m9 1 ?_;refine w_2 ?_;refine er 1 1 900 true 1 97 (lf rC (ae (l.take 0))) b5i rfl rfl (CoP.sl rfl (.inr rfl) (fun h=>h) (fun i j hi _=>absurd hi (b2c i))) (.inr rfl) rfl rfl ?_;refine w_6 ?_;refine ce (ka 1 (ka 4 (ka 5 kn))) (kb 0 km) (fun i=>⟨[(6,some (vI i))],[(1,some (.box [.p (.raw (.int .i64 n)), .ref 900 (ae (l.take i)).length])),(900,some (.arr true 1 97 (ae (l.take i)).length (lf rC (ae (l.take i)))))]⟩) l.length kk ?_;rintro i hi;have hlen:=uj (l.take i);rw [b2g] at hlen;refine w_8 ?_;refine hcd (fun h0=>?_) (fun h0=>?_)
 ·
  refine dn ?_;refine qcx a0d (ze n (ae (l.take i)) (l.getD i default)) ?_;refine w_2 ?_;refine hcb (fun h1=>?_) (fun h1=>?_)
  ·
   have hin:=av8 h1;refine w_6 ?_
   first | (refine lpz (i + 1) ⟨tt, ⟨⟨_, rfl, ⟨CoH.refl _, congrArg (HV.ref 900) (by rw [df b5c, ol (ef _) hin]), trivial⟩⟩, ⟨_, rfl, (jl (by rw [df b5c, ol (ef _) hin]))⟩, uu⟩⟩ ?_; show i + 1 <= _; omega)
         | (refine lpz (i + 1) ⟨tt,⟨⟨_,rfl,⟨CoH.refl _,congrArg (HV.ref 900) (by rw [df b5c,<- hfin,ir hk]),trivial⟩⟩,⟨_,rfl,(x3 (by rw [df b5c,<- hfin]) (by rw [df b5c,<- hfin,ir hk]))⟩,uu⟩⟩ ?_;show i + 1 <= _;omega)
  have hin:=ae6 h1;refine w_9 ?_;refine m9 2 ?_;refine r9 3 true ?_;refine mj ?_;refine am (ι:=Nat) (ka 1 (ka 4 (ka 5 (ka 6 kn)))) (kb 1 (kb 0 km)) (fun k=>⟨[(7,some (vI k))],[(900,some (.arr true 1 97 ((ae (l.take i)).length + 1) (lf rC (gw (ae (l.take i)) k (l.getD i default)))))]⟩) (fun k=>k <= (ae (l.take i)).length /\ ∀ j,k <= j -> j < (ae (l.take i)).length -> ltZ (l.getD i default) ((ae (l.take i)).getD j default) = true) (fun k=>k) ((ae (l.take i)).length) (⟨b29 _,fun j h1 h2=>by omega⟩) ⟨tt,⟨⟨_,rfl,(by rw [amk];exact aox (CoP.refl _))⟩,trivial⟩⟩ ?_;rintro k ⟨hk,hK⟩;refine w_6 ?_;refine ag rfl rfl (fun r2=>?_) (fun r2=>?_)
  ·
   have h2:=tz1 r2;(iterate 11 refine qy ?_ (hg:=(gtt r2)));refine qcx (wgx Tryz.func160) (aoo _ _) ?_ (hg:=(gtt r2));refine w_3 ?_;refine al _ rfl (fun r3=>?_) (fun r3=>?_)
   ·
    have h3:=cn r2 r3;have hb:=ak6 b5c hk h3 b5c b5c;refine w_3 ?_;refine ae7 (E:=ph) qe pz [0,1,2,7,8,9,10,11,12,13,14,15,16,17,18,19,3,4,5,6,20,21] ?_;refine al9 ?_;refine ⟨k - 1, ?_, ?_, ?_⟩
    · refine ⟨by omega,fun j h1 h2=>?_⟩
      by_cases hj:j = k - 1
      · rw [hj];exact hb
      exact hK j b5c h2
    · show k - 1 < k
      omega
    exact ⟨tt,⟨⟨_,rfl,(aio b5c hk b5c b5c rfl)⟩,uu⟩⟩
   have h3:=cn r2 r3;have hb:=ak6 b5c hk h3 b5c b5c;have hfin:=a7k (ef _) hin hk hK (.inr (by rw [hb];decide));refine w_6 ?_
   first | (refine lpz (i + 1) ⟨tt, ⟨⟨_, rfl, ⟨CoH.refl _, congrArg (HV.ref 900) (by rw [df b5c, ol (ef _) hin]), trivial⟩⟩, ⟨_, rfl, (jl (by rw [df b5c, ol (ef _) hin]))⟩, uu⟩⟩ ?_; show i + 1 <= _; omega)
         | (refine lpz (i + 1) ⟨tt,⟨⟨_,rfl,⟨CoH.refl _,congrArg (HV.ref 900) (by rw [df b5c,<- hfin,ir hk]),trivial⟩⟩,⟨_,rfl,(x3 (by rw [df b5c,<- hfin]) (by rw [df b5c,<- hfin,ir hk]))⟩,uu⟩⟩ ?_;show i + 1 <= _;omega)
  have h2:=tz2 r2;have hfin:=a7k (ef _) hin hk hK (.inl b5c);(iterate 12 refine k9 (gft r2) ?_);refine dm ?_
  first | (refine lpz (i + 1) ⟨tt, ⟨⟨_, rfl, ⟨CoH.refl _, congrArg (HV.ref 900) (by rw [df b5c, ol (ef _) hin]), trivial⟩⟩, ⟨_, rfl, (jl (by rw [df b5c, ol (ef _) hin]))⟩, uu⟩⟩ ?_; show i + 1 <= _; omega)
        | (refine lpz (i + 1) ⟨tt,⟨⟨_,rfl,⟨CoH.refl _,congrArg (HV.ref 900) (by rw [df b5c,<- hfin,ir hk]),trivial⟩⟩,⟨_,rfl,(x3 (by rw [df b5c,<- hfin]) (by rw [df b5c,<- hfin,ir hk]))⟩,uu⟩⟩ ?_;show i + 1 <= _;omega)
 obtain rfl:i = l.length:=by omega
 refine w_6 ?_;refine hrr ?_;exact ⟨_,_,rfl,b5e,CoR.of_eq (by rw [b31];rfl),⟨⟨_,rfl,CoO.of_eq (by rw [b31])⟩,trivial⟩⟩
def a2o (n:Int) (l:List Rw) (hl:l.length <= 5864062014805):a8 b62 120 [pI n,pR l] (ah [pT n (ae l)]) :=
 c4.pure (args:=[pI n,pR l]) (l:=[.agg [.p (.raw (.int .i64 n)), .ref 900 (ae l).length]]) (akm n l hl) rfl ⟨⟨trivial,rfl,trivial⟩,trivial⟩
end
section
abbrev nM (l:List Rw):Nat -> Nat:=fun i=>(l.getD i default).length
abbrev be (l:List Rw):Nat -> Nat -> Int:=fun i r=>(l.getD i default).getD r default
abbrev mg (M:Nat -> Nat -> Int):Nat -> Nat -> Nat -> PV:=fun i r _=>.raw (.int .i64 (M i r))
section
variable {e et:TypeId} {i k:Nat}
def a7r {l:List Rw} {f:Nat -> Nat -> PV} (hk:k = (l.getD i default).length) (hf:f = lf zC (l.getD i default)):
 CoO (.nest e et 1 (i + 1) (lq (nM l) i k) (np (mg (be l)) i f) none) (.nest e et 1 (i + 1) (nM l) (mg (be l)) none):=by
 subst hk hf
 have hm:∀ j,lq (nM l) i (l.getD i default).length j = nM l j:=fun j=>by
  by_cases h:j = i
  · subst h;rw [a68]
  rw [yh h]
 refine ⟨rfl,rfl,rfl,rfl,rfl,fun j _=>(hm j).symm,fun j r c hj hr hc=>CoP.of_eq ?_⟩;by_cases h:j = i
 · subst h
   rw [aec];rfl
 rw [aa1 h]
abbrev hiI (x y:Int):Int:=if x < y then y else x
abbrev loI (x y:Int):Int:=if y < x then y else x
def io (M:Nat -> Nat -> Int) (hi lo:Int) (i k:Nat):Nat -> Nat -> Int:=fun i' r=>if (i' < i \/ (i' = i /\ r < k)) /\ M i' r = hi then lo else M i' r
def eqM (M:Nat -> Nat -> Int) (a b j:Nat):Nat -> Nat -> Int:=fun i r=>if M i r = hiI (M a j) (M b j) then loI (M a j) (M b j) else M i r
def eqMs (M:Nat -> Nat -> Int) (a b:Nat) (js:List Nat):Nat -> Nat -> Int:=js.foldl (fun M j=>eqM M a b j) M
def cj (l:List Rw) (M:Nat -> Nat -> Int):List Rw:=(List.range l.length).map fun i=>(List.range (l.getD i default).length).map (M i)
def i9 (l:List Rw) (M:Nat -> Nat -> Int):(cj l M).length = l.length:=by unfold cj;simp
variable {M:Nat -> Nat -> Int}
def a7h {l:List Rw} (h:i < l.length):(cj l M).getD i default = (List.range (l.getD i default).length).map (M i):=by
 unfold cj;rw [b26,b2p,b38 h];rfl
variable {hi lo:Int}
def a7x:io M hi lo 0 0 = M:=by
 funext i r;unfold io;rw [if_neg b5c]
def a4x (h:io M hi lo i k i k = hi):io M hi lo i (k + 1) = fun i' r=>if i' = i /\ r = k then lo else io M hi lo i k i' r:=by
 have h0:M i k = hi:=by
  unfold io at h;rwa [if_neg b5c] at h
 funext i' r;unfold io;by_cases e:i' = i /\ r = k
 · rw [if_pos e,if_pos ⟨.inr ⟨e.1,by omega⟩,by rw [e.1,e.2];exact h0⟩]
 rw [if_neg e];by_cases e2:(i' < i \/ (i' = i /\ r < k)) /\ M i' r = hi
 · rw [if_pos e2,if_pos ⟨e2.1.imp_right fun x=>⟨x.1,by omega⟩,e2.2⟩]
 rw [if_neg e2,if_neg fun e3=>e2 ⟨by omega,e3.2⟩]
def a5k (h:¬ io M hi lo i k i k = hi):io M hi lo i (k + 1) = io M hi lo i k:=by
 have h0:¬ M i k = hi:=by
  unfold io at h;rwa [if_neg b5c] at h
 funext i' r;unfold io;by_cases e:i' = i /\ r = k
 · rw [if_neg (fun x=>h0 (by rw [<- e.1,<- e.2];exact x.2)),if_neg (fun x=>h0 (by rw [<- e.1,<- e.2];exact x.2))]
 by_cases e2:(i' < i \/ (i' = i /\ r < k)) /\ M i' r = hi
 · rw [if_pos e2,if_pos ⟨e2.1.imp_right fun x=>⟨x.1,by omega⟩,e2.2⟩]
 rw [if_neg e2,if_neg fun e3=>e2 ⟨by omega,e3.2⟩]
variable {M':Nat -> Nat -> Int} {m:Nat -> Nat} {n:Nat}
def a11 {i0 k0:Nat} {v:Int} (hM:M' = fun i' r=>if i' = i /\ r = k then v else M i' r) (hi:i0 = i) (hk:k0 = k):
 CoO (.nest e et 1 n m (kr (mg M) i0 k0 0 [.raw (.int .i64 v)]) none) (.nest e et 1 n m (mg M') none):=by
 subst hi hk hM;refine ⟨rfl,rfl,rfl,rfl,rfl,fun j _=>rfl,fun j r c hj hr hc=>CoP.of_eq ?_⟩;obtain rfl:c = 0:=by omega
 unfold kr;by_cases h:j = i0
 · rw [if_pos h]
   unfold dw;by_cases h2:r = k0
   · rw [if_pos ⟨h2,by omega,by simp⟩]
     show _ = PV.raw (.int .i64 (if j = i0 /\ r = k0 then v else M j r));rw [if_pos ⟨h,h2⟩];rfl
   rw [if_neg (fun x=>h2 x.1)];show _ = PV.raw (.int .i64 (if j = i0 /\ r = k0 then v else M j r));rw [if_neg (fun x=>h2 x.2)]
 rw [if_neg h];show _ = PV.raw (.int .i64 (if j = i0 /\ r = k0 then v else M j r));rw [if_neg (fun x=>h x.1)]
def mb (h:∀ i r,i < n -> r < m i -> M' i r = M i r):CoO (.nest e et 1 n m (mg M) none) (.nest e et 1 n m (mg M') none) :=
 ⟨rfl,rfl,rfl,rfl,rfl,fun _ _=>rfl,fun j r c hj hr hc=>CoP.of_eq (by show PV.raw (.int .i64 (M j r)) = PV.raw (.int .i64 (M' j r));rw [h j r hj hr])⟩
def aal (hk:¬ k < m i):∀ i' r,i' < n -> r < m i' -> io M hi lo (i + 1) 0 i' r = io M hi lo i k i' r:=fun i' r h1 h2=>by
 unfold io;by_cases e2:(i' < i \/ (i' = i /\ r < k)) /\ M i' r = hi
 · rw [if_pos e2,if_pos ⟨by omega,e2.2⟩]
 rw [if_neg e2,if_neg fun e3=>e2 ⟨by
  rcases b4w i' i with h | h
  · exact .inl h
  right;obtain rfl:i' = i:=by omega
  exact ⟨rfl,by omega⟩,e3.2⟩]
def t7 {a b j:Nat} (hn:¬ i < n):∀ i' r,i' < n -> r < m i' -> eqM M a b j i' r = io M (hiI (M a j) (M b j)) (loI (M a j) (M b j)) i 0 i' r:=fun i' r h1 h2=>by
 unfold io eqM;by_cases e2:M i' r = hiI (M a j) (M b j)
 · rw [if_pos e2,if_pos ⟨by omega,e2⟩]
 rw [if_neg e2,if_neg fun e3=>e2 e3.2]
def o9 {a b j:Nat} (h:M a j = M b j):eqM M a b j = M:=by
 funext i r;unfold eqM;have e1:hiI (M a j) (M b j) = M b j:=by unfold hiI;rw [if_neg b5c,h]
 have e2:loI (M a j) (M b j) = M b j:=by unfold loI;rw [if_neg b5c,h]
 rw [e1,e2];by_cases e:M i r = M b j
 · rw [if_pos e,e]
 rw [if_neg e]
def ug {a b:Nat} {js:List Nat} (h:i < js.length):eqMs M a b (js.take (i + 1)) = eqM (eqMs M a b (js.take i)) a b (js.getD i default):=by
 unfold eqMs;rw [bz h,b4l];rfl
def ahx (s:AS):(b6 s).length <= 32:=b37 (List.length_filter_le _ _) b5f
def anj {l:List Nat} {j:Nat} (h:j < l.length):l.getD j default ∈ l:=by
 rw [b26,b25 h];exact b2l h
def aen {l:List Rw} (hn:n = l.length):CoO (.arr true 1 e n (ud 1 (nM l) (mg M))) (.arr true 1 e (cj l M).length (lf rC (cj l M))):=by
 subst hn;refine ⟨fun h=>h,rfl,rfl,i9 l M,fun i j hi hj=>?_⟩;show CoP (.sl (l.getD i default).length 1 false (mg M i)) (zl ((cj l M).getD i default));rw [a7h hi];refine CoP.sl b5f (.inl rfl) (fun h=>h) fun r c hr hc=>CoP.of_eq ?_;show PV.raw (.int .i64 (M i r)) = PV.raw (.int .i64 (((List.range (l.getD i default).length).map (M i)).getD r default));rw [b26,b2p,b38 hr];rfl
end
end
section
open Go.Proofs
def am2 (n:Int) (l:List Rw) (hl:∀ i,i < l.length -> (l.getD i default).length <= 17592186044416) (hl2:l.length <= 5864062014805):c4 b62 125 [.agg [.p (.raw (.int .i64 n)), .p (rl l)]] [] (.v (.agg [.p (.raw (.int .i64 n)), .ref 901 l.length])) [(901, .nest 97 3 1 l.length (nM l) (mg (be l)) none)] []:=by
 refine hfx (nt:=25) Tryz.func125 ?_;refine sx7 ?_;refine m9 0 ?_;refine m9 1 ?_;refine w_6 ?_;refine m9 2 ?_;refine w_2 ?_;refine a6c 2 1 901 97 3 1 (nM l) (mg (be l)) b5i rfl rfl rfl rfl ?_;refine w_9 ?_;refine ce (ka 2 (ka 3 (ka 10 (ka 11 kn)))) (kb 1 km) (fun i=>⟨[(12,some (vI i))],[(2,some (.box [.p (.raw (.int .i64 n)), .ref 901 i])),(901,some (.nest 97 3 1 i (nM l) (mg (be l)) none))]⟩) l.length kk ?_;rintro i hi;refine w_5 ?_;refine hcd (fun h0=>?_) (fun h0=>?_)
 · refine mj ?_;refine fc9 a6s ((a69 (l.getD i default).length false (lf zC (l.getD i default)) (hl i b5c)).swap 0 907) trivial ?_;refine m9 3 ?_;refine r9 4 true ?_;refine w_4 ?_;refine a7l 901 907 rfl rfl ?_;refine w_4 ?_;exact lpx (i + 1) ⟨tt,⟨u9,⟨_,rfl,(a7r rfl rfl)⟩,uu⟩⟩
 obtain rfl:i = l.length:=by omega
 refine w_6 ?_;refine hrr ?_;exact ⟨_,_,rfl,b5e,CoR.refl _,uu⟩
end
section
open Go.Proofs
def ar5 (n:Int) (l:List Rw) (s:AS) (a b:Nat) (hl:∀ i,i < l.length -> (l.getD i default).length <= 17592186044416) (hl2:l.length <= 8589934592) (ha:a < l.length) (hb:b < l.length) (hs:∀ j,j ∈ b6 s -> ∀ i,i < l.length -> j < (l.getD i default).length):a8 b62 130 [pT n l,pA s,pI (a:Int),pI (b:Int)] (ah [pT n (ae (cj l (eqMs (be l) a b (b6 s))))]):=by
 refine hpx (nt:=76) Tryz.func130 ?_;refine sx7 ?_;refine m9 0 ?_;refine m9 1 ?_;refine w_4 ?_;refine fc9 a6t (am2 n l hl b5c) trivial ?_;refine m9 2 ?_;refine w_6 ?_;refine qcx (wgx Tryz.func164) (axv s) ?_;refine w_4 ?_;refine ce (ka 2 (ka 3 (ka 8 (ka 9 (ka 20 (ka 21 kn)))))) (kb 1 (kb 2 km)) (fun q=>⟨[(22,some (vI q))],[(901,some (.nest 97 3 1 l.length (fun i=>(l.getD i default).length) (mg (eqMs (be l) a b ((b6 s).take q))) none))]⟩) ((b6 s).length) kk ?_;rintro q hq;have hm32:=ahx s;refine w_5 ?_;refine hcd (fun h0=>?_) (fun h0=>?_)
 ·
  have hjm:((b6 s).getD q default) ∈ b6 s:=anj b5c;have hja:=hs _ hjm a ha;have hjb:=hs _ hjm b hb;refine za ?_;refine rq rfl rfl rfl rfl rfl ?_ (hp:=(by (try simp only [b2k,nM]);(repeat' apply And.intro) <;> first | trivial | rfl | omega | exact b27 rfl));refine w_7 ?_;refine rq rfl rfl rfl rfl rfl ?_ (hp:=(by (try simp only [b2k,nM]);(repeat' apply And.intro) <;> first | trivial | rfl | omega | exact b27 rfl));refine pe ?_;refine hcd (fun h1=>?_) (fun h1=>?_)
  ·
   refine w_5 ?_
   first | (refine lpz (q + 1) ⟨tt, ⟨⟨_, rfl, (by rw [ug b5c, o9 b5d]; exact CoO.refl _)⟩, uu⟩⟩ ?_; show q + 1 <= _; omega)
         | (refine lpz (q + 1) ⟨tt,⟨⟨_,rfl,(by rw [ug b5c];exact mb (t7 b5c))⟩,uu⟩⟩ ?_;show q + 1 <= _;omega)
  refine w_9 ?_;refine ce (ka 2 (ka 3 (ka 8 (ka 9 (ka 12 (ka 13 (ka 20 (ka 21 (ka 22 (ka 46 (ka 47 kn))))))))))) (kb 1 (kb 2 km)) (fun i=>⟨[(48,some (vI i))],[(901,some (.nest 97 3 1 l.length (fun i=>(l.getD i default).length) (mg (io (eqMs (be l) a b ((b6 s).take q)) (hiI ((eqMs (be l) a b ((b6 s).take q)) a ((b6 s).getD q default)) ((eqMs (be l) a b ((b6 s).take q)) b ((b6 s).getD q default))) (loI ((eqMs (be l) a b ((b6 s).take q)) a ((b6 s).getD q default)) ((eqMs (be l) a b ((b6 s).take q)) b ((b6 s).getD q default))) i 0)) none))]⟩) l.length ⟨tt,⟨⟨_,rfl,(by rw [a7x];exact CoO.refl _)⟩,trivial⟩⟩ ?_;rintro i hi;refine w_5 ?_;refine hcd (fun h2=>?_) (fun h2=>?_)
  ·
   have hli:=hl i b5c;refine og ?_;refine ce (ka 2 (ka 3 (ka 8 (ka 9 (ka 12 (ka 13 (ka 15 (ka 20 (ka 21 (ka 22 (ka 46 (ka 47 (ka 48 (ka 53 kn)))))))))))))) (kb 1 (kb 2 km)) (fun k=>⟨[(54,some (vI k))],[(901,some (.nest 97 3 1 l.length (fun i=>(l.getD i default).length) (mg (io (eqMs (be l) a b ((b6 s).take q)) (hiI ((eqMs (be l) a b ((b6 s).take q)) a ((b6 s).getD q default)) ((eqMs (be l) a b ((b6 s).take q)) b ((b6 s).getD q default))) (loI ((eqMs (be l) a b ((b6 s).take q)) a ((b6 s).getD q default)) ((eqMs (be l) a b ((b6 s).take q)) b ((b6 s).getD q default))) i k)) none))]⟩) ((l.getD i default).length) kk ?_;rintro k hk;refine w_5 ?_;refine hcd (fun h3=>?_) (fun h3=>?_)
   ·
    refine pe ?_;(iterate 2 refine rq rfl rfl rfl rfl rfl ?_ (hp:=(by (try simp only [b2k,nM]);(repeat' apply And.intro) <;> first | trivial | rfl | omega | exact b27 rfl)));refine w_5 ?_;refine hcd (fun h4=>?_) (fun h4=>?_)
    · refine w_6 ?_;refine rq rfl rfl rfl rfl rfl ?_ (hp:=(by (try simp only [b2k,nM]);(repeat' apply And.intro) <;> first | trivial | rfl | omega | exact b27 rfl));refine rs rfl rfl rfl rfl rfl ?_ (hp:=(by (try simp only [b2k,nM]);(repeat' apply And.intro) <;> first | trivial | rfl | omega | exact b27 rfl));refine w_5 ?_;exact lpx (k + 1) ⟨tt,⟨⟨_,rfl,(by first | exact a11 (a4x b5d) b5f b5f | (rw [a5k b5d];exact CoO.refl _))⟩,uu⟩⟩
    refine w_5 ?_;exact lpx (k + 1) ⟨tt,⟨⟨_,rfl,(by first | exact a11 (a4x b5d) b5f b5f | (rw [a5k b5d];exact CoO.refl _))⟩,uu⟩⟩
   refine w_5 ?_;exact lpx (i + 1) ⟨tt,⟨⟨_,rfl,(mb (aal b5c))⟩,uu⟩⟩
  refine w_5 ?_
  first | (refine lpz (q + 1) ⟨tt, ⟨⟨_, rfl, (by rw [ug b5c, o9 b5d]; exact CoO.refl _)⟩, uu⟩⟩ ?_; show q + 1 <= _; omega)
        | (refine lpz (q + 1) ⟨tt,⟨⟨_,rfl,(by rw [ug b5c];exact mb (t7 b5c))⟩,uu⟩⟩ ?_;show q + 1 <= _;omega)
 obtain rfl:q = (b6 s).length:=by omega
 refine w_2 ?_;refine af0 901 rfl ?_;refine w_2 ?_;refine fl rfl rfl rfl rfl rfl rfl acq ((a5q n (cj l (eqMs (be l) a b (b6 s))) (by rw [i9];omega)).swap 900 901) (⟨⟨CoP.refl _,congrArg (HV.ref 901) (i9 _ _).symm,trivial⟩,trivial⟩) ⟨⟨_,rfl,(by rw [b31];exact aen rfl)⟩,trivial⟩ rfl rfl ?_;refine v_2 ?_;exact CoL.refl _
end
section
def ny (n:Int) (l:List Rw) (row:Rw):Int × List Rw × Int:=if 256 < (ae (l ++ [row])).length then (0,[],3) else (n,ae (l ++ [row]),0)
def aw {s:Nat} {f:Nat -> Nat -> PV}:CoP (.sl 0 s true f) (rl []):=CoP.sl rfl (.inr rfl) (fun h=>by cases h) fun i j hi _=>absurd hi (b2c i)
def fdE (n:Int) (l:List Rw) (a b:Nat) (x:Fd):Int × List Rw × Int:=if gu (l.getD a default) (l.getD b default) x.lhs = true then (n,ae (cj l (eqMs (be l) a b (b6 x.rhs))),0) else (0,[],1)
def mvE (n:Int) (l:List Rw) (a b:Nat) (x:Fd):Int × List Rw × Int:=if gu (l.getD a default) (l.getD b default) x.lhs = true then ny n l (cq (l.getD a default) (l.getD b default) (x.lhs ||| x.rhs)) else (0,[],1)
def ew {n:Int} {l:List Rw} (h:tok n l = true):0 <= n /\ n <= 16 /\ l.length <= 256 /\ ∀ i,i < l.length -> (l.getD i default).length = n.toNat:=by
 unfold tok at h;rw [b2h,decide_eq_true_iff,decide_eq_true_iff] at h;obtain ⟨⟨h0,h1,h2⟩,h3⟩:=h;refine ⟨h0,h1,h2,fun i hi=>?_⟩;have:=h3 i hi;unfold jv at this;rw [b2h,b2h,decide_eq_true_iff] at this;omega
def a0v {n:Int} (h0:0 <= n) (h1:n <= 16) {x:Fd} (h:inU n x = true) {j:Nat} (hj:j ∈ b6 x.rhs):j < n.toNat:=by
 obtain ⟨_,h3⟩:=(ot h0 h1).1 h;obtain ⟨h4,h5⟩:=uz.1 hj;have h6:x.rhs >>> n.toNat = 0:=(xn (n:=n.toNat) b5c).1 (by unfold bi at h3;rwa [b3o b5c] at h3)
 rcases b4w j n.toNat with h | h
 · exact h
 rw [aun.1 h6 j h4 h] at h5;cases h5
end
section
open Go.Proofs
def axx (n:Int) (l:List Rw) (row:Rw) (hl:∀ i,i < l.length -> (l.getD i default).length <= 17592186044416) (hl2:l.length <= 4294967296):a8 b62 131 [pT n l,pZ row] (ah [pT (ny n l row).1 (ny n l row).2.1,pI (ny n l row).2.2]):=by
 refine hpx (nt:=23) Tryz.func131 ?_;refine sx7 ?_;refine m9 0 ?_;refine m9 1 ?_;refine w_5 ?_;refine fc9 a6t (aew n l hl b5c) trivial ?_;refine m9 2 ?_;refine w_7 ?_;refine m9 3 ?_;refine r9 4 true ?_;refine w_6 ?_;refine fl rfl rfl rfl rfl rfl rfl acq ((a5q n (l ++ [row]) b5l).swap 900 901) (⟨⟨CoP.refl _,congrArg (HV.ref 901) b5f,trivial⟩,trivial⟩) ⟨⟨_,rfl,ji rfl (CoP.refl _)⟩,trivial⟩ rfl rfl ?_;refine dm ?_;refine hcd (fun h0=>?_) (fun h0=>?_)
 · refine w_6 ?_;refine hrr ?_;have he:ny n l row = (0,[],3):=if_pos b5c;exact f9 rfl rfl (by rw [he];exact ⟨CoC.agg ⟨CoP.refl _,aw,trivial⟩,CoC.refl _,trivial⟩)
 refine w_7 ?_;refine hrr ?_;have he:ny n l row = (n,ae (l ++ [row]),0):=if_neg b5c;exact f9 rfl rfl (by rw [he];exact CoL.refl _)
def ace:goodFn b62 91:=wgx Tryz.func91
def afg (n:Int) (l:List Rw) (p m:List Fd) (i a b:Nat) (hT:tok n l = true) (ha:a < l.length) (hb:b < l.length) (hi:i < p.length) (hu:inU n (p.getD i default) = true):a8 b62 91 [pT n l,pP (fdl p),pP (fdl m), .agg [.raw (.bool false), .raw (.int .i64 (i:Int)), .raw (.int .i64 (a:Int)), .raw (.int .i64 (b:Int))]] (ah [pT (fdE n l a b (p.getD i default)).1 (fdE n l a b (p.getD i default)).2.1,pI (fdE n l a b (p.getD i default)).2.2]):=by
 refine hpx (nt:=75) Tryz.func91 ?_;refine c7 ?_;obtain ⟨hn0,hn16,hl256,hrow⟩:=ew hT;have hra:=hrow a ha;have hrb:=hrow b hb;have hbig:∀ i,i < l.length -> (l.getD i default).length <= 17592186044416:=fun i hi=>by rw [hrow i hi];omega
 refine gy ?_;refine m9 0 ?_;refine m9 1 ?_;refine m9 2 ?_;refine agu ?_;refine w_7 ?_;refine qcx wu (z7 (l.getD a default) (l.getD b default) (p.getD i default).lhs b5c b5c) ?_;refine w_2 ?_;refine hcv (fun h0=>?_) (fun h0=>?_)
 · refine w_6 ?_;refine hrr ?_;have he:fdE n l a b (p.getD i default) = (0,[],1):=if_neg b5h;exact f9 rfl rfl (by rw [he];exact ⟨CoC.agg ⟨CoP.refl _,aw,trivial⟩,CoC.refl _,trivial⟩)
 refine xr ?_;refine qcx (wgx Tryz.func130) (ar5 n l (p.getD i default).rhs a b hbig b5c ha hb (fun j hj i hi=>by rw [hrow i hi];exact a0v hn0 hn16 hu hj)) ?_;refine w_4 ?_;refine hrr ?_;have he:fdE n l a b (p.getD i default) = (n,ae (cj l (eqMs (be l) a b (b6 (p.getD i default).rhs))),0):=if_pos b5h;exact f9 rfl rfl (by rw [he];exact CoL.refl _)
def afc (n:Int) (l:List Rw) (p m:List Fd) (i a b:Nat) (hT:tok n l = true) (ha:a < l.length) (hb:b < l.length) (hi:i < m.length):a8 b62 91 [pT n l,pP (fdl p),pP (fdl m), .agg [.raw (.bool true), .raw (.int .i64 (i:Int)), .raw (.int .i64 (a:Int)), .raw (.int .i64 (b:Int))]] (ah [pT (mvE n l a b (m.getD i default)).1 (mvE n l a b (m.getD i default)).2.1,pI (mvE n l a b (m.getD i default)).2.2]):=by
 refine hpx (nt:=75) Tryz.func91 ?_;refine c7 ?_;obtain ⟨hn0,hn16,hl256,hrow⟩:=ew hT;have hra:=hrow a ha;have hrb:=hrow b hb;have hbig:∀ i,i < l.length -> (l.getD i default).length <= 17592186044416:=fun i hi=>by rw [hrow i hi];omega
 refine gy ?_;refine m9 0 ?_;refine m9 1 ?_;refine m9 2 ?_;refine agu ?_;refine w_4 ?_;refine m9 3 ?_;refine w_9 ?_;refine qcx wu (z7 (l.getD a default) (l.getD b default) (m.getD i default).lhs b5c b5c) ?_;refine w_2 ?_;refine hcv (fun h0=>?_) (fun h0=>?_)
 · refine w_6 ?_;refine hrr ?_;have he:mvE n l a b (m.getD i default) = (0,[],1):=if_neg b5h;exact f9 rfl rfl (by rw [he];exact ⟨CoC.agg ⟨CoP.refl _,aw,trivial⟩,CoC.refl _,trivial⟩)
 refine dn ?_;refine rc rfl rfl rfl rfl rfl rfl (wgx Tryz.func132) (aju (l.getD a default) (l.getD b default) ((m.getD i default).lhs ||| (m.getD i default).rhs) b5c b5c) (⟨CoC.refl _,CoC.refl _,cci (by rw [bOr];rfl),trivial⟩) rfl rfl ?_;refine qcx (wgx Tryz.func131) (axx n l (cq (l.getD a default) (l.getD b default) ((m.getD i default).lhs ||| (m.getD i default).rhs)) hbig b5c) ?_;refine w_6 ?_;refine hrr ?_;have he:mvE n l a b (m.getD i default) = ny n l (cq (l.getD a default) (l.getD b default) ((m.getD i default).lhs ||| (m.getD i default).rhs)):=if_pos b5h;exact f9 rfl rfl (by rw [he];exact CoL.refl _)
end
section
def dp (P:Nat -> Nat -> Nat -> Bool) (I L:Nat):Option (Nat × Nat × Nat) :=
 (List.range I).findSome? fun i=>(List.range L).findSome? fun a=>((List.range L).find? fun b=>P i a b).map fun b=>(i,a,b)
def a6y {α:Type} {f:Nat -> Option α}:∀ {n k:Nat} {x:α},k < n -> f k = some x -> (∀ j,j < k -> f j = none) -> (List.range n).findSome? f = some x
 | n + 1,k,x,hk,h,hb=>by
  rw [b53,List.findSome?_append];by_cases e:k < n
  · rw [a6y e h hb];rfl
  obtain rfl:k = n:=by omega
  have:(List.range k).findSome? f = none:=by
   rw [b4s];intro j hj;exact hb j (b2v.1 hj)
  rw [this];simp [h]
def a6g {α:Type} {f:Nat -> Option α} {n:Nat} (h:∀ j,j < n -> f j = none):(List.range n).findSome? f = none:=by
 rw [b4s];intro j hj;exact h j (b2v.1 hj)
def a0m {p:Nat -> Bool} {n:Nat} (h:∀ j,j < n -> p j = false):(List.range n).find? p = none:=by
 rw [List.find?_eq_none];intro j hj;rw [h j (b2v.1 hj)];decide
def arb {p:Nat -> Bool} {n k:Nat} (hk:k < n) (h:p k = true) (hb:∀ j,j < k -> p j = false):(List.range n).find? p = some k:=by
 induction n with
 | zero=>omega
 | succ n ih =>
  rw [b53,List.find?_append];by_cases e:k < n
  · rw [ih e];rfl
  obtain rfl:k = n:=by omega
  rw [a0m hb];simp [h]
section
variable {P:Nat -> Nat -> Nat -> Bool}
def v6 {I L i a b:Nat} (hi:i < I) (ha:a < L) (hb:b < L) (h:P i a b = true) (h1:∀ i',i' < i -> ∀ a',a' < L -> ∀ b',b' < L -> P i' a' b' = false) (h2:∀ a',a' < a -> ∀ b',b' < L -> P i a' b' = false) (h3:∀ b',b' < b -> P i a b' = false):
 dp P I L = some (i,a,b):=by
 refine a6y hi ?_ fun j hj=>a6g fun a' ha'=>by rw [a0m fun b' hb'=>h1 j hj a' ha' b' hb'];rfl
 refine a6y ha ?_ fun a' ha'=>by rw [a0m fun b' hb'=>h2 a' ha' b' hb'];rfl
 rw [arb hb h h3];rfl
def vg {I L:Nat} (h:∀ i',i' < I -> ∀ a',a' < L -> ∀ b',b' < L -> P i' a' b' = false):dp P I L = none :=
 a6g fun i hi=>a6g fun a ha=>by rw [a0m fun b hb=>h i hi a ha b hb];rfl
def d7 (l:List Rw) (x:Fd) (a b:Nat):Bool:=gu (l.getD a default) (l.getD b default) x.lhs && !gu (l.getD a default) (l.getD b default) x.rhs
def dg (l:List Rw) (x:Fd) (a b:Nat):Bool:=gu (l.getD a default) (l.getD b default) x.lhs && !(l.any fun r=>decide (r = cq (l.getD a default) (l.getD b default) (x.lhs ||| x.rhs)))
end
section
variable {l:List Rw} {x:Fd} {a b:Nat}
def apr (h:gu (l.getD a default) (l.getD b default) x.lhs = true) (h2:gu (l.getD a default) (l.getD b default) x.rhs = false):d7 l x a b = true:=by unfold d7;rw [h,h2];rfl
def xx (h:gu (l.getD a default) (l.getD b default) x.lhs = false):d7 l x a b = false:=by unfold d7;rw [h];rfl
def a38 (h:gu (l.getD a default) (l.getD b default) x.rhs = true):d7 l x a b = false:=by unfold d7;rw [h];simp
def aph (h:gu (l.getD a default) (l.getD b default) x.lhs = true) (h2:(l.any fun r=>decide (r = cq (l.getD a default) (l.getD b default) (x.lhs ||| x.rhs))) = false):dg l x a b = true:=by unfold dg;rw [h,h2];rfl
def a9e (h:gu (l.getD a default) (l.getD b default) x.lhs = false):dg l x a b = false:=by unfold dg;rw [h];rfl
def a2g (h:(l.any fun r=>decide (r = cq (l.getD a default) (l.getD b default) (x.lhs ||| x.rhs))) = true):dg l x a b = false:=by unfold dg;rw [h];simp
end
abbrev St:=Bool × Nat × Nat × Nat
abbrev St.pc (s:St):PC:=.agg [.raw (.bool s.1), .raw (.int .i64 (s.2.1:Int)), .raw (.int .i64 (s.2.2.1:Int)), .raw (.int .i64 (s.2.2.2:Int))]
def cz (l:List Rw) (p m:List Fd):Option St :=
 match dp (fun i a b=>d7 l (p.getD i default) a b) p.length l.length with
 | some x=>some (false,x)
 | none=>(dp (fun i a b=>dg l (m.getD i default) a b) m.length l.length).map fun x=>(true,x)
def aru {l:List Rw} {p m:List Fd} {x:Nat × Nat × Nat} (h:dp (fun i a b=>d7 l (p.getD i default) a b) p.length l.length = some x):cz l p m = some (false,x):=by unfold cz;rw [h]
def aps {l:List Rw} {p m:List Fd} {x:Nat × Nat × Nat} (h0:dp (fun i a b=>d7 l (p.getD i default) a b) p.length l.length = none) (h:dp (fun i a b=>dg l (m.getD i default) a b) m.length l.length = some x):cz l p m = some (true,x):=by unfold cz;rw [h0,h];rfl
def aqg {l:List Rw} {p m:List Fd} (h0:dp (fun i a b=>d7 l (p.getD i default) a b) p.length l.length = none) (h:dp (fun i a b=>dg l (m.getD i default) a b) m.length l.length = none):cz l p m = none:=by unfold cz;rw [h0,h];rfl
end
end Go.Hx

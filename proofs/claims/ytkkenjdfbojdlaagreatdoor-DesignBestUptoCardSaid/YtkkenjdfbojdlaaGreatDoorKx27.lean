/- A part of the proof: SrZ Ch5 X6 X7 X8 Ch6 X9 X10 Ch7 X11 Ch8. -/
import Derived.Shelf.SlSortCmp.NoneTotal
import Derived.Test.YtkkenjdfbojdlaaGreatDoorKx25
import Derived.Test.YtkkenjdfbojdlaaGreatDoorKx26
set_option linter.all false
set_option maxRecDepth 100000
namespace Go.Hx
section
open Go.Proofs Go.RowKit Go.Sort
section
variable {w:World}
def ap9 {w':World} (h:Below w.heap.size w w'):∃ q os,w' = grow (w.drewN q) os:=by
 refine ⟨w'.drawn - w.drawn,w'.heap.extract w.heap.size w'.heap.size, ?_⟩;have hd:=h.drawn;obtain ⟨h1,h2,h3,h4,h5,_⟩:=h
 cases w with
 | mk hp tp dr os out =>
 cases w' with
 | mk hp' tp' dr' os' out' =>
 dsimp only at *;subst h1 h2 h3;unfold grow World.drewN;simp only [World.mk.injEq,true_and,and_true];refine ⟨?_,by omega⟩;apply Array.ext_getElem?;intro k;rw [Array.getElem?_append];by_cases hk:k < hp.size
 · rw [if_pos hk,h5 k hk]
 rw [if_neg hk,Array.getElem?_extract];by_cases hk2:k < hp'.size
 · rw [if_pos bqi]
   congr 1;omega
 rw [if_neg bqi,bon bqi]
variable {os:Array Obj} {α:Type} {d:Array α} {enc:α -> Value}
def apb [Inhabited α] {g m:Nat} {cur:Array Value} {e:TypeId} {fr:Nat × Nat} (h:w.heap[g]? = some (.cells cur e fr)):
 (sortWorld enc w g 0 m d os).heap[g]? = some (.cells (putCells enc 0 d cur) e fr):=by
 have hlt:=(bme.1 h).1;unfold sortWorld;rw [heap_grow_old _ _ (by simpa using hlt)];unfold putRow mapBlock;simp only [heap_ahead,bp0,if_true,h];rfl
def a2f [Inhabited α] {g m:Nat} {b:Nat} (hb:b < w.heap.size) (hne:b ≠ g):(sortWorld enc w g 0 m d os).heap[b]? = w.heap[b]?:=by
 unfold sortWorld;rw [heap_grow_old _ _ (by simpa using hb)];unfold putRow mapBlock;simp only [heap_ahead,bp0,if_neg (Ne.symm hne)]
def aou [Inhabited α] {g m:Nat}:Below 0 w (sortWorld enc w g 0 m d os) :=
 ⟨rfl,rfl,rfl,by unfold sortWorld;simp,fun k hk=>absurd hk (bmf k),by unfold sortWorld grow;simp⟩
def ax0 [Inhabited α] {cur:Array Value} (h:d.size <= cur.size):(putCells enc 0 d cur).toList.take d.size = d.toList.map enc:=by
 apply bop;intro k;rw [bmy,bn0,bp1,bp1];by_cases hk:k < d.size
 · rw [if_pos hk]
   unfold putCells;rw [Array.getElem?_mapIdx,bnb bqi,bnb hk];simp only [bn3,bna,bpg];rw [if_pos ⟨bmh _,hk⟩,getElem!_pos d k hk]
 rw [if_neg hk,bon bqi];rfl
def aup {P:Program} {ρ:Go.Shelf.Ren} {β:Type} [Inhabited β] (L:SlLaysF.n6 P ρ) (pc:β -> PV) (h1:∀ imm x v,b4 imm (pc x) v -> v.oneCell' = true) (cf:β -> β -> Int) (hO:SWO (ltOf cf)) (hT:∀ x y,(ltOf cf) x y = false -> (ltOf cf) y x = false -> x = y)
 (g:Nat) (caps:Nat -> PV) (hg:∀ args w,(callFunc g args).run P w = .ok (.enter g args) w) (hc:∀ x y,a6 P g [.one (pc x), .one (pc y)] (a8 [.one (.raw (.int .i64 (cf x y)))])) (id:Nat) (e:TypeId) (l:List β) (hsz:l.length <= 8589934592) :
 d4 P (ρ.f 6) [.one (.ref id l.length), .one (.p (.fn g 0 caps))] [(id, .arr true 1 e l.length (lf (fun x _=>pc x) l))] (.tup [])
  [(id, .arr true 1 e l.length (lf (fun x _=>pc x) (l.mergeSort fun x y=>!(ltOf cf) y x)))] [id]:=by
 intro w c us hM hus
 match us,hus with
 | [u,v],⟨hu,hv,_⟩ =>
  obtain ⟨cs,rfl,hcl,_⟩:=hv;have hcs:cs = []:=bo3 hcl;subst hcs;have hl1:lk [(id,aa.arr true 1 e l.length (lf (fun x _=>pc x) l))] id = some (.arr true 1 e l.length (lf (fun x _=>pc x) l)):=by simp [lk]
  have hu2:=(hu.2.2 _ _ _ _ hl1 rfl).2 rfl;subst hu2;have hob:=hM.objs id _ hl1;obtain ⟨h0,hmax,h5⟩:=hob;have hlen:(l.mergeSort fun x y=>!(ltOf cf) y x).length = l.length:=bqf _
  have hev:∀ f':Nat -> Nat -> PV,Evo c (lk [(id,aa.arr true 1 e l.length (lf (fun x _=>pc x) l))]) c (lk [(id,aa.arr true 1 e l.length f')]) id:=fun f' =>
   .inr (.inr ⟨_, .arr true 1 e l.length f',1,e,l.length,l.length,hl1,rfl,by simp [lk],rfl,bmd _,fun _=>rfl,fun _ _ _ _ _ _ _ h=>by cases h⟩)
  rcases boa l.length with hz | hpos
  ·
   have hl:l = []:=bo3 hz;subst hl
   have hform:∃ ad cap,c.own id = .slice ad 0 cap:=by
    rcases h5 with ⟨_,xs,h2,_⟩ | ⟨_,_,ad,cap,hv,_⟩
    · rcases h2.2 with ⟨hv,_⟩ | ⟨g,cap,cur,hv,_⟩
      · exact ⟨none,0,hv⟩
      exact ⟨_,cap,hv⟩
    exact ⟨ad,cap,hv⟩
   obtain ⟨ad,cap,hown⟩:=hform;have hms:([]:List β).mergeSort (fun x y=>!(ltOf cf) y x) = []:=by simp
   rw [hown,hms];refine (AnyF.slices_SortFunc_none { L with } ad cap (.func (.func g) #[] #[]) w).mono ?_;rintro e' w' ⟨rfl,rfl⟩
   exact ⟨_,c,rfl,⟨[],rfl,trivial⟩,hM,Below.refl _ _,fun _ _ _=>⟨rfl,rfl⟩,fun id0 ob b ho hb=>.inr ⟨id0,ob,ho,hb⟩,fun id0 hid=>by
    rw [bmx.1 hid]
    exact Evo.refl _ _ _⟩
  obtain ⟨h6,xs,h2,h4⟩:c.blk id = j9 (c.own id) /\ ∃ xs,w.ownsRow 0 e 1 (c.own id) l.length xs /\ ∀ i j,i < l.length -> j < 1 -> ∃ x,xs[i * 1 + j]? = some x /\ b4 c.imm (lf (fun x _=>pc x) l i j) x:=by
   rcases h5 with h5 | ⟨h6 | h6,_⟩
   · exact h5
   · cases h6
   omega
  obtain ⟨hxl,hrow⟩:=h2
  rcases hrow with ⟨_,hz⟩ | ⟨b,cap,cur,hown,hbase,hheap,hnc,hcm,hcs,htake⟩
  · omega
  have hblk:c.blk id b:=by rw [h6,hown];rfl
  have hlt:b < w.heap.size:=(bme.1 hheap).1
  have hval:∀ i,i < l.length -> ∃ x,cur[i]? = some x /\ b4 c.imm (pc (l.getD i default)) x:=fun i hi=>by
   obtain ⟨x,hx,hr⟩:=h4 i 0 hi bqi;rw [bqc,bos,<- htake,bmy,if_pos bqi,bp1] at hx;exact ⟨x,hx,hr⟩
  let A:={ p:β × Value // b4 c.imm (pc p.1) p.2 }
  let enc:A -> Value:=fun p=>p.1.2
  let fst:A -> β:=fun p=>p.1.1
  let cf':A -> A -> Int:=fun p q=>cf (fst p) (fst q)
  have hO':SWO (ltOf cf'):=⟨fun x=>hO.irrefl _,fun x y z=>hO.trans _ _ _,fun x y z=>hO.ntrans _ _ _⟩
  obtain ⟨d,hds,hdv⟩:∃ d:Array A,d.size = l.length /\ ∀ i,(hi:i < d.size) -> cur[i]? = some (enc d[i]) /\ fst d[i] = l.getD i default:=by
   refine ⟨Array.ofFn (n:=l.length) fun i=>⟨(l.getD i default,(hval i i.2).choose),(hval i i.2).choose_spec.2⟩,by simp,fun i hi=>?_⟩;rw [Array.getElem_ofFn];exact ⟨(hval i (by simpa using hi)).choose_spec.1,rfl⟩
  have hd0:0 < d.size:=by omega
  haveI:Inhabited A:=⟨d[0]⟩;have hen:∀ x:A,(enc x).oneCell' = true:=fun x=>h1 _ _ _ x.2
  have hH:Holds enc w b 0 d:=fun j hj=>by
   rw [bna];refine ⟨?_,by simp [World.frozen?,hheap]⟩;rw [getElem!_pos d j hj];simp [World.cell?,hheap,(hdv j hj).1]
  have hcmp:CmpLays1 P g #[] enc cf' b 0 d.size w:=by
   intro m os dk hdk x y
   have hcimm:∀ b' ob,c.imm b' = some ob -> (sortWorld enc w b 0 m dk os).heap[b']? = some ob:=fun b' ob hb'=>by
    have hne:b' ≠ b:=fun he=>by
     have:=hM.sep id _ b hl1 hblk;rw [<- he,hb'] at this;cases this
    have hw:=hM.imm b' ob hb';rw [a2f (bme.1 hw).1 hne];exact hw
   have h:=hc (fst x) (fst y) (sortWorld enc w b 0 m dk os) c.imm [enc x,enc y] c.tab hcimm ⟨x.2,y.2,trivial⟩;refine h.mono ?_;rintro e' w' ⟨v,imm',rfl,hr,_,_,hb⟩;obtain ⟨q,os',hq⟩:=ap9 hb;exact ⟨by rw [hr.1],q,os',hq⟩
  have hS:=Any.slices_SortFunc L enc hen cf' hO' g #[] b 0 cap d w hg hcmp hH hlt bqi;rw [hds] at hS;rw [hown];refine Calls.mono hS ?_;rintro e' w' ⟨rfl,d',m,os,hperm,hsorted,rfl⟩;have hsz':d'.size = l.length:=by rw [hperm.1,hds]
  obtain ⟨S,hSl,hSp⟩:∃ S:List A,S = d'.toList /\ S.map fst = l.mergeSort fun x y=>!(ltOf cf) y x:=by
   refine ⟨_,rfl, ?_⟩
   have hp:(d'.toList.map fst).Perm l:=by
    obtain ⟨_,_,hp⟩:=hperm;have e1:d'.extract 0 l.length = d':=by rw [<- hsz'];exact Array.extract_size
    have e2:d.extract 0 l.length = d:=by rw [<- hds];exact Array.extract_size
    rw [e1,e2] at hp;refine (hp.map fst).trans ?_
    have:d.toList.map fst = l:=by
     refine ol (by simp [hds]) fun j hj=>?_;have hj:j < d.size:=by simpa using hj
     rw [<- (hdv j hj).2,bmb,bn0,bp1,bnb hj];rfl
    rw [this]
   refine List.Perm.eq_of_pairwise (le:=fun x y=>(!(ltOf cf) y x) = true) ?_ ?_ ?_ (hp.trans (List.mergeSort_perm _ _).symm)
   · intro a b _ _ h1 h2
     simp only [bn8] at h1 h2;exact hT a b h2 h1
   · rw [List.pairwise_map,bod]
     intro i j hi hj hij;have hi':i < d'.size:=by simpa using hi
     have hj':j < d'.size:=by simpa using hj
     have:=hsorted i j (bmh _) hij bqi;rw [getElem!_pos d' j hj',getElem!_pos d' i hi'] at this;simp only [Array.getElem_toList,bn8];exact this
   refine List.pairwise_mergeSort ?_ ?_ _
   · intro a b c h1 h2
     simp only [bn8] at h1 h2 ⊢;exact hO.ntrans c b a h2 h1
   intro a b
   cases h:(ltOf cf) b a with
   | false=>simp
   | true=>simp [hO.asymmA h]
  obtain rfl:d' = S.toArray:=by rw [hSl]
  rw [<- hSp] at hlen ⊢;rw [bms] at hlen
  refine ⟨_,c,rfl,⟨[],rfl,trivial⟩,⟨fun id0 ob ho=>?_,fun id0 id1 ob0 ob1 b' ho0 ho1 _ _=>(iz ho0).1.trans (iz ho1).1.symm,fun b' ob hb'=>?_,fun id0 ob b' ho hb'=>?_⟩,aou,
   fun b' hb' hno=>⟨a2f hb' (fun he=>hno id _ hl1 (by rw [he];exact hblk)),rfl⟩,fun id0 ob b' ho hb'=>.inr ⟨id,_,hl1,by rw [<- (iz ho).1];exact hb'⟩,fun id0 hid=>by
    rw [bmx.1 hid]
    exact hev _⟩
  · obtain ⟨rfl,rfl⟩:=iz ho
    refine ⟨h0,hmax, .inl ⟨h6,S.map enc,⟨by simp [hlen], .inr ⟨b,cap,putCells enc 0 S.toArray cur,hown,hbase,apb hheap,hnc,hcm,by simpa [putCells] using hcs, ?_⟩⟩,fun i j hi hj=>?_⟩⟩
    · have:=ax0 (enc:=enc) (d:=S.toArray) (cur:=cur) (by rw [bnp,hlen,hcs];omega)
      rw [bnp,hlen] at this;rw [bqc];exact this
    obtain rfl:j = 0:=by omega
    have hi':i < S.length:=by rw [hlen];exact hi
    refine ⟨enc S[i], ?_, ?_⟩
    · rw [bqc,bos,bn0,bma hi']
      rfl
    show b4 c.imm (pc ((S.map fst).getD i default)) _;rw [bmb,bn0,bma hi'];exact S[i].2
  · have hne:b' ≠ b:=fun he=>by
     have:=hM.sep id _ b hl1 hblk;rw [<- he,hb'] at this;cases this
    have hw:=hM.imm b' ob hb';rw [a2f (bme.1 hw).1 hne];exact hw
  have:=(iz ho).1;subst this;exact hM.sep id0 _ b' hl1 hb'
 | [],h=>exact h.elim
 | [_],⟨_,h⟩=>exact h.elim
 | _ :: _ :: _ :: _,⟨_,_,h⟩=>exact h.elim
end
end
section
open Go.Proofs Go.RowKit Go.Sort
structure CpZ (l:List Rw) (k p q:Nat) (m:List Rw):Prop where
 len:m.length = l.length
 kq:k < q
 pq:p < q
 ql:q <= l.length
 pre:m.take p = jb (l.take q)
 high:∀ j,q - 1 <= j -> m.getD j default = l.getD j default
section
variable {k:Nat} {l:List Rw}
theorem CpZ.start (h1:1 <= k) (hk:k < l.length) (h:∀ j,0 < j -> j < k -> ¬ l.getD j default = l.getD (j - 1) default) (hd:l.getD k default = l.getD (k - 1) default):CpZ l k k (k + 1) l :=
 ⟨rfl,by omega,by omega,by omega,by rw [qe bqi hk,if_pos hd.symm,bn9,wj bqi h],fun _ _=>rfl⟩
theorem CpZ.skip {p q:Nat} {m:List Rw} (h:CpZ l k p q m) (hq:q < l.length) (he:m.getD q default = m.getD (q - 1) default):CpZ l k p (q + 1) m:=by
 have hk:=h.kq;refine ⟨h.len,by omega,by have:=h.pq;omega,hq, ?_,fun j hj=>h.high j bqi⟩;rw [h.high q bqi,h.high (q - 1) bqi] at he;rw [qe bqi hq,if_pos he.symm,bn9,h.pre]
theorem CpZ.keep {p q:Nat} {m:List Rw} (h:CpZ l k p q m) (hq:q < l.length) (he:¬ m.getD q default = m.getD (q - 1) default):CpZ l k (p + 1) (q + 1) (m.set p (m.getD q default)):=by
 have hk:=h.kq;have hp:=h.pq;have hl:=h.len;refine ⟨by simp [hl],by omega,by omega,hq, ?_,fun j hj=>by rw [getD_set_ne' bqi];exact h.high j bqi⟩;have e:=h.high q bqi;rw [e,h.high (q - 1) bqi] at he;rw [qe bqi hq,if_neg (fun e=>he e.symm),<- h.pre,am (by simp [hl];omega),oo bqi,e];congr 1;rw [List.take_set,bph bqt]
def anb (hk:l.length <= k) (h:∀ j,0 < j -> j < k -> ¬ l.getD j default = l.getD (j - 1) default):CoP (.sl l.length 1 false (lf rC l)) (rl (jb l)):=by
 have:=wj (bmd l.length) fun j h1 h2=>h j h1 bqi;rw [bmi] at this;rw [this];exact CoP.refl _
variable {a:Nat}
def b1d {m:List Rw} {p q n d:Nat} {cl:Bool} {z:List Value} (hC:CpZ l k p q m) (hq:¬ q < l.length) (ha:p <= a):CoP (.sl (d9 (ax n (some (p:Int))) none) 1 cl (n8 (oz (lf rC m) a d z) none)) (rl (jb l)):=by
 have e:=hC.pre;have h1:=hC.ql;have h2:=hC.len;have h3:=hC.pq;rw [show q = l.length by omega,bmi] at e;have el:(jb l).length = p:=by rw [<- e];simp;omega
 exact afz (by rw [el];rfl) rfl bqi (by rw [el,e])
def a5d:∀ {l:List Rw} {p:Option Rw},l.Pairwise (fun a b=>ltZ b a = false) -> (∀ x,p = some x -> ∀ y ∈ l,ltZ y x = false) -> (l8 p l).Pairwise (fun a b=>ltZ a b = true) /\ ∀ x,p = some x -> ∀ y ∈ l8 p l,ltZ x y = true
 | [],p,_,_=>⟨by simp [l8],fun x _ y hy=>by simp [l8] at hy⟩
 | z :: l,p,h,hp=>by
  obtain ⟨h1,h2⟩:=bnk.1 h;simp only [l8];split
  · rename_i e
    subst e;exact a5d h2 fun x hx y hy=>hp x hx y (bni _ hy)
  rename_i hne
  obtain ⟨q1,q2⟩:=a5d (p:=some z) h2 fun x hx y hy=>by
   simp only [bm9] at hx;subst hx;exact h1 y hy
  refine ⟨bnk.2 ⟨fun y hy=>q2 z rfl y hy,q1⟩,fun x hx y hy=>?_⟩
  have hxz:ltZ x z = true:=by
   have h3:=hp x hx z bnj
   rcases z6 (a:=x) (b:=z) (fun e=>hne (by rw [hx,e])) with h4 | h4
   · exact h4
   rw [h3] at h4;cases h4
  rcases bmp.1 hy with rfl | hy
  · exact hxz
  exact ky hxz (q2 z rfl y hy)
variable {a' b':Nat}
def a91 {b:Nat} (h:l.getD a' default = l.getD b' default) (ha:a' = a) (hb:b' = b):l.getD a default = l.getD b default:=by subst ha hb;exact h
def a8g {b:Nat} (h:¬ l.getD a' default = l.getD b' default) (ha:a' = a) (hb:b' = b):¬ l.getD a default = l.getD b default:=by subst ha hb;exact h
def agd {b:Nat} (h:decide (l.getD a' default = l.getD b' default) = true) (ha:a' = a) (hb:b' = b):l.getD a default = l.getD b default:=a91 (of_decide_eq_true h) ha hb
def ag3 {b:Nat} (h:decide (l.getD a' default = l.getD b' default) = false) (ha:a' = a) (hb:b' = b):¬ l.getD a default = l.getD b default:=a8g (of_decide_eq_false h) ha hb
def xp {a b:Rw}:ltOf rt a b = ltZ a b:=by
 rw [bo8];show decide (rt a b < 0) = true <-> _;rw [decide_eq_true_iff];exact a59
def awz {x y z:Rw} (h:ltZ x y = false) (k:ltZ y z = false):ltZ x z = false:=by
 rw [bmm];intro e;by_cases hyz:y = z
 · subst hyz;rw [h] at e;cases e
 rcases z6 hyz with h2 | h2
 · rw [k] at h2;cases h2
 rw [ky e h2] at h;cases h
def b0w:SWO (ltOf rt) where
 irrefl x:=by rw [xp];exact vo x
 trans x y z h k:=by rw [xp] at *;exact ky h k
 ntrans x y z h k:=by rw [xp] at *;exact awz h k
def srZ (l:List Rw):List Rw:=l.mergeSort fun x y=>!ltZ y x
def b7h {x:Rw}:x ∈ srZ l <-> x ∈ l:=by unfold srZ;exact List.mem_mergeSort
def apt (l:List Rw):(srZ l).length = l.length:=bqf _
def b3h (l:List Rw):jb (srZ l) = av l:=by
 refine aju (a5d ?_ fun x hx=>by cases hx).1 fun z=>by rw [aog,b7h]
 have h:=List.pairwise_mergeSort (le:=fun x y:Rw=>!ltZ y x) (fun a b c h k=>by
  simp only [bn8] at *
  exact awz k h) (fun a b=>by
  simp only [bnz,bn8];by_cases e:ltZ b a = true
  · right
    rw [bmm];intro e2;have:=ky e e2;rw [vo] at this;cases this
  left
  exact bmm.2 e) l
 refine h.imp fun {a b} hab=>?_;simpa using hab
def bd0 {r:Rw} (h:(l.any fun x=>decide (x = r)) = true):r ∈ l:=by
 rw [bne] at h;obtain ⟨x,hx,e⟩:=h;rwa [<- of_decide_eq_true e]
def apw {r:Rw} (h:(l.any fun x=>decide (x = r)) = false):r ∉ l:=fun e=>by
 rw [bo7] at h;exact h r e (decide_eq_true rfl)
def bau:Go.Hx.goodFn br6 219:=⟨Tryz.f219,Tryz.func219,by kernel_rfl,by kernel_rfl⟩
def bgg (id:Nat) (caps:Nat -> PV) (l:List Rw) (hsz:l.length <= 8589934592):d4 br6 219 [.one (.ref id l.length), .one (.p (.fn 220 0 caps))] [(id, .arr true 1 84 l.length (lf rC l))] (.tup [])
 [(id, .arr true 1 84 l.length (lf rC (srZ l)))] [id]:=by
 have h:=aup Tryz.laysSortZ (fun r:Rw=>zl r) (fun imm x v hr=>by obtain ⟨ad,cap,h1,_⟩:=hr;rw [h1];rfl) rt b0w (fun x y h k=>by
  rw [xp] at h k;apply Classical.byContradiction;intro hne
  rcases z6 hne with h2 | h2
  · rw [h] at h2;cases h2
  rw [k] at h2;cases h2) 220 caps (enters_of Tryz.func220 (by kernel_rfl) rfl) (fun x y=>b4f x y) id 84 l hsz
 have e:(fun x y:Rw=>!(ltOf rt) y x) = fun x y=>!ltZ y x:=by
  funext x y;rw [xp]
 rw [e] at h;exact h
end
end
section
open Go.Proofs
def bg6 (l:List Rw):d4 br6 221 [.one (.ref 900 l.length), .one (.p (.fn 154 0 fun _=>.any))] [(900, .arr true 1 84 l.length (lf rC l))] (.v (.one (.p (rl (jb l))))) [] []:=by
 refine hfx (nt:=66) Tryz.func221 ?_;refine cb ?_;refine acd 900 rfl fun hlen=>?_;refine c5 ?_;refine hcd (fun h0=>?_) (fun h0=>?_)
 · refine w_5 ?_;refine al 4 rfl rfl rfl ?_;refine hrr ?_;exact ⟨_,_,rfl,bqk,anb (k:=l.length) (bmd _) (fun j h1 h2=>by omega),trivial⟩
 refine w_7 ?_;refine ae (ι:=Nat) (ka 0 (ka 1 kn)) (kb 900 km) (fun k=>⟨[(5,some (vI k))],[]⟩) (fun k=>1 <= k /\ k <= l.length /\ ∀ j,0 < j -> j < k -> ¬ l.getD j default = l.getD (j - 1) default) (fun k=>l.length - k) (1) (⟨bmd _,by omega,fun j h1 h2=>by omega⟩) kk ?_;rintro k ⟨hk1,hk,hI⟩;refine w_8 ?_;refine hcd (fun h1=>?_) (fun h1=>?_)
 ·
  refine ml ?_;refine qcx aen (b3f _ _) ?_;refine w_2 ?_;refine hcb (fun h2=>?_) (fun h2=>?_)
  ·
   refine ja ?_;refine ae (ι:=Nat × Nat × List Rw) (ka 0 (ka 1 (ka 6 kn))) km (fun x=>⟨[(5,some (vI x.1)),(7,some (vI ((x.2.1:Int) - k)))],[(900,some (.arr true 1 84 l.length (lf rC x.2.2)))]⟩) (fun x=>CpZ l k x.1 x.2.1 x.2.2) (fun x=>l.length - x.2.1) ((k,k + 1,l)) (CpZ.start hk1 bqi hI (by first | exact a91 bqj rfl bqi | exact agd bqj rfl bqi)) ⟨⟨zy,⟨_,rfl,(coi bql)⟩,trivial⟩,uu⟩ ?_;rintro ⟨p,q,m⟩ hC;have hC0:=hC;obtain ⟨hml,hkq,hpq,hql,_,_⟩:=hC0;dsimp only at hC hml hkq hpq hql;refine w_8 ?_;refine hcd (fun h3=>?_) (fun h3=>?_)
   ·
    simp only [d9,ax,bmn] at h3;refine ml ?_;refine qcx aen (b3f _ _) ?_;refine w_3 ?_;refine hcv (fun h4=>?_) (fun h4=>?_)
    ·
     refine abs ?_
     first | (refine ⟨(p + 1, q + 1, m.set p (m.getD q default)), ?_, ?_, ?_⟩
              · exact hC.keep bqi (by first | exact a8g bqj bqn bqn | exact ag3 bqj bqn bqn)
              · first | omega | (dsimp only;omega)
              exact ⟨⟨⟨_,rfl,(coi bql)⟩,⟨_,rfl,(coi bql)⟩,tt⟩,⟨⟨_,rfl,(uf id hml.symm bqi (by dsimp only;omega) bqn)⟩,trivial⟩⟩)
           | (refine ⟨(p,q + 1,m), ?_, ?_, ?_⟩
              · exact hC.skip bqi (by first | exact a91 bqj bqn bqn | exact agd bqj bqn bqn)
              · first | omega | (dsimp only;omega)
              exact ⟨⟨⟨_,rfl,(coi bql)⟩,⟨_,rfl,(coi bql)⟩,tt⟩,uu⟩)
    refine w_6 ?_
    first | (refine ⟨(p + 1, q + 1, m.set p (m.getD q default)), ?_, ?_, ?_⟩
             · exact hC.keep bqi (by first | exact a8g bqj bqn bqn | exact ag3 bqj bqn bqn)
             · first | omega | (dsimp only;omega)
             exact ⟨⟨⟨_,rfl,(coi bql)⟩,⟨_,rfl,(coi bql)⟩,tt⟩,⟨⟨_,rfl,(uf id hml.symm bqi (by dsimp only;omega) bqn)⟩,trivial⟩⟩)
          | (refine ⟨(p,q + 1,m), ?_, ?_, ?_⟩
             · exact hC.skip bqi (by first | exact a91 bqj bqn bqn | exact agd bqj bqn bqn)
             · first | omega | (dsimp only;omega)
             exact ⟨⟨⟨_,rfl,(coi bql)⟩,⟨_,rfl,(coi bql)⟩,tt⟩,uu⟩)
   simp only [d9,ax,bmn] at h3;refine w_6 ?_;refine r9 0 true ?_;refine w_5 ?_;refine b0x rfl rfl rfl rfl rfl ?_;refine w_2 ?_;refine hrr ?_;exact ⟨_,_,rfl,bqk,b1d hC bqi (by simp [ax]),trivial⟩
  refine w_6 ?_;refine lpz (k + 1) kk ?_;refine ⟨by omega,by show k + 1 <= _;omega,fun j h1 h2=>?_⟩
  rcases bot (bp4 h2) with h | h
  · exact hI j h1 h
  subst h
  first | exact a8g bqj rfl bqi | exact ag3 bqj rfl bqi
 refine w_6 ?_;refine al 4 rfl rfl rfl ?_;refine hrr ?_;exact ⟨_,_,rfl,bqk,anb (k:=k) bqi hI,trivial⟩
end
section
open Go.Proofs
def aev:goodFn br6 174:=wgx Tryz.func174
def af1 (n:Int) (l:List Rw) (hl:l.length <= 8589934592):d4 br6 174 [.agg [.p (.raw (.int .i64 n)), .ref 900 l.length]] [(900, .arr true 1 84 l.length (lf rC l))] (.v (.agg [.p (.raw (.int .i64 n)), .p (rl (av l))])) [] []:=by
 refine hfx (nt:=11) Tryz.func174 ?_;refine sx7 ?_;refine m9 0 ?_;refine m9 1 ?_;refine w_5 ?_;refine fc9 bau (bgg 900 _ l hl) uu ?_;refine w_5 ?_;refine gj rfl rfl rfl rfl rfl rfl (wgx Tryz.func221) (bg6 (srZ l)) (⟨congrArg (HV.ref 900) (apt l).symm,CoP.refl _,trivial⟩) ⟨⟨_,rfl,dg rfl (apt l).symm⟩,trivial⟩ rfl rfl ?_;refine w_8 ?_;refine hrr ?_;exact ⟨_,_,rfl,bqk,CoR.of_eq (by rw [<- b3h];rfl),trivial⟩
end
section
open Go.Proofs
def afa:goodFn br6 177:=wgx Tryz.func177
def avl (n:Int) (l:List Rw) (hl:l.length <= 5864062014805):d4 br6 177 [.one (.p (.raw (.int .i64 n))), .one (.p (rl l))] [] (.v (.agg [.p (.raw (.int .i64 n)), .ref 900 (av l).length])) [(900, .arr true 1 84 (av l).length (lf rC (av l)))] []:=by
 refine hfx (nt:=74) Tryz.func177 ?_;refine cb ?_;refine c8 1 rfl fun hn=>?_;refine gy ?_;refine m9 0 ?_;refine w_5 ?_;refine m9 1 ?_;refine w_2 ?_;refine ss 1 1 900 true 1 84 (lf rC (av (l.take 0))) bqo rfl rfl (CoP.sl rfl (.inr rfl) (fun h=>h) (fun i j hi _=>absurd hi (bmf i))) (.inr rfl) rfl rfl ?_;refine w_6 ?_;refine b5 (ka 1 (ka 4 (ka 5 kn))) (kb 0 km) (fun i=>⟨[(6,some (vI i))],[(1,some (.box [.p (.raw (.int .i64 n)), .ref 900 (av (l.take i)).length])),(900,some (.arr true 1 84 (av (l.take i)).length (lf rC (av (l.take i)))))]⟩) l.length kk ?_;rintro i hi;have hlen:=a0y (l.take i);rw [bmk] at hlen;refine w_8 ?_;refine hcd (fun h0=>?_) (fun h0=>?_)
 ·
  refine cq ?_;refine qcx ajn (alx n (av (l.take i)) (l.getD i default)) ?_;refine w_2 ?_;refine hcb (fun h1=>?_) (fun h1=>?_)
  ·
   have hin:=bd0 h1;refine w_6 ?_
   first | (refine ⟨i + 1, ?_, ?_, ?_⟩
            · show i + 1 <= _;omega
            · first | omega | (dsimp only;omega)
            exact ⟨tt,⟨⟨_,rfl,⟨CoH.refl _,congrArg (HV.ref 900) (by rw [fl bqi,vt (iw _) hin]),trivial⟩⟩,⟨_,rfl,(b8 (by rw [fl bqi,vt (iw _) hin]))⟩,uu⟩⟩)
         | (refine ⟨i + 1, ?_, ?_, ?_⟩
            · show i + 1 <= _;omega
            · first | omega | (dsimp only;omega)
            exact ⟨tt,⟨⟨_,rfl,⟨CoH.refl _,congrArg (HV.ref 900) (by rw [fl bqi,<- hfin,mw hk]),trivial⟩⟩,⟨_,rfl,(dg (by rw [fl bqi,<- hfin]) (by rw [fl bqi,<- hfin,mw hk]))⟩,uu⟩⟩)
  have hin:=apw h1;refine w_9 ?_;refine m9 2 ?_;refine r9 3 true ?_;refine ja ?_;refine ae (ι:=Nat) (ka 1 (ka 4 (ka 5 (ka 6 kn)))) (kb 1 (kb 0 km)) (fun k=>⟨[(7,some (vI k))],[(900,some (.arr true 1 84 ((av (l.take i)).length + 1) (lf rC (lx (av (l.take i)) k (l.getD i default)))))]⟩) (fun k=>k <= (av (l.take i)).length /\ ∀ j,k <= j -> j < (av (l.take i)).length -> ltZ (l.getD i default) ((av (l.take i)).getD j default) = true) (fun k=>k) ((av (l.take i)).length) (⟨bmd _,fun j h1 h2=>by omega⟩) ⟨tt,⟨⟨_,rfl,(by rw [b07];exact ar2 (CoP.refl _))⟩,trivial⟩⟩ ?_;rintro k ⟨hk,hK⟩;refine w_6 ?_;refine ah rfl rfl (fun r2=>?_) (fun r2=>?_)
  ·
   have h2:=tz1 r2;(iterate 11 refine qy ?_ (hg:=(gtt r2)));refine qcx (wgx Tryz.func227) (b3x _ _) ?_ (hg:=(gtt r2));refine w_3 ?_;refine ak _ rfl (fun r3=>?_) (fun r3=>?_)
   ·
    have h3:=br r2 r3;have hb:=ax3 bqi hk h3 bqi bqi;refine w_3 ?_;refine af6 (E:=gr) fm xh [0,1,2,7,8,9,10,11,12,13,14,15,16,17,18,19,3,4,5,6,20,21] ?_;refine b0h ?_;refine ⟨k - 1, ?_, ?_, ?_⟩
    · refine ⟨by omega,fun j h1 h2=>?_⟩
      by_cases hj:j = k - 1
      · rw [hj];exact hb
      exact hK j bqi h2
    · show k - 1 < k
      omega
    exact ⟨tt,⟨⟨_,rfl,(ayy bqi hk bqi bqi rfl)⟩,uu⟩⟩
   have h3:=br r2 r3;have hb:=ax3 bqi hk h3 bqi bqi;have hfin:=ahi (iw _) hin hk hK (.inr (by rw [hb];decide));refine w_6 ?_
   first | (refine ⟨i + 1, ?_, ?_, ?_⟩
            · show i + 1 <= _;omega
            · first | omega | (dsimp only;omega)
            exact ⟨tt,⟨⟨_,rfl,⟨CoH.refl _,congrArg (HV.ref 900) (by rw [fl bqi,vt (iw _) hin]),trivial⟩⟩,⟨_,rfl,(b8 (by rw [fl bqi,vt (iw _) hin]))⟩,uu⟩⟩)
         | (refine ⟨i + 1, ?_, ?_, ?_⟩
            · show i + 1 <= _;omega
            · first | omega | (dsimp only;omega)
            exact ⟨tt,⟨⟨_,rfl,⟨CoH.refl _,congrArg (HV.ref 900) (by rw [fl bqi,<- hfin,mw hk]),trivial⟩⟩,⟨_,rfl,(dg (by rw [fl bqi,<- hfin]) (by rw [fl bqi,<- hfin,mw hk]))⟩,uu⟩⟩)
  have h2:=tz2 r2;have hfin:=ahi (iw _) hin hk hK (.inl bqi);(iterate 12 refine k9 (gft r2) ?_);refine rq rfl rfl rfl rfl rfl ?_ (hp:=r2);refine w_9 ?_
  first | (refine ⟨i + 1, ?_, ?_, ?_⟩
           · show i + 1 <= _;omega
           · first | omega | (dsimp only;omega)
           exact ⟨tt,⟨⟨_,rfl,⟨CoH.refl _,congrArg (HV.ref 900) (by rw [fl bqi,vt (iw _) hin]),trivial⟩⟩,⟨_,rfl,(b8 (by rw [fl bqi,vt (iw _) hin]))⟩,uu⟩⟩)
        | (refine ⟨i + 1, ?_, ?_, ?_⟩
           · show i + 1 <= _;omega
           · first | omega | (dsimp only;omega)
           exact ⟨tt,⟨⟨_,rfl,⟨CoH.refl _,congrArg (HV.ref 900) (by rw [fl bqi,<- hfin,mw hk]),trivial⟩⟩,⟨_,rfl,(dg (by rw [fl bqi,<- hfin]) (by rw [fl bqi,<- hfin,mw hk]))⟩,uu⟩⟩)
 obtain rfl:i = l.length:=by omega
 refine w_6 ?_;refine hrr ?_;exact ⟨_,_,rfl,bqk,CoR.of_eq bqy,⟨⟨_,rfl,CoO.of_eq (by rw [bmi])⟩,trivial⟩⟩
def abf (n:Int) (l:List Rw) (hl:l.length <= 5864062014805):a6 br6 177 [pI n,pR l] (a8 [pT n (av l)]) :=
 d4.pure (args:=[pI n,pR l]) (l:=[.agg [.p (.raw (.int .i64 n)), .ref 900 (av l).length]]) (avl n l hl) rfl ⟨⟨trivial,rfl,trivial⟩,trivial⟩
end
section
abbrev nM (l:List Rw):Nat -> Nat:=fun i=>(l.getD i default).length
abbrev ce (l:List Rw):Nat -> Nat -> Int:=fun i r=>(l.getD i default).getD r default
abbrev mg (M:Nat -> Nat -> Int):Nat -> Nat -> Nat -> PV:=fun i r _=>.raw (.int .i64 (M i r))
section
variable {e et:TypeId} {i k:Nat}
def agv {l:List Rw} {f:Nat -> Nat -> PV} (hk:k = (l.getD i default).length) (hf:f = lf zC (l.getD i default)):
 CoO (.nest e et 1 (i + 1) (sv (nM l) i k) (vb (mg (ce l)) i f) none) (.nest e et 1 (i + 1) (nM l) (mg (ce l)) none):=by
 subst hk hf
 have hm:∀ j,sv (nM l) i (l.getD i default).length j = nM l j:=fun j=>by
  by_cases h:j = i
  · subst h;rw [afr]
  rw [a4m h]
 refine ⟨rfl,rfl,rfl,rfl,rfl,fun j _=>(hm j).symm,fun j r c hj hr hc=>CoP.of_eq ?_⟩;by_cases h:j = i
 · subst h
   rw [asc];rfl
 rw [ajx h]
abbrev hiI (x y:Int):Int:=if x < y then y else x
abbrev loI (x y:Int):Int:=if y < x then y else x
def mr (M:Nat -> Nat -> Int) (hi lo:Int) (i k:Nat):Nat -> Nat -> Int:=fun i' r=>if (i' < i \/ (i' = i /\ r < k)) /\ M i' r = hi then lo else M i' r
def eqM (M:Nat -> Nat -> Int) (a b j:Nat):Nat -> Nat -> Int:=fun i r=>if M i r = hiI (M a j) (M b j) then loI (M a j) (M b j) else M i r
def eqMs (M:Nat -> Nat -> Int) (a b:Nat) (js:List Nat):Nat -> Nat -> Int:=js.foldl (fun M j=>eqM M a b j) M
def en (l:List Rw) (M:Nat -> Nat -> Int):List Rw:=(List.range l.length).map fun i=>(List.range (l.getD i default).length).map (M i)
def mf (l:List Rw) (M:Nat -> Nat -> Int):(en l M).length = l.length:=by unfold en;simp
variable {M:Nat -> Nat -> Int}
def agu {l:List Rw} (h:i < l.length):(en l M).getD i default = (List.range (l.getD i default).length).map (M i):=by
 unfold en;rw [bmb,bn0,bny h];rfl
variable {hi lo:Int}
def aha:mr M hi lo 0 0 = M:=by
 funext i r;unfold mr;rw [if_neg bqi]
def adi (h:mr M hi lo i k i k = hi):mr M hi lo i (k + 1) = fun i' r=>if i' = i /\ r = k then lo else mr M hi lo i k i' r:=by
 have h0:M i k = hi:=by
  unfold mr at h;rwa [if_neg bqi] at h
 funext i' r;unfold mr;by_cases e:i' = i /\ r = k
 · rw [if_pos e,if_pos ⟨.inr ⟨e.1,by omega⟩,by rw [e.1,e.2];exact h0⟩]
 rw [if_neg e];by_cases e2:(i' < i \/ (i' = i /\ r < k)) /\ M i' r = hi
 · rw [if_pos e2,if_pos ⟨e2.1.imp_right fun x=>⟨x.1,by omega⟩,e2.2⟩]
 rw [if_neg e2,if_neg fun e3=>e2 ⟨by omega,e3.2⟩]
def ae2 (h:¬ mr M hi lo i k i k = hi):mr M hi lo i (k + 1) = mr M hi lo i k:=by
 have h0:¬ M i k = hi:=by
  unfold mr at h;rwa [if_neg bqi] at h
 funext i' r;unfold mr;by_cases e:i' = i /\ r = k
 · rw [if_neg (fun x=>h0 (by rw [<- e.1,<- e.2];exact x.2)),if_neg (fun x=>h0 (by rw [<- e.1,<- e.2];exact x.2))]
 by_cases e2:(i' < i \/ (i' = i /\ r < k)) /\ M i' r = hi
 · rw [if_pos e2,if_pos ⟨e2.1.imp_right fun x=>⟨x.1,by omega⟩,e2.2⟩]
 rw [if_neg e2,if_neg fun e3=>e2 ⟨by omega,e3.2⟩]
variable {M':Nat -> Nat -> Int} {m:Nat -> Nat} {n:Nat}
def a8r {i0 k0:Nat} {v:Int} (hM:M' = fun i' r=>if i' = i /\ r = k then v else M i' r) (hi:i0 = i) (hk:k0 = k):
 CoO (.nest e et 1 n m (qz (mg M) i0 k0 0 [.raw (.int .i64 v)]) none) (.nest e et 1 n m (mg M') none):=by
 subst hi hk hM;refine ⟨rfl,rfl,rfl,rfl,rfl,fun j _=>rfl,fun j r c hj hr hc=>CoP.of_eq ?_⟩;obtain rfl:c = 0:=by omega
 unfold qz;by_cases h:j = i0
 · rw [if_pos h]
   unfold ez;by_cases h2:r = k0
   · rw [if_pos ⟨h2,by omega,by simp⟩]
     show _ = PV.raw (.int .i64 (if j = i0 /\ r = k0 then v else M j r));rw [if_pos ⟨h,h2⟩];rfl
   rw [if_neg (fun x=>h2 x.1)];show _ = PV.raw (.int .i64 (if j = i0 /\ r = k0 then v else M j r));rw [if_neg (fun x=>h2 x.2)]
 rw [if_neg h];show _ = PV.raw (.int .i64 (if j = i0 /\ r = k0 then v else M j r));rw [if_neg (fun x=>h x.1)]
def ta (h:∀ i r,i < n -> r < m i -> M' i r = M i r):CoO (.nest e et 1 n m (mg M) none) (.nest e et 1 n m (mg M') none) :=
 ⟨rfl,rfl,rfl,rfl,rfl,fun _ _=>rfl,fun j r c hj hr hc=>CoP.of_eq (by show PV.raw (.int .i64 (M j r)) = PV.raw (.int .i64 (M' j r));rw [h j r hj hr])⟩
def an2 (hk:¬ k < m i):∀ i' r,i' < n -> r < m i' -> mr M hi lo (i + 1) 0 i' r = mr M hi lo i k i' r:=fun i' r h1 h2=>by
 unfold mr;by_cases e2:(i' < i \/ (i' = i /\ r < k)) /\ M i' r = hi
 · rw [if_pos e2,if_pos ⟨by omega,e2.2⟩]
 rw [if_neg e2,if_neg fun e3=>e2 ⟨by
  rcases bpo i' i with h | h
  · exact .inl h
  right;obtain rfl:i' = i:=by omega
  exact ⟨rfl,by omega⟩,e3.2⟩]
def a04 {a b j:Nat} (hn:¬ i < n):∀ i' r,i' < n -> r < m i' -> eqM M a b j i' r = mr M (hiI (M a j) (M b j)) (loI (M a j) (M b j)) i 0 i' r:=fun i' r h1 h2=>by
 unfold mr eqM;by_cases e2:M i' r = hiI (M a j) (M b j)
 · rw [if_pos e2,if_pos ⟨by omega,e2⟩]
 rw [if_neg e2,if_neg fun e3=>e2 e3.2]
def w5 {a b j:Nat} (h:M a j = M b j):eqM M a b j = M:=by
 funext i r;unfold eqM;have e1:hiI (M a j) (M b j) = M b j:=by unfold hiI;rw [if_neg bqi,h]
 have e2:loI (M a j) (M b j) = M b j:=by unfold loI;rw [if_neg bqi,h]
 rw [e1,e2];by_cases e:M i r = M b j
 · rw [if_pos e,e]
 rw [if_neg e]
def a13 {a b:Nat} {js:List Nat} (h:i < js.length):eqMs M a b (js.take (i + 1)) = eqM (eqMs M a b (js.take i)) a b (js.getD i default):=by
 unfold eqMs;rw [am h,bnn];rfl
def aw7 (s:AS):(aj s).length <= 32:=bmo (bo2 _ _) bqm
def b0e {l:List Nat} {j:Nat} (h:j < l.length):l.getD j default ∈ l:=by
 rw [bmb,bma h];exact bmz h
def aq1 {l:List Rw} (hn:n = l.length):CoO (.arr true 1 e n (a0z 1 (nM l) (mg M))) (.arr true 1 e (en l M).length (lf rC (en l M))):=by
 subst hn;refine ⟨fun h=>h,rfl,rfl,mf l M,fun i j hi hj=>?_⟩;show CoP (.sl (l.getD i default).length 1 false (mg M i)) (zl ((en l M).getD i default));rw [agu hi];refine CoP.sl bqm (.inl rfl) (fun h=>h) fun r c hr hc=>CoP.of_eq ?_;show PV.raw (.int .i64 (M i r)) = PV.raw (.int .i64 (((List.range (l.getD i default).length).map (M i)).getD r default));rw [bmb,bn0,bny hr];rfl
end
end
section
open Go.Proofs
def b2p (n:Int) (l:List Rw) (hl:∀ i,i < l.length -> (l.getD i default).length <= 17592186044416) (hl2:l.length <= 5864062014805):d4 br6 200 [.agg [.p (.raw (.int .i64 n)), .p (rl l)]] [] (.v (.agg [.p (.raw (.int .i64 n)), .ref 901 l.length])) [(901, .nest 84 3 1 l.length (nM l) (mg (ce l)) none)] []:=by
 refine hfx (nt:=25) Tryz.func200 ?_;refine sx7 ?_;refine m9 0 ?_;refine m9 1 ?_;refine w_6 ?_;refine m9 2 ?_;refine w_2 ?_;refine afn 2 1 901 84 3 1 (nM l) (mg (ce l)) bqo rfl rfl rfl rfl ?_;refine w_9 ?_;refine b5 (ka 2 (ka 3 (ka 10 (ka 11 kn)))) (kb 1 km) (fun i=>⟨[(12,some (vI i))],[(2,some (.box [.p (.raw (.int .i64 n)), .ref 901 i])),(901,some (.nest 84 3 1 i (nM l) (mg (ce l)) none))]⟩) l.length kk ?_;rintro i hi;refine w_5 ?_;refine hcd (fun h0=>?_) (fun h0=>?_)
 · refine ja ?_;refine fc9 af9 ((aeu (l.getD i default).length false (lf zC (l.getD i default)) (hl i bqi)).swap 0 907) trivial ?_;refine m9 3 ?_;refine r9 4 true ?_;refine w_4 ?_;refine ahb 901 907 rfl rfl ?_;refine w_4 ?_;exact lpx (i + 1) ⟨tt,⟨u9,⟨_,rfl,(agv rfl rfl)⟩,uu⟩⟩
 obtain rfl:i = l.length:=by omega
 refine w_6 ?_;refine hrr ?_;exact ⟨_,_,rfl,bqk,CoR.refl _,uu⟩
end
section
open Go.Proofs
def bb9 (n:Int) (l:List Rw) (s:AS) (a b:Nat) (hl:∀ i,i < l.length -> (l.getD i default).length <= 17592186044416) (hl2:l.length <= 8589934592) (ha:a < l.length) (hb:b < l.length) (hs:∀ j,j ∈ aj s -> ∀ i,i < l.length -> j < (l.getD i default).length):a6 br6 224 [pT n l,pA s,pI (a:Int),pI (b:Int)] (a8 [pT n (av (en l (eqMs (ce l) a b (aj s))))]):=by
 refine hpx (nt:=76) Tryz.func224 ?_;refine sx7 ?_;refine m9 0 ?_;refine m9 1 ?_;refine w_4 ?_;refine fc9 afd (b2p n l hl bqi) trivial ?_;refine m9 2 ?_;refine w_6 ?_;refine qcx a35 (afx s) ?_;refine w_4 ?_;refine b5 (ka 2 (ka 3 (ka 8 (ka 9 (ka 20 (ka 21 kn)))))) (kb 1 (kb 2 km)) (fun q=>⟨[(22,some (vI q))],[(901,some (.nest 84 3 1 l.length (fun i=>(l.getD i default).length) (mg (eqMs (ce l) a b ((aj s).take q))) none))]⟩) ((aj s).length) kk ?_;rintro q hq;have hm32:=aw7 s;refine w_5 ?_;refine hcd (fun h0=>?_) (fun h0=>?_)
 ·
  have hjm:((aj s).getD q default) ∈ aj s:=b0e bqi;have hja:=hs _ hjm a ha;have hjb:=hs _ hjm b hb;refine y5 ?_;refine rq rfl rfl rfl rfl rfl ?_ (hp:=(by (try simp only [bmn,nM]);(repeat' apply And.intro) <;> first | trivial | rfl | omega | exact bmc rfl));refine w_7 ?_;refine rq rfl rfl rfl rfl rfl ?_ (hp:=(by (try simp only [bmn,nM]);(repeat' apply And.intro) <;> first | trivial | rfl | omega | exact bmc rfl));refine dy ?_;refine hcd (fun h1=>?_) (fun h1=>?_)
  ·
   refine w_5 ?_
   first | (refine ⟨q + 1, ?_, ?_, ?_⟩
            · show q + 1 <= _;omega
            · first | omega | (dsimp only;omega)
            exact ⟨tt,⟨⟨_,rfl,(by rw [a13 bqi,w5 bqj];exact CoO.refl _)⟩,uu⟩⟩)
         | (refine ⟨q + 1, ?_, ?_, ?_⟩
            · show q + 1 <= _;omega
            · first | omega | (dsimp only;omega)
            exact ⟨tt,⟨⟨_,rfl,(by rw [a13 bqi];exact ta (a04 bqi))⟩,uu⟩⟩)
  refine w_9 ?_;refine b5 (ka 2 (ka 3 (ka 8 (ka 9 (ka 12 (ka 13 (ka 20 (ka 21 (ka 22 (ka 46 (ka 47 kn))))))))))) (kb 1 (kb 2 km)) (fun i=>⟨[(48,some (vI i))],[(901,some (.nest 84 3 1 l.length (fun i=>(l.getD i default).length) (mg (mr (eqMs (ce l) a b ((aj s).take q)) (hiI ((eqMs (ce l) a b ((aj s).take q)) a ((aj s).getD q default)) ((eqMs (ce l) a b ((aj s).take q)) b ((aj s).getD q default))) (loI ((eqMs (ce l) a b ((aj s).take q)) a ((aj s).getD q default)) ((eqMs (ce l) a b ((aj s).take q)) b ((aj s).getD q default))) i 0)) none))]⟩) l.length ⟨tt,⟨⟨_,rfl,(by rw [aha];exact CoO.refl _)⟩,trivial⟩⟩ ?_;rintro i hi;refine w_5 ?_;refine hcd (fun h2=>?_) (fun h2=>?_)
  ·
   have hli:=hl i bqi;refine ow ?_;refine b5 (ka 2 (ka 3 (ka 8 (ka 9 (ka 12 (ka 13 (ka 15 (ka 20 (ka 21 (ka 22 (ka 46 (ka 47 (ka 48 (ka 53 kn)))))))))))))) (kb 1 (kb 2 km)) (fun k=>⟨[(54,some (vI k))],[(901,some (.nest 84 3 1 l.length (fun i=>(l.getD i default).length) (mg (mr (eqMs (ce l) a b ((aj s).take q)) (hiI ((eqMs (ce l) a b ((aj s).take q)) a ((aj s).getD q default)) ((eqMs (ce l) a b ((aj s).take q)) b ((aj s).getD q default))) (loI ((eqMs (ce l) a b ((aj s).take q)) a ((aj s).getD q default)) ((eqMs (ce l) a b ((aj s).take q)) b ((aj s).getD q default))) i k)) none))]⟩) ((l.getD i default).length) kk ?_;rintro k hk;refine w_5 ?_;refine hcd (fun h3=>?_) (fun h3=>?_)
   ·
    refine dy ?_;(iterate 2 refine rq rfl rfl rfl rfl rfl ?_ (hp:=(by (try simp only [bmn,nM]);(repeat' apply And.intro) <;> first | trivial | rfl | omega | exact bmc rfl)));refine w_5 ?_;refine hcd (fun h4=>?_) (fun h4=>?_)
    · refine w_6 ?_;refine rq rfl rfl rfl rfl rfl ?_ (hp:=(by (try simp only [bmn,nM]);(repeat' apply And.intro) <;> first | trivial | rfl | omega | exact bmc rfl));refine rs rfl rfl rfl rfl rfl ?_ (hp:=(by (try simp only [bmn,nM]);(repeat' apply And.intro) <;> first | trivial | rfl | omega | exact bmc rfl));refine w_5 ?_;exact lpx (k + 1) ⟨tt,⟨⟨_,rfl,(by first | exact a8r (adi bqj) bqm bqm | (rw [ae2 bqj];exact CoO.refl _))⟩,uu⟩⟩
    refine w_5 ?_;exact lpx (k + 1) ⟨tt,⟨⟨_,rfl,(by first | exact a8r (adi bqj) bqm bqm | (rw [ae2 bqj];exact CoO.refl _))⟩,uu⟩⟩
   refine w_5 ?_;exact lpx (i + 1) ⟨tt,⟨⟨_,rfl,(ta (an2 bqi))⟩,uu⟩⟩
  refine w_5 ?_
  first | (refine ⟨q + 1, ?_, ?_, ?_⟩
           · show q + 1 <= _;omega
           · first | omega | (dsimp only;omega)
           exact ⟨tt,⟨⟨_,rfl,(by rw [a13 bqi,w5 bqj];exact CoO.refl _)⟩,uu⟩⟩)
        | (refine ⟨q + 1, ?_, ?_, ?_⟩
           · show q + 1 <= _;omega
           · first | omega | (dsimp only;omega)
           exact ⟨tt,⟨⟨_,rfl,(by rw [a13 bqi];exact ta (a04 bqi))⟩,uu⟩⟩)
 obtain rfl:q = (aj s).length:=by omega
 refine w_2 ?_;refine ash 901 rfl ?_;refine w_2 ?_;refine gj rfl rfl rfl rfl rfl rfl aev ((af1 n (en l (eqMs (ce l) a b (aj s))) (by rw [mf];omega)).swap 900 901) (⟨⟨CoP.refl _,congrArg (HV.ref 901) (mf _ _).symm,trivial⟩,trivial⟩) ⟨⟨_,rfl,(by rw [bmi];exact aq1 rfl)⟩,trivial⟩ rfl rfl ?_;refine v_2 ?_;exact CoL.refl _
end
section
def w4 (n:Int) (l:List Rw) (row:Rw):Int × List Rw × Int:=if 256 < (av (l ++ [row])).length then (0,[],3) else (n,av (l ++ [row]),0)
def bf {s:Nat} {f:Nat -> Nat -> PV}:CoP (.sl 0 s true f) (rl []):=CoP.sl rfl (.inr rfl) (fun h=>by cases h) fun i j hi _=>absurd hi (bmf i)
def fdE (n:Int) (l:List Rw) (a b:Nat) (x:Fd):Int × List Rw × Int:=if lm (l.getD a default) (l.getD b default) x.lhs = true then (n,av (en l (eqMs (ce l) a b (aj x.rhs))),0) else (0,[],1)
def mvE (n:Int) (l:List Rw) (a b:Nat) (x:Fd):Int × List Rw × Int:=if lm (l.getD a default) (l.getD b default) x.lhs = true then w4 n l (ef (l.getD a default) (l.getD b default) (x.lhs ||| x.rhs)) else (0,[],1)
def jk {n:Int} {l:List Rw} (h:tok n l = true):0 <= n /\ n <= 16 /\ l.length <= 256 /\ ∀ i,i < l.length -> (l.getD i default).length = n.toNat:=by
 unfold tok at h;rw [bml,decide_eq_true_iff,decide_eq_true_iff] at h;obtain ⟨⟨h0,h1,h2⟩,h3⟩:=h;refine ⟨h0,h1,h2,fun i hi=>?_⟩;have:=h3 i hi;unfold p8 at this;rw [bml,bml,decide_eq_true_iff] at this;omega
def a7w {n:Int} (h0:0 <= n) (h1:n <= 16) {x:Fd} (h:inU n x = true) {j:Nat} (hj:j ∈ aj x.rhs):j < n.toNat:=by
 obtain ⟨_,h3⟩:=(om h0 h1).1 h;obtain ⟨h4,h5⟩:=j8.1 hj;have h6:x.rhs >>> n.toNat = 0:=(v7 (n:=n.toNat) bqi).1 (by unfold a7 at h3;rwa [bo5 bqi] at h3)
 rcases bpo j n.toNat with h | h
 · exact h
 rw [bgb.1 h6 j h4 h] at h5;cases h5
end
section
open Go.Proofs
def bjy (n:Int) (l:List Rw) (row:Rw) (hl:∀ i,i < l.length -> (l.getD i default).length <= 17592186044416) (hl2:l.length <= 4294967296):a6 br6 225 [pT n l,pZ row] (a8 [pT (w4 n l row).1 (w4 n l row).2.1,pI (w4 n l row).2.2]):=by
 refine hpx (nt:=23) Tryz.func225 ?_;refine sx7 ?_;refine m9 0 ?_;refine m9 1 ?_;refine w_5 ?_;refine fc9 afd (arv n l hl bqi) trivial ?_;refine m9 2 ?_;refine w_7 ?_;refine m9 3 ?_;refine r9 4 true ?_;refine w_6 ?_;refine gj rfl rfl rfl rfl rfl rfl aev ((af1 n (l ++ [row]) bqt).swap 900 901) (⟨⟨CoP.refl _,congrArg (HV.ref 901) bqm,trivial⟩,trivial⟩) ⟨⟨_,rfl,bh rfl (CoP.refl _)⟩,trivial⟩ rfl rfl ?_;refine c5 ?_;refine hcd (fun h0=>?_) (fun h0=>?_)
 · refine w_6 ?_;refine hrr ?_;have he:w4 n l row = (0,[],3):=if_pos bqi;exact f9 rfl rfl (by rw [he];exact ⟨CoC.agg ⟨CoP.refl _,bf,trivial⟩,CoC.refl _,trivial⟩)
 refine w_7 ?_;refine hrr ?_;have he:w4 n l row = (n,av (l ++ [row]),0):=if_neg bqi;exact f9 rfl rfl (by rw [he];exact CoL.refl _)
def agl:goodFn br6 176:=wgx Tryz.func176
def aq7 (n:Int) (l:List Rw) (p m:List Fd) (i a b:Nat) (hT:tok n l = true) (ha:a < l.length) (hb:b < l.length) (hi:i < p.length) (hu:inU n (p.getD i default) = true):a6 br6 176 [pT n l,pP (fdl p),pP (fdl m), .agg [.raw (.bool false), .raw (.int .i64 (i:Int)), .raw (.int .i64 (a:Int)), .raw (.int .i64 (b:Int))]] (a8 [pT (fdE n l a b (p.getD i default)).1 (fdE n l a b (p.getD i default)).2.1,pI (fdE n l a b (p.getD i default)).2.2]):=by
 refine hpx (nt:=75) Tryz.func176 ?_;refine cb ?_;obtain ⟨hn0,hn16,hl256,hrow⟩:=jk hT;have hra:=hrow a ha;have hrb:=hrow b hb;have hbig:∀ i,i < l.length -> (l.getD i default).length <= 17592186044416:=fun i hi=>by rw [hrow i hi];omega
 refine gy ?_;refine m9 0 ?_;refine m9 1 ?_;refine m9 2 ?_;refine au2 ?_;refine w_7 ?_;refine qcx a2s (a71 (l.getD a default) (l.getD b default) (p.getD i default).lhs bqi bqi) ?_;refine w_2 ?_;refine hcv (fun h0=>?_) (fun h0=>?_)
 · refine w_6 ?_;refine hrr ?_;have he:fdE n l a b (p.getD i default) = (0,[],1):=if_neg bqs;exact f9 rfl rfl (by rw [he];exact ⟨CoC.agg ⟨CoP.refl _,bf,trivial⟩,CoC.refl _,trivial⟩)
 refine p9 ?_;refine qcx (wgx Tryz.func224) (bb9 n l (p.getD i default).rhs a b hbig bqi ha hb (fun j hj i hi=>by rw [hrow i hi];exact a7w hn0 hn16 hu hj)) ?_;refine w_4 ?_;refine hrr ?_;have he:fdE n l a b (p.getD i default) = (n,av (en l (eqMs (ce l) a b (aj (p.getD i default).rhs))),0):=if_pos bqs;exact f9 rfl rfl (by rw [he];exact CoL.refl _)
def aq5 (n:Int) (l:List Rw) (p m:List Fd) (i a b:Nat) (hT:tok n l = true) (ha:a < l.length) (hb:b < l.length) (hi:i < m.length):a6 br6 176 [pT n l,pP (fdl p),pP (fdl m), .agg [.raw (.bool true), .raw (.int .i64 (i:Int)), .raw (.int .i64 (a:Int)), .raw (.int .i64 (b:Int))]] (a8 [pT (mvE n l a b (m.getD i default)).1 (mvE n l a b (m.getD i default)).2.1,pI (mvE n l a b (m.getD i default)).2.2]):=by
 refine hpx (nt:=75) Tryz.func176 ?_;refine cb ?_;obtain ⟨hn0,hn16,hl256,hrow⟩:=jk hT;have hra:=hrow a ha;have hrb:=hrow b hb;have hbig:∀ i,i < l.length -> (l.getD i default).length <= 17592186044416:=fun i hi=>by rw [hrow i hi];omega
 refine gy ?_;refine m9 0 ?_;refine m9 1 ?_;refine m9 2 ?_;refine au2 ?_;refine w_4 ?_;refine m9 3 ?_;refine w_9 ?_;refine qcx a2s (a71 (l.getD a default) (l.getD b default) (m.getD i default).lhs bqi bqi) ?_;refine w_2 ?_;refine hcv (fun h0=>?_) (fun h0=>?_)
 · refine w_6 ?_;refine hrr ?_;have he:mvE n l a b (m.getD i default) = (0,[],1):=if_neg bqs;exact f9 rfl rfl (by rw [he];exact ⟨CoC.agg ⟨CoP.refl _,bf,trivial⟩,CoC.refl _,trivial⟩)
 refine cq ?_;refine rc rfl rfl rfl rfl rfl rfl (wgx Tryz.func226) (ayh (l.getD a default) (l.getD b default) ((m.getD i default).lhs ||| (m.getD i default).rhs) bqi bqi) (⟨CoC.refl _,CoC.refl _,cci (by rw [bOr];rfl),trivial⟩) rfl rfl ?_;refine qcx (wgx Tryz.func225) (bjy n l (ef (l.getD a default) (l.getD b default) ((m.getD i default).lhs ||| (m.getD i default).rhs)) hbig bqi) ?_;refine w_6 ?_;refine hrr ?_;have he:mvE n l a b (m.getD i default) = w4 n l (ef (l.getD a default) (l.getD b default) ((m.getD i default).lhs ||| (m.getD i default).rhs)):=if_pos bqs;exact f9 rfl rfl (by rw [he];exact CoL.refl _)
end
section
def fz (P:Nat -> Nat -> Nat -> Bool) (I L:Nat):Option (Nat × Nat × Nat) :=
 (List.range I).findSome? fun i=>(List.range L).findSome? fun a=>((List.range L).find? fun b=>P i a b).map fun b=>(i,a,b)
def afi {α:Type} {f:Nat -> Option α}:∀ {n k:Nat} {x:α},k < n -> f k = some x -> (∀ j,j < k -> f j = none) -> (List.range n).findSome? f = some x
 | n + 1,k,x,hk,h,hb=>by
  rw [bo0,bqh];by_cases e:k < n
  · rw [afi e h hb];rfl
  obtain rfl:k = n:=by omega
  have:(List.range k).findSome? f = none:=by
   rw [boz];intro j hj;exact hb j (bmq.1 hj)
  rw [this];simp [h]
def afs {α:Type} {f:Nat -> Option α} {n:Nat} (h:∀ j,j < n -> f j = none):(List.range n).findSome? f = none:=by
 rw [boz];intro j hj;exact h j (bmq.1 hj)
def a81 {p:Nat -> Bool} {n:Nat} (h:∀ j,j < n -> p j = false):(List.range n).find? p = none:=by
 rw [bpb];intro j hj;rw [h j (bmq.1 hj)];decide
def ba9 {p:Nat -> Bool} {n k:Nat} (hk:k < n) (h:p k = true) (hb:∀ j,j < k -> p j = false):(List.range n).find? p = some k:=by
 induction n with
 | zero=>omega
 | succ n ih =>
  rw [bo0,List.find?_append];by_cases e:k < n
  · rw [ih e];rfl
  obtain rfl:k = n:=by omega
  rw [a81 hb];simp [h]
section
variable {P:Nat -> Nat -> Nat -> Bool}
def a29 {I L i a b:Nat} (hi:i < I) (ha:a < L) (hb:b < L) (h:P i a b = true) (h1:∀ i',i' < i -> ∀ a',a' < L -> ∀ b',b' < L -> P i' a' b' = false) (h2:∀ a',a' < a -> ∀ b',b' < L -> P i a' b' = false) (h3:∀ b',b' < b -> P i a b' = false):
 fz P I L = some (i,a,b):=by
 refine afi hi ?_ fun j hj=>afs fun a' ha'=>by rw [a81 fun b' hb'=>h1 j hj a' ha' b' hb'];rfl
 refine afi ha ?_ fun a' ha'=>by rw [a81 fun b' hb'=>h2 a' ha' b' hb'];rfl
 rw [ba9 hb h h3];rfl
def a23 {I L:Nat} (h:∀ i',i' < I -> ∀ a',a' < L -> ∀ b',b' < L -> P i' a' b' = false):fz P I L = none :=
 afs fun i hi=>afs fun a ha=>by rw [a81 fun b hb=>h i hi a ha b hb];rfl
def ff (l:List Rw) (x:Fd) (a b:Nat):Bool:=lm (l.getD a default) (l.getD b default) x.lhs && !lm (l.getD a default) (l.getD b default) x.rhs
def fk (l:List Rw) (x:Fd) (a b:Nat):Bool:=lm (l.getD a default) (l.getD b default) x.lhs && !(l.any fun r=>decide (r = ef (l.getD a default) (l.getD b default) (x.lhs ||| x.rhs)))
end
section
variable {l:List Rw} {x:Fd} {a b:Nat}
def bb6 (h:lm (l.getD a default) (l.getD b default) x.lhs = true) (h2:lm (l.getD a default) (l.getD b default) x.rhs = false):ff l x a b = true:=by unfold ff;rw [h,h2];rfl
def a5b (h:lm (l.getD a default) (l.getD b default) x.lhs = false):ff l x a b = false:=by unfold ff;rw [h];rfl
def aaj (h:lm (l.getD a default) (l.getD b default) x.rhs = true):ff l x a b = false:=by unfold ff;rw [h];simp
def b82 (h:lm (l.getD a default) (l.getD b default) x.lhs = true) (h2:(l.any fun r=>decide (r = ef (l.getD a default) (l.getD b default) (x.lhs ||| x.rhs))) = false):fk l x a b = true:=by unfold fk;rw [h,h2];rfl
def aoi (h:lm (l.getD a default) (l.getD b default) x.lhs = false):fk l x a b = false:=by unfold fk;rw [h];rfl
def abe (h:(l.any fun r=>decide (r = ef (l.getD a default) (l.getD b default) (x.lhs ||| x.rhs))) = true):fk l x a b = false:=by unfold fk;rw [h];simp
end
abbrev St:=Bool × Nat × Nat × Nat
abbrev St.pc (s:St):PC:=.agg [.raw (.bool s.1), .raw (.int .i64 (s.2.1:Int)), .raw (.int .i64 (s.2.2.1:Int)), .raw (.int .i64 (s.2.2.2:Int))]
def f7 (l:List Rw) (p m:List Fd):Option St :=
 match fz (fun i a b=>ff l (p.getD i default) a b) p.length l.length with
 | some x=>some (false,x)
 | none=>(fz (fun i a b=>fk l (m.getD i default) a b) m.length l.length).map fun x=>(true,x)
def b8r {l:List Rw} {p m:List Fd} {x:Nat × Nat × Nat} (h:fz (fun i a b=>ff l (p.getD i default) a b) p.length l.length = some x):f7 l p m = some (false,x):=by unfold f7;rw [h]
def b6r {l:List Rw} {p m:List Fd} {x:Nat × Nat × Nat} (h0:fz (fun i a b=>ff l (p.getD i default) a b) p.length l.length = none) (h:fz (fun i a b=>fk l (m.getD i default) a b) m.length l.length = some x):f7 l p m = some (true,x):=by unfold f7;rw [h0,h];rfl
def b6g {l:List Rw} {p m:List Fd} (h0:fz (fun i a b=>ff l (p.getD i default) a b) p.length l.length = none) (h:fz (fun i a b=>fk l (m.getD i default) a b) m.length l.length = none):f7 l p m = none:=by unfold f7;rw [h0,h];rfl
end
end Go.Hx

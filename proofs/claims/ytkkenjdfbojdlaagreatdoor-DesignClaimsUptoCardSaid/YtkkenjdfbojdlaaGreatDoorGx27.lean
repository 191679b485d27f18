/- A part of the proof: SrZ Ch5 X6 X7 X8 Ch6 X9 X10 Ch7 X11 Ch8. -/
import Derived.Shelf.SlSortCmp.NoneTotal
import Derived.Test.YtkkenjdfbojdlaaGreatDoorGx17
import Derived.Test.YtkkenjdfbojdlaaGreatDoorGx25
import Derived.Test.YtkkenjdfbojdlaaGreatDoorGx26
set_option linter.all false
set_option maxRecDepth 100000
namespace Go.Hx
section
open Go.Proofs Go.RowKit Go.Sort
section
variable {w:World}
theorem amq {w':World} (h:Below w.heap.size w w'):∃ q os,w' = grow (w.drewN q) os:=by
 refine ⟨w'.drawn - w.drawn,w'.heap.extract w.heap.size w'.heap.size, ?_⟩;have hd:=h.drawn;obtain ⟨h1,h2,h3,h4,h5,_⟩:=h
 cases w with
 | mk hp tp dr os out =>
 cases w' with
 | mk hp' tp' dr' os' out' =>
 dsimp only at *;subst h1 h2 h3;unfold grow World.drewN;simp only [World.mk.injEq,true_and,and_true];refine ⟨?_,by omega⟩;apply Array.ext_getElem?;intro k;rw [Array.getElem?_append];by_cases hk:k < hp.size
 · rw [if_pos hk,h5 k hk]
 rw [if_neg hk,Array.getElem?_extract];by_cases hk2:k < hp'.size
 · rw [if_pos bos]
   congr 1;omega
 rw [if_neg bos,bn0 bos]
variable {os:Array Obj} {α:Type} {d:Array α} {enc:α -> Value}
theorem amg [Inhabited α] {g m:Nat} {cur:Array Value} {e:TypeId} {fr:Nat × Nat} (h:w.heap[g]? = some (.cells cur e fr)):
 (sortWorld enc w g 0 m d os).heap[g]? = some (.cells (putCells enc 0 d cur) e fr):=by
 have hlt:=(bkn.1 h).1;unfold sortWorld;rw [heap_grow_old _ _ (by simpa using hlt)];unfold putRow mapBlock;simp only [heap_ahead,bna,if_true,h];rfl
theorem a17 [Inhabited α] {g m:Nat} {b:Nat} (hb:b < w.heap.size) (hne:b ≠ g):(sortWorld enc w g 0 m d os).heap[b]? = w.heap[b]?:=by
 unfold sortWorld;rw [heap_grow_old _ _ (by simpa using hb)];unfold putRow mapBlock;simp only [heap_ahead,bna,if_neg (Ne.symm hne)]
theorem an3 [Inhabited α] {g m:Nat}:Below 0 w (sortWorld enc w g 0 m d os) :=
 ⟨rfl,rfl,rfl,by unfold sortWorld;simp,fun k hk=>absurd hk (bkp k),by unfold sortWorld grow;simp⟩
theorem av5 [Inhabited α] {cur:Array Value} (h:d.size <= cur.size):(putCells enc 0 d cur).toList.take d.size = d.toList.map enc:=by
 apply bn9;intro k;rw [blp,bl6,bnb,bnb];by_cases hk:k < d.size
 · rw [if_pos hk]
   unfold putCells;rw [Array.getElem?_mapIdx,blj bos,blj hk];simp only [bl8,blc,bo8];rw [if_pos ⟨bkl _,hk⟩,getElem!_pos d k hk]
 rw [if_neg hk,bn0 bos];rfl
theorem aqw {P:Program} {ρ:Go.Shelf.Ren} {β:Type} [Inhabited β] (L:SlLaysF.n6 P ρ) (pc:β -> PV) (h1:∀ imm x v,b5 imm (pc x) v -> v.oneCell' = true) (cf:β -> β -> Int) (hO:SWO (ltOf cf)) (hT:∀ x y,(ltOf cf) x y = false -> (ltOf cf) y x = false -> x = y)
 (g:Nat) (caps:Nat -> PV) (hg:∀ args w,(callFunc g args).run P w = .ok (.enter g args) w) (hc:∀ x y,a7 P g [.one (pc x), .one (pc y)] (ae [.one (.raw (.int .i64 (cf x y)))])) (id:Nat) (e:TypeId) (l:List β) (hsz:l.length <= 8589934592) :
 da P (ρ.f 6) [.one (.ref id l.length), .one (.p (.fn g 0 caps))] [(id, .arr true 1 e l.length (lf (fun x _=>pc x) l))] (.tup [])
  [(id, .arr true 1 e l.length (lf (fun x _=>pc x) (l.mergeSort fun x y=>!(ltOf cf) y x)))] [id]:=by
 intro w c us hM hus
 match us,hus with
 | [u,v],⟨hu,hv,_⟩ =>
  obtain ⟨cs,rfl,hcl,_⟩:=hv;have hcs:cs = []:=bm8 hcl;subst hcs;have hl1:lk [(id,af.arr true 1 e l.length (lf (fun x _=>pc x) l))] id = some (.arr true 1 e l.length (lf (fun x _=>pc x) l)):=by simp [lk]
  have hu2:=(hu.2.2 _ _ _ _ hl1 rfl).2 rfl;subst hu2;have hob:=hM.objs id _ hl1;obtain ⟨h0,hmax,h5⟩:=hob;have hlen:(l.mergeSort fun x y=>!(ltOf cf) y x).length = l.length:=bop _
  have hev:∀ f':Nat -> Nat -> PV,Evo c (lk [(id,af.arr true 1 e l.length (lf (fun x _=>pc x) l))]) c (lk [(id,af.arr true 1 e l.length f')]) id:=fun f' =>
   .inr (.inr ⟨_, .arr true 1 e l.length f',1,e,l.length,l.length,hl1,rfl,by simp [lk],rfl,bko _,fun _=>rfl,fun _ _ _ _ _ _ _ h=>by cases h⟩)
  rcases bmj l.length with hz | hpos
  ·
   have hl:l = []:=bm8 hz;subst hl
   have hform:∃ ad cap,c.own id = .slice ad 0 cap:=by
    rcases h5 with ⟨_,xs,h2,_⟩ | ⟨_,_,ad,cap,hv,_⟩
    · rcases h2.2 with ⟨hv,_⟩ | ⟨g,cap,cur,hv,_⟩
      · exact ⟨none,0,hv⟩
      exact ⟨_,cap,hv⟩
    exact ⟨ad,cap,hv⟩
   obtain ⟨ad,cap,hown⟩:=hform;have hms:([]:List β).mergeSort (fun x y=>!(ltOf cf) y x) = []:=by simp
   rw [hown,hms];refine (AnyF.slices_SortFunc_none { L with } ad cap (.func (.func g) #[] #[]) w).mono ?_;rintro e' w' ⟨rfl,rfl⟩
   exact ⟨_,c,rfl,⟨[],rfl,trivial⟩,hM,Below.refl _ _,fun _ _ _=>⟨rfl,rfl⟩,fun id0 ob b ho hb=>.inr ⟨id0,ob,ho,hb⟩,fun id0 hid=>by
    rw [bl3.1 hid]
    exact Evo.refl _ _ _⟩
  obtain ⟨h6,xs,h2,h4⟩:c.blk id = j2 (c.own id) /\ ∃ xs,w.ownsRow 0 e 1 (c.own id) l.length xs /\ ∀ i j,i < l.length -> j < 1 -> ∃ x,xs[i * 1 + j]? = some x /\ b5 c.imm (lf (fun x _=>pc x) l i j) x:=by
   rcases h5 with h5 | ⟨h6 | h6,_⟩
   · exact h5
   · cases h6
   omega
  obtain ⟨hxl,hrow⟩:=h2
  rcases hrow with ⟨_,hz⟩ | ⟨b,cap,cur,hown,hbase,hheap,hnc,hcm,hcs,htake⟩
  · omega
  have hblk:c.blk id b:=by rw [h6,hown];rfl
  have hlt:b < w.heap.size:=(bkn.1 hheap).1
  have hval:∀ i,i < l.length -> ∃ x,cur[i]? = some x /\ b5 c.imm (pc (l.getD i default)) x:=fun i hi=>by
   obtain ⟨x,hx,hr⟩:=h4 i 0 hi bos;rw [bol,bn4,<- htake,blp,if_pos bos,bnb] at hx;exact ⟨x,hx,hr⟩
  let A:={ p:β × Value // b5 c.imm (pc p.1) p.2 }
  let enc:A -> Value:=fun p=>p.1.2
  let fst:A -> β:=fun p=>p.1.1
  let cf':A -> A -> Int:=fun p q=>cf (fst p) (fst q)
  have hO':SWO (ltOf cf'):=⟨fun x=>hO.irrefl _,fun x y z=>hO.trans _ _ _,fun x y z=>hO.ntrans _ _ _⟩
  obtain ⟨d,hds,hdv⟩:∃ d:Array A,d.size = l.length /\ ∀ i,(hi:i < d.size) -> cur[i]? = some (enc d[i]) /\ fst d[i] = l.getD i default:=by
   refine ⟨Array.ofFn (n:=l.length) fun i=>⟨(l.getD i default,(hval i i.2).choose),(hval i i.2).choose_spec.2⟩,by simp,fun i hi=>?_⟩;rw [Array.getElem_ofFn];exact ⟨(hval i (by simpa using hi)).choose_spec.1,rfl⟩
  have hd0:0 < d.size:=by omega
  haveI:Inhabited A:=⟨d[0]⟩;have hen:∀ x:A,(enc x).oneCell' = true:=fun x=>h1 _ _ _ x.2
  have hH:Holds enc w b 0 d:=fun j hj=>by
   rw [blc];refine ⟨?_,by simp [World.frozen?,hheap]⟩;rw [getElem!_pos d j hj];simp [World.cell?,hheap,(hdv j hj).1]
  have hcmp:CmpLays1 P g #[] enc cf' b 0 d.size w:=by
   intro m os dk hdk x y
   have hcimm:∀ b' ob,c.imm b' = some ob -> (sortWorld enc w b 0 m dk os).heap[b']? = some ob:=fun b' ob hb'=>by
    have hne:b' ≠ b:=fun he=>by
     have:=hM.sep id _ b hl1 hblk;rw [<- he,hb'] at this;cases this
    have hw:=hM.imm b' ob hb';rw [a17 (bkn.1 hw).1 hne];exact hw
   have h:=hc (fst x) (fst y) (sortWorld enc w b 0 m dk os) c.imm [enc x,enc y] c.tab hcimm ⟨x.2,y.2,trivial⟩;refine h.mono ?_;rintro e' w' ⟨v,imm',rfl,hr,_,_,hb⟩;obtain ⟨q,os',hq⟩:=amq hb;exact ⟨by rw [hr.1],q,os',hq⟩
  have hS:=Any.slices_SortFunc L enc hen cf' hO' g #[] b 0 cap d w hg hcmp hH hlt bos;rw [hds] at hS;rw [hown];refine Calls.mono hS ?_;rintro e' w' ⟨rfl,d',m,os,hperm,hsorted,rfl⟩;have hsz':d'.size = l.length:=by rw [hperm.1,hds]
  obtain ⟨S,hSl,hSp⟩:∃ S:List A,S = d'.toList /\ S.map fst = l.mergeSort fun x y=>!(ltOf cf) y x:=by
   refine ⟨_,rfl, ?_⟩
   have hp:(d'.toList.map fst).Perm l:=by
    obtain ⟨_,_,hp⟩:=hperm;have e1:d'.extract 0 l.length = d':=by rw [<- hsz'];exact Array.extract_size
    have e2:d.extract 0 l.length = d:=by rw [<- hds];exact Array.extract_size
    rw [e1,e2] at hp;refine (hp.map fst).trans ?_
    have:d.toList.map fst = l:=by
     refine pz (by simp [hds]) fun j hj=>?_;have hj:j < d.size:=by simpa using hj
     rw [<- (hdv j hj).2,bkk,bl6,bnb,blj hj];rfl
    rw [this]
   refine List.Perm.eq_of_pairwise (le:=fun x y=>(!(ltOf cf) y x) = true) ?_ ?_ ?_ (hp.trans (List.mergeSort_perm _ _).symm)
   · intro a b _ _ h1 h2
     simp only [blg] at h1 h2;exact hT a b h2 h1
   · rw [List.pairwise_map,bmm]
     intro i j hi hj hij;have hi':i < d'.size:=by simpa using hi
     have hj':j < d'.size:=by simpa using hj
     have:=hsorted i j (bkl _) hij bos;rw [getElem!_pos d' j hj',getElem!_pos d' i hi'] at this;simp only [Array.getElem_toList,blg];exact this
   refine List.pairwise_mergeSort ?_ ?_ _
   · intro a b c h1 h2
     simp only [blg] at h1 h2 ⊢;exact hO.ntrans c b a h2 h1
   intro a b
   cases h:(ltOf cf) b a with
   | false=>simp
   | true=>simp [hO.asymmA h]
  obtain rfl:d' = S.toArray:=by rw [hSl]
  rw [<- hSp] at hlen ⊢;rw [bl7] at hlen
  refine ⟨_,c,rfl,⟨[],rfl,trivial⟩,⟨fun id0 ob ho=>?_,fun id0 id1 ob0 ob1 b' ho0 ho1 _ _=>(ir ho0).1.trans (ir ho1).1.symm,fun b' ob hb'=>?_,fun id0 ob b' ho hb'=>?_⟩,an3,
   fun b' hb' hno=>⟨a17 hb' (fun he=>hno id _ hl1 (by rw [he];exact hblk)),rfl⟩,fun id0 ob b' ho hb'=>.inr ⟨id,_,hl1,by rw [<- (ir ho).1];exact hb'⟩,fun id0 hid=>by
    rw [bl3.1 hid]
    exact hev _⟩
  · obtain ⟨rfl,rfl⟩:=ir ho
    refine ⟨h0,hmax, .inl ⟨h6,S.map enc,⟨by simp [hlen], .inr ⟨b,cap,putCells enc 0 S.toArray cur,hown,hbase,amg hheap,hnc,hcm,by simpa [putCells] using hcs, ?_⟩⟩,fun i j hi hj=>?_⟩⟩
    · have:=av5 (enc:=enc) (d:=S.toArray) (cur:=cur) (by rw [blv,hlen,hcs];omega)
      rw [blv,hlen] at this;rw [bol];exact this
    obtain rfl:j = 0:=by omega
    have hi':i < S.length:=by rw [hlen];exact hi
    refine ⟨enc S[i], ?_, ?_⟩
    · rw [bol,bn4,bl6,bkj hi']
      rfl
    show b5 c.imm (pc ((S.map fst).getD i default)) _;rw [bkk,bl6,bkj hi'];exact S[i].2
  · have hne:b' ≠ b:=fun he=>by
     have:=hM.sep id _ b hl1 hblk;rw [<- he,hb'] at this;cases this
    have hw:=hM.imm b' ob hb';rw [a17 (bkn.1 hw).1 hne];exact hw
  have:=(ir ho).1;subst this;exact hM.sep id0 _ b' hl1 hb'
 | [],h=>exact h.elim
 | [_],⟨_,h⟩=>exact h.elim
 | _ :: _ :: _ :: _,⟨_,_,h⟩=>exact h.elim
end
end
section
open Go.Proofs Go.RowKit Go.Sort
structure CpZ (l:List Rw) (k p q:Nat) (m:List Rw):Prop where
 len:m.length = l.length
 kq:k < q
 pq:p < q
 ql:q <= l.length
 pre:m.take p = j3 (l.take q)
 high:∀ j,q - 1 <= j -> m.getD j default = l.getD j default
section
variable {k:Nat} {l:List Rw}
theorem CpZ.start (h1:1 <= k) (hk:k < l.length) (h:∀ j,0 < j -> j < k -> ¬ l.getD j default = l.getD (j - 1) default) (hd:l.getD k default = l.getD (k - 1) default):CpZ l k k (k + 1) l :=
 ⟨rfl,by omega,by omega,by omega,by rw [om bos hk,if_pos hd.symm,blq,vo bos h],fun _ _=>rfl⟩
theorem CpZ.skip {p q:Nat} {m:List Rw} (h:CpZ l k p q m) (hq:q < l.length) (he:m.getD q default = m.getD (q - 1) default):CpZ l k p (q + 1) m:=by
 have hk:=h.kq;refine ⟨h.len,by omega,by have:=h.pq;omega,hq, ?_,fun j hj=>h.high j bos⟩;rw [h.high q bos,h.high (q - 1) bos] at he;rw [om bos hq,if_pos he.symm,blq,h.pre]
theorem CpZ.keep {p q:Nat} {m:List Rw} (h:CpZ l k p q m) (hq:q < l.length) (he:¬ m.getD q default = m.getD (q - 1) default):CpZ l k (p + 1) (q + 1) (m.set p (m.getD q default)):=by
 have hk:=h.kq;have hp:=h.pq;have hl:=h.len;refine ⟨by simp [hl],by omega,by omega,hq, ?_,fun j hj=>by rw [getD_set_ne' bos];exact h.high j bos⟩;have e:=h.high q bos;rw [e,h.high (q - 1) bos] at he;rw [om bos hq,if_neg (fun e=>he e.symm),<- h.pre,ay (by simp [hl];omega),nx bos,e];congr 1;rw [List.take_set,List.set_eq_of_length_le bp3]
theorem ak9 (hk:l.length <= k) (h:∀ j,0 < j -> j < k -> ¬ l.getD j default = l.getD (j - 1) default):CoP (.sl l.length 1 false (lf rC l)) (rl (j3 l)):=by
 have:=vo (bko l.length) fun j h1 h2=>h j h1 bos;rw [bks] at this;rw [this];exact CoP.refl _
variable {a:Nat}
theorem azm {m:List Rw} {p q n d:Nat} {cl:Bool} {z:List Value} (hC:CpZ l k p q m) (hq:¬ q < l.length) (ha:p <= a):CoP (.sl (ek (be n (some (p:Int))) none) 1 cl (rj (o6 (lf rC m) a d z) none)) (rl (j3 l)):=by
 have e:=hC.pre;have h1:=hC.ql;have h2:=hC.len;have h3:=hC.pq;rw [show q = l.length by omega,bks] at e;have el:(j3 l).length = p:=by rw [<- e];simp;omega
 exact ae8 (by rw [el];rfl) rfl bos (by rw [el,e])
theorem a4c:∀ {l:List Rw} {p:Option Rw},l.Pairwise (fun a b=>ltZ b a = false) -> (∀ x,p = some x -> ∀ y ∈ l,ltZ y x = false) -> (kr p l).Pairwise (fun a b=>ltZ a b = true) /\ ∀ x,p = some x -> ∀ y ∈ kr p l,ltZ x y = true
 | [],p,_,_=>⟨by simp [kr],fun x _ y hy=>by simp [kr] at hy⟩
 | z :: l,p,h,hp=>by
  obtain ⟨h1,h2⟩:=bls.1 h;simp only [kr];split
  · rename_i e
    subst e;exact a4c h2 fun x hx y hy=>hp x hx y (bm1 _ hy)
  rename_i hne
  obtain ⟨q1,q2⟩:=a4c (p:=some z) h2 fun x hx y hy=>by
   simp only [bki] at hx;subst hx;exact h1 y hy
  refine ⟨bls.2 ⟨fun y hy=>q2 z rfl y hy,q1⟩,fun x hx y hy=>?_⟩
  have hxz:ltZ x z = true:=by
   have h3:=hp x hx z bly
   rcases yb (a:=x) (b:=z) (fun e=>hne (by rw [hx,e])) with h4 | h4
   · exact h4
   rw [h3] at h4;cases h4
  rcases bkx.1 hy with rfl | hy
  · exact hxz
  exact k7 hxz (q2 z rfl y hy)
variable {a' b':Nat}
theorem a7b {b:Nat} (h:l.getD a' default = l.getD b' default) (ha:a' = a) (hb:b' = b):l.getD a default = l.getD b default:=by subst ha hb;exact h
theorem a7u {b:Nat} (h:¬ l.getD a' default = l.getD b' default) (ha:a' = a) (hb:b' = b):¬ l.getD a default = l.getD b default:=by subst ha hb;exact h
theorem aek {b:Nat} (h:decide (l.getD a' default = l.getD b' default) = true) (ha:a' = a) (hb:b' = b):l.getD a default = l.getD b default:=a7b (of_decide_eq_true h) ha hb
theorem ady {b:Nat} (h:decide (l.getD a' default = l.getD b' default) = false) (ha:a' = a) (hb:b' = b):¬ l.getD a default = l.getD b default:=a7u (of_decide_eq_false h) ha hb
theorem wo {a b:Rw}:ltOf qg a b = ltZ a b:=by
 rw [bme];show decide (qg a b < 0) = true <-> _;rw [decide_eq_true_iff];exact a3x
theorem asr {x y z:Rw} (h:ltZ x y = false) (k:ltZ y z = false):ltZ x z = false:=by
 rw [bkv];intro e;by_cases hyz:y = z
 · subst hyz;rw [h] at e;cases e
 rcases yb hyz with h2 | h2
 · rw [k] at h2;cases h2
 rw [k7 e h2] at h;cases h
theorem b03:SWO (ltOf qg) where
 irrefl x:=by rw [wo];exact vb x
 trans x y z h k:=by rw [wo] at *;exact k7 h k
 ntrans x y z h k:=by rw [wo] at *;exact asr h k
def srZ (l:List Rw):List Rw:=l.mergeSort fun x y=>!ltZ y x
theorem b8e {x:Rw}:x ∈ srZ l <-> x ∈ l:=by unfold srZ;exact List.mem_mergeSort
theorem aps (l:List Rw):(srZ l).length = l.length:=bop _
theorem azu (l:List Rw):j3 (srZ l) = ar l:=by
 refine ai2 (a4c ?_ fun x hx=>by cases hx).1 fun z=>by rw [alz,b8e]
 have h:=List.pairwise_mergeSort (le:=fun x y:Rw=>!ltZ y x) (fun a b c h k=>by
  simp only [blg] at *
  exact asr k h) (fun a b=>by
  simp only [bmf,blg];by_cases e:ltZ b a = true
  · right
    rw [bkv];intro e2;have:=k7 e e2;rw [vb] at this;cases this
  left
  exact bkv.2 e) l
 refine h.imp fun {a b} hab=>?_;simpa using hab
theorem bcx {r:Rw} (h:(l.any fun x=>decide (x = r)) = true):r ∈ l:=by
 rw [bll] at h;obtain ⟨x,hx,e⟩:=h;rwa [<- of_decide_eq_true e]
theorem aoy {r:Rw} (h:(l.any fun x=>decide (x = r)) = false):r ∉ l:=fun e=>by
 rw [bmh] at h;exact h r e (decide_eq_true rfl)
theorem b77:Go.Hx.goodFn Tryz.prog 219:=⟨Tryz.f219,Tryz.func219,by kernel_rfl,by kernel_rfl⟩
theorem baz (id:Nat) (caps:Nat -> PV) (l:List Rw) (hsz:l.length <= 8589934592):da Tryz.prog 219 [.one (.ref id l.length), .one (.p (.fn 220 0 caps))] [(id, .arr true 1 84 l.length (lf rC l))] (.tup [])
 [(id, .arr true 1 84 l.length (lf rC (srZ l)))] [id]:=by
 have h:=aqw Tryz.laysSortZ (fun r:Rw=>zl r) (fun imm x v hr=>by obtain ⟨ad,cap,h1,_⟩:=hr;rw [h1];rfl) qg b03 (fun x y h k=>by
  rw [wo] at h k;apply Classical.byContradiction;intro hne
  rcases yb hne with h2 | h2
  · rw [h] at h2;cases h2
  rw [k] at h2;cases h2) 220 caps (enters_of Tryz.func220 (by kernel_rfl) rfl) (fun x y=>b2u x y) id 84 l hsz
 have e:(fun x y:Rw=>!(ltOf qg) y x) = fun x y=>!ltZ y x:=by
  funext x y;rw [wo]
 rw [e] at h;exact h
end
end
section
open Go.Proofs
theorem b44:goodFn Tryz.prog 221:=wgx Tryz.func221
theorem bdy (l:List Rw):da Tryz.prog 221 [.one (.ref 900 l.length), .one (.p (.fn 154 0 fun _=>.any))] [(900, .arr true 1 84 l.length (lf rC l))] (.v (.one (.p (rl (j3 l))))) [] []:=by
 refine hfx (nt:=66) Tryz.func221 ?_;refine cq ?_;refine abc 900 rfl fun hlen=>?_;refine ce ?_;refine hcd (fun h0=>?_) (fun h0=>?_)
 · refine w_5 ?_;refine av 4 rfl rfl rfl ?_;refine jn ?_;refine ⟨.inr rfl, ?_⟩;exact ⟨_,_,rfl,bou,ak9 (k:=l.length) (bko _) (fun j h1 h2=>by omega),trivial⟩
 refine w_7 ?_;refine a6 (ι:=Nat) ⟨[(0,some _),(1,some _)],[(900,some _)]⟩ ⟨⟨c9,c9,trivial⟩,⟨u9,trivial⟩⟩ (fun k=>⟨[(5,some (vI k))],[]⟩) (fun k=>1 <= k /\ k <= l.length /\ ∀ j,0 < j -> j < k -> ¬ l.getD j default = l.getD (j - 1) default) (fun k=>l.length - k) (1) (⟨bko _,by omega,fun j h1 h2=>by omega⟩) ⟨⟨zy,trivial⟩,trivial⟩ ?_;rintro k ⟨hk1,hk,hI⟩;refine w_8 ?_;refine hcd (fun h1=>?_) (fun h1=>?_)
 ·
  refine ku ?_;refine qcx aeg (b1n _ _) ?_;refine w_2 ?_;refine hcb (fun h2=>?_) (fun h2=>?_)
  ·
   refine ik ?_;refine a6 (ι:=Nat × Nat × List Rw) ⟨[(0,some _),(1,some _),(6,some _)],[]⟩ ⟨⟨c9,c9,c9,trivial⟩,trivial⟩ (fun x=>⟨[(5,some (vI x.1)),(7,some (vI ((x.2.1:Int) - k)))],[(900,some (.arr true 1 84 l.length (lf rC x.2.2)))]⟩) (fun x=>CpZ l k x.1 x.2.1 x.2.2) (fun x=>l.length - x.2.1) ((k,k + 1,l)) (CpZ.start hk1 bos hI (by first | exact a7b bot rfl bos | exact aek bot rfl bos)) ⟨⟨zy,⟨_,rfl,(coi bov)⟩,trivial⟩,⟨u9,trivial⟩⟩ ?_;rintro ⟨p,q,m⟩ hC;have hC0:=hC;obtain ⟨hml,hkq,hpq,hql,_,_⟩:=hC0;dsimp only at hC hml hkq hpq hql;refine w_8 ?_;refine hcd (fun h3=>?_) (fun h3=>?_)
   ·
    simp only [ek,be,bkw] at h3;refine ku ?_;refine qcx aeg (b1n _ _) ?_;refine w_3 ?_;refine hcv (fun h4=>?_) (fun h4=>?_)
    ·
     refine a69 ?_
     first | (refine ⟨(p + 1, q + 1, m.set p (m.getD q default)), ?_, ?_, ?_⟩
              · exact hC.keep bos (by first | exact a7u bot boy boy | exact ady bot boy boy)
              · first | omega | (dsimp only;omega)
              exact ⟨⟨⟨_,rfl,(coi bov)⟩,⟨_,rfl,(coi bov)⟩,c9,c9,c9,trivial⟩,⟨⟨_,rfl,(sm id hml.symm bos (by dsimp only;omega) boy)⟩,trivial⟩⟩)
           | (refine ⟨(p,q + 1,m), ?_, ?_, ?_⟩
              · exact hC.skip bos (by first | exact a7b bot boy boy | exact aek bot boy boy)
              · first | omega | (dsimp only;omega)
              exact ⟨⟨⟨_,rfl,(coi bov)⟩,⟨_,rfl,(coi bov)⟩,c9,c9,c9,trivial⟩,⟨u9,trivial⟩⟩)
    refine w_6 ?_
    first | (refine ⟨(p + 1, q + 1, m.set p (m.getD q default)), ?_, ?_, ?_⟩
             · exact hC.keep bos (by first | exact a7u bot boy boy | exact ady bot boy boy)
             · first | omega | (dsimp only;omega)
             exact ⟨⟨⟨_,rfl,(coi bov)⟩,⟨_,rfl,(coi bov)⟩,c9,c9,c9,trivial⟩,⟨⟨_,rfl,(sm id hml.symm bos (by dsimp only;omega) boy)⟩,trivial⟩⟩)
          | (refine ⟨(p,q + 1,m), ?_, ?_, ?_⟩
             · exact hC.skip bos (by first | exact a7b bot boy boy | exact aek bot boy boy)
             · first | omega | (dsimp only;omega)
             exact ⟨⟨⟨_,rfl,(coi bov)⟩,⟨_,rfl,(coi bov)⟩,c9,c9,c9,trivial⟩,⟨u9,trivial⟩⟩)
   simp only [ek,be,bkw] at h3;refine w_6 ?_;refine r9 0 true ?_;refine w_5 ?_;refine b1i rfl rfl rfl rfl rfl ?_;refine w_3 ?_;refine ⟨.inr rfl, ?_⟩;exact ⟨_,_,rfl,bou,azm hC bos (by simp [be]),trivial⟩
  refine w_6 ?_;refine lpz (k + 1) ⟨⟨zy,c9,c9,trivial⟩,⟨u9,trivial⟩⟩ ?_;refine ⟨by omega,by show k + 1 <= _;omega,fun j h1 h2=>?_⟩
  rcases bn5 (bng h2) with h | h
  · exact hI j h1 h
  subst h
  first | exact a7u bot rfl bos | exact ady bot rfl bos
 refine w_6 ?_;refine av 4 rfl rfl rfl ?_;refine jn ?_;refine ⟨.inr rfl, ?_⟩;exact ⟨_,_,rfl,bou,ak9 (k:=k) bos hI,trivial⟩
end
section
open Go.Proofs
theorem adk:goodFn Tryz.prog 174:=wgx Tryz.func174
theorem ae3 (n:Int) (l:List Rw) (hl:l.length <= 8589934592):da Tryz.prog 174 [.agg [.p (.raw (.int .i64 n)), .ref 900 l.length]] [(900, .arr true 1 84 l.length (lf rC l))] (.v (.agg [.p (.raw (.int .i64 n)), .p (rl (ar l))])) [] []:=by
 refine hfx (nt:=11) Tryz.func174 ?_;refine sx7 ?_;refine m9 0 ?_;refine m9 1 ?_;refine w_5 ?_;refine fc9 b77 (baz 900 _ l hl) ⟨u9,trivial⟩ ?_;refine w_5 ?_;refine gi rfl rfl rfl rfl rfl rfl b44 (bdy (srZ l)) (⟨congrArg (HV.ref 900) (aps l).symm,CoP.refl _,trivial⟩) ⟨⟨_,rfl,f5 rfl (aps l).symm⟩,trivial⟩ rfl rfl ?_;refine w_9 ?_;refine ⟨.inr rfl, ?_⟩;exact ⟨_,_,rfl,bou,CoR.of_eq (by rw [<- azu];rfl),trivial⟩
end
section
open Go.Proofs
theorem aes:goodFn Tryz.prog 177:=wgx Tryz.func177
theorem at6 (n:Int) (l:List Rw) (hl:l.length <= 5864062014805):da Tryz.prog 177 [.one (.p (.raw (.int .i64 n))), .one (.p (rl l))] [] (.v (.agg [.p (.raw (.int .i64 n)), .ref 900 (ar l).length])) [(900, .arr true 1 84 (ar l).length (lf rC (ar l)))] []:=by
 refine hfx (nt:=74) Tryz.func177 ?_;refine cq ?_;refine cb 1 rfl fun hn=>?_;refine gy ?_;refine m9 0 ?_;refine w_5 ?_;refine m9 1 ?_;refine w_2 ?_;refine qw 1 1 900 true 1 84 (lf rC (ar (l.take 0))) boz rfl rfl (CoP.sl rfl (.inr rfl) (fun h=>h) (fun i j hi _=>absurd hi (bkp i))) (.inr rfl) rfl rfl ?_;refine w_6 ?_;refine a6 (ι:=Nat) ⟨[(1,some _),(4,some _),(5,some _)],[(0,some _)]⟩ ⟨⟨c9,c9,c9,trivial⟩,⟨u9,trivial⟩⟩ (fun i=>⟨[(6,some (vI i))],[(1,some (.box [.p (.raw (.int .i64 n)), .ref 900 (ar (l.take i)).length])),(900,some (.arr true 1 84 (ar (l.take i)).length (lf rC (ar (l.take i)))))]⟩) (fun i=>i <= l.length) (fun i=>l.length - i) (0) (bkl _) ⟨⟨zy,trivial⟩,⟨u9,u9,trivial⟩⟩ ?_;rintro i hi;have hlen:=zw (l.take i);rw [bku] at hlen;refine w_8 ?_;refine hcd (fun h0=>?_) (fun h0=>?_)
 ·
  refine cu ?_;refine qcx alp (aj6 n (ar (l.take i)) (l.getD i default)) ?_;refine w_2 ?_;refine hcb (fun h1=>?_) (fun h1=>?_)
  ·
   have hin:=bcx h1;refine w_6 ?_
   first | (refine ⟨i + 1, ?_, ?_, ?_⟩
            · show i + 1 <= _;omega
            · first | omega | (dsimp only;omega)
            exact ⟨⟨zy,c9,c9,c9,trivial⟩,⟨⟨_,rfl,⟨CoH.refl _,congrArg (HV.ref 900) (by rw [fb bos,vf (ic _) hin]),trivial⟩⟩,⟨_,rfl,(bv (by rw [fb bos,vf (ic _) hin]))⟩,u9,trivial⟩⟩)
         | (refine ⟨i + 1, ?_, ?_, ?_⟩
            · show i + 1 <= _;omega
            · first | omega | (dsimp only;omega)
            exact ⟨⟨zy,c9,c9,c9,trivial⟩,⟨⟨_,rfl,⟨CoH.refl _,congrArg (HV.ref 900) (by rw [fb bos,<- hfin,mf hk]),trivial⟩⟩,⟨_,rfl,(f5 (by rw [fb bos,<- hfin]) (by rw [fb bos,<- hfin,mf hk]))⟩,u9,trivial⟩⟩)
  have hin:=aoy h1;refine w_9 ?_;refine m9 2 ?_;refine r9 3 true ?_;refine ik ?_;refine a6 (ι:=Nat) ⟨[(1,some _),(4,some _),(5,some _),(6,some _)],[(1,some _),(0,some _)]⟩ ⟨⟨c9,c9,c9,c9,trivial⟩,⟨u9,u9,trivial⟩⟩ (fun k=>⟨[(7,some (vI k))],[(900,some (.arr true 1 84 ((ar (l.take i)).length + 1) (lf rC (l6 (ar (l.take i)) k (l.getD i default)))))]⟩) (fun k=>k <= (ar (l.take i)).length /\ ∀ j,k <= j -> j < (ar (l.take i)).length -> ltZ (l.getD i default) ((ar (l.take i)).getD j default) = true) (fun k=>k) ((ar (l.take i)).length) (⟨bko _,fun j h1 h2=>by omega⟩) ⟨⟨zy,trivial⟩,⟨⟨_,rfl,(by rw [b05];exact apz (CoP.refl _))⟩,trivial⟩⟩ ?_;rintro k ⟨hk,hK⟩;refine w_6 ?_;refine am rfl rfl (fun r2=>?_) (fun r2=>?_)
  ·
   have h2:=tz1 r2;(iterate 11 refine qy ?_ (hg:=(gtt r2)));refine qcx ap2 (b2r _ _) ?_ (hg:=(gtt r2));refine w_3 ?_;refine a8 _ rfl (fun r3=>?_) (fun r3=>?_)
   ·
    have h3:=bp r2 r3;have hb:=au6 bos hk h3 bos bos;refine w_3 ?_;refine aeu (E:=gl) fc wg [0,1,2,7,8,9,10,11,12,13,14,15,16,17,18,19,3,4,5,6,20,21] ?_;refine bj7 ?_;refine ⟨k - 1, ?_, ?_, ?_⟩
    · refine ⟨by omega,fun j h1 h2=>?_⟩
      by_cases hj:j = k - 1
      · rw [hj];exact hb
      exact hK j bos h2
    · show k - 1 < k
      omega
    exact ⟨⟨zy,c9,c9,c9,c9,trivial⟩,⟨⟨_,rfl,(aws bos hk bos bos rfl)⟩,u9,u9,trivial⟩⟩
   have h3:=bp r2 r3;have hb:=au6 bos hk h3 bos bos;have hfin:=ag8 (ic _) hin hk hK (.inr (by rw [hb];decide));refine w_6 ?_
   first | (refine ⟨i + 1, ?_, ?_, ?_⟩
            · show i + 1 <= _;omega
            · first | omega | (dsimp only;omega)
            exact ⟨⟨zy,c9,c9,c9,trivial⟩,⟨⟨_,rfl,⟨CoH.refl _,congrArg (HV.ref 900) (by rw [fb bos,vf (ic _) hin]),trivial⟩⟩,⟨_,rfl,(bv (by rw [fb bos,vf (ic _) hin]))⟩,u9,trivial⟩⟩)
         | (refine ⟨i + 1, ?_, ?_, ?_⟩
            · show i + 1 <= _;omega
            · first | omega | (dsimp only;omega)
            exact ⟨⟨zy,c9,c9,c9,trivial⟩,⟨⟨_,rfl,⟨CoH.refl _,congrArg (HV.ref 900) (by rw [fb bos,<- hfin,mf hk]),trivial⟩⟩,⟨_,rfl,(f5 (by rw [fb bos,<- hfin]) (by rw [fb bos,<- hfin,mf hk]))⟩,u9,trivial⟩⟩)
  have h2:=tz2 r2;have hfin:=ag8 (ic _) hin hk hK (.inl bos);(iterate 12 refine k9 (gft r2) ?_);refine rq rfl rfl rfl rfl rfl ?_ (hp:=r2);refine w_2 ?_;refine a8 _ rfl (fun e=>by cases e) (fun _=>?_);refine w_6 ?_
  first | (refine ⟨i + 1, ?_, ?_, ?_⟩
           · show i + 1 <= _;omega
           · first | omega | (dsimp only;omega)
           exact ⟨⟨zy,c9,c9,c9,trivial⟩,⟨⟨_,rfl,⟨CoH.refl _,congrArg (HV.ref 900) (by rw [fb bos,vf (ic _) hin]),trivial⟩⟩,⟨_,rfl,(bv (by rw [fb bos,vf (ic _) hin]))⟩,u9,trivial⟩⟩)
        | (refine ⟨i + 1, ?_, ?_, ?_⟩
           · show i + 1 <= _;omega
           · first | omega | (dsimp only;omega)
           exact ⟨⟨zy,c9,c9,c9,trivial⟩,⟨⟨_,rfl,⟨CoH.refl _,congrArg (HV.ref 900) (by rw [fb bos,<- hfin,mf hk]),trivial⟩⟩,⟨_,rfl,(f5 (by rw [fb bos,<- hfin]) (by rw [fb bos,<- hfin,mf hk]))⟩,u9,trivial⟩⟩)
 obtain rfl:i = l.length:=by omega
 refine w_7 ?_;refine ⟨.inr rfl, ?_⟩;exact ⟨_,_,rfl,bou,CoR.of_eq (by rw [bks];rfl),⟨⟨_,rfl,CoO.of_eq (by rw [bks])⟩,trivial⟩⟩
theorem a9o (n:Int) (l:List Rw) (hl:l.length <= 5864062014805):a7 Tryz.prog 177 [pI n,pR l] (ae [pT n (ar l)]) :=
 da.pure (args:=[pI n,pR l]) (l:=[.agg [.p (.raw (.int .i64 n)), .ref 900 (ar l).length]]) (at6 n l hl) rfl ⟨⟨trivial,rfl,trivial⟩,trivial⟩
end
section
abbrev nM (l:List Rw):Nat -> Nat:=fun i=>(l.getD i default).length
abbrev ci (l:List Rw):Nat -> Nat -> Int:=fun i r=>(l.getD i default).getD r default
abbrev mg (M:Nat -> Nat -> Int):Nat -> Nat -> Nat -> PV:=fun i r _=>.raw (.int .i64 (M i r))
section
variable {e et:TypeId} {i k:Nat}
theorem af8 {l:List Rw} {f:Nat -> Nat -> PV} (hk:k = (l.getD i default).length) (hf:f = lf zC (l.getD i default)):
 CoO (.nest e et 1 (i + 1) (qz (nM l) i k) (uf (mg (ci l)) i f) none) (.nest e et 1 (i + 1) (nM l) (mg (ci l)) none):=by
 subst hk hf
 have hm:∀ j,qz (nM l) i (l.getD i default).length j = nM l j:=fun j=>by
  by_cases h:j = i
  · subst h;rw [aef]
  rw [a4a h]
 refine ⟨rfl,rfl,rfl,rfl,rfl,fun j _=>(hm j).symm,fun j r c hj hr hc=>CoP.of_eq ?_⟩;by_cases h:j = i
 · subst h
   rw [an9];rfl
 rw [alr h]
abbrev hiI (x y:Int):Int:=if x < y then y else x
abbrev loI (x y:Int):Int:=if y < x then y else x
def m7 (M:Nat -> Nat -> Int) (hi lo:Int) (i k:Nat):Nat -> Nat -> Int:=fun i' r=>if (i' < i \/ (i' = i /\ r < k)) /\ M i' r = hi then lo else M i' r
def eqM (M:Nat -> Nat -> Int) (a b j:Nat):Nat -> Nat -> Int:=fun i r=>if M i r = hiI (M a j) (M b j) then loI (M a j) (M b j) else M i r
def eqMs (M:Nat -> Nat -> Int) (a b:Nat) (js:List Nat):Nat -> Nat -> Int:=js.foldl (fun M j=>eqM M a b j) M
def dy (l:List Rw) (M:Nat -> Nat -> Int):List Rw:=(List.range l.length).map fun i=>(List.range (l.getD i default).length).map (M i)
theorem lr (l:List Rw) (M:Nat -> Nat -> Int):(dy l M).length = l.length:=by unfold dy;simp
variable {M:Nat -> Nat -> Int}
theorem ag4 {l:List Rw} (h:i < l.length):(dy l M).getD i default = (List.range (l.getD i default).length).map (M i):=by
 unfold dy;rw [bkk,bl6,bm5 h];rfl
variable {hi lo:Int}
theorem agi:m7 M hi lo 0 0 = M:=by
 funext i r;unfold m7;rw [if_neg bos]
theorem aas (h:m7 M hi lo i k i k = hi):m7 M hi lo i (k + 1) = fun i' r=>if i' = i /\ r = k then lo else m7 M hi lo i k i' r:=by
 have h0:M i k = hi:=by
  unfold m7 at h;rwa [if_neg bos] at h
 funext i' r;unfold m7;by_cases e:i' = i /\ r = k
 · rw [if_pos e,if_pos ⟨.inr ⟨e.1,by omega⟩,by rw [e.1,e.2];exact h0⟩]
 rw [if_neg e];by_cases e2:(i' < i \/ (i' = i /\ r < k)) /\ M i' r = hi
 · rw [if_pos e2,if_pos ⟨e2.1.imp_right fun x=>⟨x.1,by omega⟩,e2.2⟩]
 rw [if_neg e2,if_neg fun e3=>e2 ⟨by omega,e3.2⟩]
theorem abj (h:¬ m7 M hi lo i k i k = hi):m7 M hi lo i (k + 1) = m7 M hi lo i k:=by
 have h0:¬ M i k = hi:=by
  unfold m7 at h;rwa [if_neg bos] at h
 funext i' r;unfold m7;by_cases e:i' = i /\ r = k
 · rw [if_neg (fun x=>h0 (by rw [<- e.1,<- e.2];exact x.2)),if_neg (fun x=>h0 (by rw [<- e.1,<- e.2];exact x.2))]
 by_cases e2:(i' < i \/ (i' = i /\ r < k)) /\ M i' r = hi
 · rw [if_pos e2,if_pos ⟨e2.1.imp_right fun x=>⟨x.1,by omega⟩,e2.2⟩]
 rw [if_neg e2,if_neg fun e3=>e2 ⟨by omega,e3.2⟩]
variable {M':Nat -> Nat -> Int} {m:Nat -> Nat} {n:Nat}
theorem a6v {i0 k0:Nat} {v:Int} (hM:M' = fun i' r=>if i' = i /\ r = k then v else M i' r) (hi:i0 = i) (hk:k0 = k):
 CoO (.nest e et 1 n m (pw (mg M) i0 k0 0 [.raw (.int .i64 v)]) none) (.nest e et 1 n m (mg M') none):=by
 subst hi hk hM;refine ⟨rfl,rfl,rfl,rfl,rfl,fun j _=>rfl,fun j r c hj hr hc=>CoP.of_eq ?_⟩;obtain rfl:c = 0:=by omega
 unfold pw;by_cases h:j = i0
 · rw [if_pos h]
   unfold er;by_cases h2:r = k0
   · rw [if_pos ⟨h2,by omega,by simp⟩]
     show _ = PV.raw (.int .i64 (if j = i0 /\ r = k0 then v else M j r));rw [if_pos ⟨h,h2⟩];rfl
   rw [if_neg (fun x=>h2 x.1)];show _ = PV.raw (.int .i64 (if j = i0 /\ r = k0 then v else M j r));rw [if_neg (fun x=>h2 x.2)]
 rw [if_neg h];show _ = PV.raw (.int .i64 (if j = i0 /\ r = k0 then v else M j r));rw [if_neg (fun x=>h x.1)]
theorem s6 (h:∀ i r,i < n -> r < m i -> M' i r = M i r):CoO (.nest e et 1 n m (mg M) none) (.nest e et 1 n m (mg M') none) :=
 ⟨rfl,rfl,rfl,rfl,rfl,fun _ _=>rfl,fun j r c hj hr hc=>CoP.of_eq (by show PV.raw (.int .i64 (M j r)) = PV.raw (.int .i64 (M' j r));rw [h j r hj hr])⟩
theorem al8 (hk:¬ k < m i):∀ i' r,i' < n -> r < m i' -> m7 M hi lo (i + 1) 0 i' r = m7 M hi lo i k i' r:=fun i' r h1 h2=>by
 unfold m7;by_cases e2:(i' < i \/ (i' = i /\ r < k)) /\ M i' r = hi
 · rw [if_pos e2,if_pos ⟨by omega,e2.2⟩]
 rw [if_neg e2,if_neg fun e3=>e2 ⟨by
  rcases bnw i' i with h | h
  · exact .inl h
  right;obtain rfl:i' = i:=by omega
  exact ⟨rfl,by omega⟩,e3.2⟩]
theorem zm {a b j:Nat} (hn:¬ i < n):∀ i' r,i' < n -> r < m i' -> eqM M a b j i' r = m7 M (hiI (M a j) (M b j)) (loI (M a j) (M b j)) i 0 i' r:=fun i' r h1 h2=>by
 unfold m7 eqM;by_cases e2:M i' r = hiI (M a j) (M b j)
 · rw [if_pos e2,if_pos ⟨by omega,e2⟩]
 rw [if_neg e2,if_neg fun e3=>e2 e3.2]
theorem ul {a b j:Nat} (h:M a j = M b j):eqM M a b j = M:=by
 funext i r;unfold eqM;have e1:hiI (M a j) (M b j) = M b j:=by unfold hiI;rw [if_neg bos,h]
 have e2:loI (M a j) (M b j) = M b j:=by unfold loI;rw [if_neg bos,h]
 rw [e1,e2];by_cases e:M i r = M b j
 · rw [if_pos e,e]
 rw [if_neg e]
theorem a0p {a b:Nat} {js:List Nat} (h:i < js.length):eqMs M a b (js.take (i + 1)) = eqM (eqMs M a b (js.take i)) a b (js.getD i default):=by
 unfold eqMs;rw [ay h,bm0];rfl
theorem atc (s:AS):(al s).length <= 32:=bky (bmk _ _) bow
theorem ayg {l:List Nat} {j:Nat} (h:j < l.length):l.getD j default ∈ l:=by
 rw [bkk,bkj h];exact blh h
theorem aoe {l:List Rw} (hn:n = l.length):CoO (.arr true 1 e n (a0a 1 (nM l) (mg M))) (.arr true 1 e (dy l M).length (lf rC (dy l M))):=by
 subst hn;refine ⟨fun h=>h,rfl,rfl,lr l M,fun i j hi hj=>?_⟩;show CoP (.sl (l.getD i default).length 1 false (mg M i)) (zl ((dy l M).getD i default));rw [ag4 hi];refine CoP.sl bow (.inl rfl) (fun h=>h) fun r c hr hc=>CoP.of_eq ?_;show PV.raw (.int .i64 (M i r)) = PV.raw (.int .i64 (((List.range (l.getD i default).length).map (M i)).getD r default));rw [bkk,bl6,bm5 hr];rfl
end
end
section
open Go.Proofs
theorem b1v (n:Int) (l:List Rw) (hl:∀ i,i < l.length -> (l.getD i default).length <= 17592186044416) (hl2:l.length <= 5864062014805):da Tryz.prog 200 [.agg [.p (.raw (.int .i64 n)), .p (rl l)]] [] (.v (.agg [.p (.raw (.int .i64 n)), .ref 901 l.length])) [(901, .nest 84 3 1 l.length (nM l) (mg (ci l)) none)] []:=by
 refine hfx (nt:=25) Tryz.func200 ?_;refine sx7 ?_;refine m9 0 ?_;refine m9 1 ?_;refine w_6 ?_;refine m9 2 ?_;refine w_2 ?_;refine ae4 2 1 901 84 3 1 (nM l) (mg (ci l)) boz rfl rfl rfl rfl ?_;refine w_9 ?_;refine a6 (ι:=Nat) ⟨[(2,some _),(3,some _),(10,some _),(11,some _)],[(1,some _)]⟩ ⟨⟨c9,c9,c9,c9,trivial⟩,⟨u9,trivial⟩⟩ (fun i=>⟨[(12,some (vI i))],[(2,some (.box [.p (.raw (.int .i64 n)), .ref 901 i])),(901,some (.nest 84 3 1 i (nM l) (mg (ci l)) none))]⟩) (fun i=>i <= l.length) (fun i=>l.length - i) (0) (bkl _) ⟨⟨zy,trivial⟩,⟨u9,u9,trivial⟩⟩ ?_;rintro i hi;refine w_5 ?_;refine hcd (fun h0=>?_) (fun h0=>?_)
 · refine ik ?_;refine fc9 ae1 ((adi (l.getD i default).length false (lf zC (l.getD i default)) (hl i bos)).swap 0 907) trivial ?_;refine m9 3 ?_;refine r9 4 true ?_;refine w_4 ?_;refine afu 901 907 rfl rfl ?_;refine w_4 ?_;exact lpx (i + 1) ⟨⟨zy,c9,c9,c9,c9,trivial⟩,⟨u9,⟨_,rfl,(af8 rfl rfl)⟩,u9,trivial⟩⟩
 obtain rfl:i = l.length:=by omega
 refine w_7 ?_;refine ⟨.inr rfl, ?_⟩;exact ⟨_,_,rfl,bou,CoR.refl _,⟨u9,trivial⟩⟩
end
section
open Go.Proofs
theorem b93:goodFn Tryz.prog 224:=wgx Tryz.func224
theorem b9e (n:Int) (l:List Rw) (s:AS) (a b:Nat) (hl:∀ i,i < l.length -> (l.getD i default).length <= 17592186044416) (hl2:l.length <= 8589934592) (ha:a < l.length) (hb:b < l.length) (hs:∀ j,j ∈ al s -> ∀ i,i < l.length -> j < (l.getD i default).length):a7 Tryz.prog 224 [pT n l,pA s,pI (a:Int),pI (b:Int)] (ae [pT n (ar (dy l (eqMs (ci l) a b (al s))))]):=by
 refine hpx (nt:=76) Tryz.func224 ?_;refine sx7 ?_;refine m9 0 ?_;refine m9 1 ?_;refine w_4 ?_;refine fc9 aed (b1v n l hl bos) trivial ?_;refine m9 2 ?_;refine w_6 ?_;refine qcx a2k (ad4 s) ?_;refine w_4 ?_;refine a6 (ι:=Nat) ⟨[(2,some _),(3,some _),(8,some _),(9,some _),(20,some _),(21,some _)],[(1,some _),(2,some _)]⟩ ⟨⟨c9,c9,c9,c9,c9,c9,trivial⟩,⟨u9,u9,trivial⟩⟩ (fun q=>⟨[(22,some (vI q))],[(901,some (.nest 84 3 1 l.length (fun i=>(l.getD i default).length) (mg (eqMs (ci l) a b ((al s).take q))) none))]⟩) (fun q=>q <= (al s).length) (fun q=>(al s).length - q) (0) (bkl _) ⟨⟨zy,trivial⟩,⟨u9,trivial⟩⟩ ?_;rintro q hq;have hm32:=atc s;refine w_5 ?_;refine hcd (fun h0=>?_) (fun h0=>?_)
 ·
  have hjm:((al s).getD q default) ∈ al s:=ayg bos;have hja:=hs _ hjm a ha;have hjb:=hs _ hjm b hb;refine xa ?_;refine rq rfl rfl rfl rfl rfl ?_ (hp:=(by (try simp only [bkw,nM]);(repeat' apply And.intro) <;> first | trivial | rfl | omega | exact bkm rfl));refine w_7 ?_;refine rq rfl rfl rfl rfl rfl ?_ (hp:=(by (try simp only [bkw,nM]);(repeat' apply And.intro) <;> first | trivial | rfl | omega | exact bkm rfl));refine ef ?_;refine hcd (fun h1=>?_) (fun h1=>?_)
  ·
   refine w_5 ?_
   first | (refine ⟨q + 1, ?_, ?_, ?_⟩
            · show q + 1 <= _;omega
            · first | omega | (dsimp only;omega)
            exact ⟨⟨zy,c9,c9,c9,c9,c9,c9,trivial⟩,⟨⟨_,rfl,(by rw [a0p bos,ul bot];exact CoO.refl _)⟩,u9,u9,trivial⟩⟩)
         | (refine ⟨q + 1, ?_, ?_, ?_⟩
            · show q + 1 <= _;omega
            · first | omega | (dsimp only;omega)
            exact ⟨⟨zy,c9,c9,c9,c9,c9,c9,trivial⟩,⟨⟨_,rfl,(by rw [a0p bos];exact s6 (zm bos))⟩,u9,u9,trivial⟩⟩)
  refine w_9 ?_;refine a6 (ι:=Nat) ⟨[(2,some _),(3,some _),(8,some _),(9,some _),(12,some _),(13,some _),(20,some _),(21,some _),(22,some _),(46,some _),(47,some _)],[(1,some _),(2,some _)]⟩ ⟨⟨c9,c9,c9,c9,c9,c9,c9,c9,c9,c9,c9,trivial⟩,⟨u9,u9,trivial⟩⟩ (fun i=>⟨[(48,some (vI i))],[(901,some (.nest 84 3 1 l.length (fun i=>(l.getD i default).length) (mg (m7 (eqMs (ci l) a b ((al s).take q)) (hiI ((eqMs (ci l) a b ((al s).take q)) a ((al s).getD q default)) ((eqMs (ci l) a b ((al s).take q)) b ((al s).getD q default))) (loI ((eqMs (ci l) a b ((al s).take q)) a ((al s).getD q default)) ((eqMs (ci l) a b ((al s).take q)) b ((al s).getD q default))) i 0)) none))]⟩) (fun i=>i <= l.length) (fun i=>l.length - i) (0) (bkl _) ⟨⟨zy,trivial⟩,⟨⟨_,rfl,(by rw [agi];exact CoO.refl _)⟩,trivial⟩⟩ ?_;rintro i hi;refine w_5 ?_;refine hcd (fun h2=>?_) (fun h2=>?_)
  ·
   have hli:=hl i bos;refine x9 ?_;refine a6 (ι:=Nat) ⟨[(2,some _),(3,some _),(8,some _),(9,some _),(12,some _),(13,some _),(15,some _),(20,some _),(21,some _),(22,some _),(46,some _),(47,some _),(48,some _),(53,some _)],[(1,some _),(2,some _)]⟩ ⟨⟨c9,c9,c9,c9,c9,c9,c9,c9,c9,c9,c9,c9,c9,c9,trivial⟩,⟨u9,u9,trivial⟩⟩ (fun k=>⟨[(54,some (vI k))],[(901,some (.nest 84 3 1 l.length (fun i=>(l.getD i default).length) (mg (m7 (eqMs (ci l) a b ((al s).take q)) (hiI ((eqMs (ci l) a b ((al s).take q)) a ((al s).getD q default)) ((eqMs (ci l) a b ((al s).take q)) b ((al s).getD q default))) (loI ((eqMs (ci l) a b ((al s).take q)) a ((al s).getD q default)) ((eqMs (ci l) a b ((al s).take q)) b ((al s).getD q default))) i k)) none))]⟩) (fun k=>k <= (l.getD i default).length) (fun k=>(l.getD i default).length - k) (0) (bkl _) ⟨⟨zy,trivial⟩,⟨u9,trivial⟩⟩ ?_;rintro k hk;refine w_5 ?_;refine hcd (fun h3=>?_) (fun h3=>?_)
   ·
    refine ef ?_;(iterate 2 refine rq rfl rfl rfl rfl rfl ?_ (hp:=(by (try simp only [bkw,nM]);(repeat' apply And.intro) <;> first | trivial | rfl | omega | exact bkm rfl)));refine w_5 ?_;refine hcd (fun h4=>?_) (fun h4=>?_)
    · refine w_6 ?_;refine rq rfl rfl rfl rfl rfl ?_ (hp:=(by (try simp only [bkw,nM]);(repeat' apply And.intro) <;> first | trivial | rfl | omega | exact bkm rfl));refine rs rfl rfl rfl rfl rfl ?_ (hp:=(by (try simp only [bkw,nM]);(repeat' apply And.intro) <;> first | trivial | rfl | omega | exact bkm rfl));refine w_5 ?_;exact lpx (k + 1) ⟨⟨zy,c9,c9,c9,c9,c9,c9,c9,c9,c9,c9,c9,c9,c9,c9,trivial⟩,⟨⟨_,rfl,(by first | exact a6v (aas bot) bow bow | (rw [abj bot];exact CoO.refl _))⟩,u9,u9,trivial⟩⟩
    refine w_5 ?_;exact lpx (k + 1) ⟨⟨zy,c9,c9,c9,c9,c9,c9,c9,c9,c9,c9,c9,c9,c9,c9,trivial⟩,⟨⟨_,rfl,(by first | exact a6v (aas bot) bow bow | (rw [abj bot];exact CoO.refl _))⟩,u9,u9,trivial⟩⟩
   refine w_5 ?_;exact lpx (i + 1) ⟨⟨zy,c9,c9,c9,c9,c9,c9,c9,c9,c9,c9,c9,trivial⟩,⟨⟨_,rfl,(s6 (al8 bos))⟩,u9,u9,trivial⟩⟩
  refine w_5 ?_
  first | (refine ⟨q + 1, ?_, ?_, ?_⟩
           · show q + 1 <= _;omega
           · first | omega | (dsimp only;omega)
           exact ⟨⟨zy,c9,c9,c9,c9,c9,c9,trivial⟩,⟨⟨_,rfl,(by rw [a0p bos,ul bot];exact CoO.refl _)⟩,u9,u9,trivial⟩⟩)
        | (refine ⟨q + 1, ?_, ?_, ?_⟩
           · show q + 1 <= _;omega
           · first | omega | (dsimp only;omega)
           exact ⟨⟨zy,c9,c9,c9,c9,c9,c9,trivial⟩,⟨⟨_,rfl,(by rw [a0p bos];exact s6 (zm bos))⟩,u9,u9,trivial⟩⟩)
 obtain rfl:q = (al s).length:=by omega
 refine w_2 ?_;refine aob 901 rfl ?_;refine w_2 ?_;refine gi rfl rfl rfl rfl rfl rfl adk ((ae3 n (dy l (eqMs (ci l) a b (al s))) (by rw [lr];omega)).swap 900 901) (⟨⟨CoP.refl _,congrArg (HV.ref 901) (lr _ _).symm,trivial⟩,trivial⟩) ⟨⟨_,rfl,(by rw [bks];exact aoe rfl)⟩,trivial⟩ rfl rfl ?_;refine w_2 ?_;exact hx8 rfl rfl rfl (CoL.refl _)
end
section
def v8 (n:Int) (l:List Rw) (row:Rw):Int × List Rw × Int:=if 256 < (ar (l ++ [row])).length then (0,[],3) else (n,ar (l ++ [row]),0)
theorem bf {s:Nat} {f:Nat -> Nat -> PV}:CoP (.sl 0 s true f) (rl []):=CoP.sl rfl (.inr rfl) (fun h=>by cases h) fun i j hi _=>absurd hi (bkp i)
def fdE (n:Int) (l:List Rw) (a b:Nat) (x:Fd):Int × List Rw × Int:=if kj (l.getD a default) (l.getD b default) x.lhs = true then (n,ar (dy l (eqMs (ci l) a b (al x.rhs))),0) else (0,[],1)
def mvE (n:Int) (l:List Rw) (a b:Nat) (x:Fd):Int × List Rw × Int:=if kj (l.getD a default) (l.getD b default) x.lhs = true then v8 n l (dz (l.getD a default) (l.getD b default) (x.lhs ||| x.rhs)) else (0,[],1)
theorem jc {n:Int} {l:List Rw} (h:tok n l = true):0 <= n /\ n <= 16 /\ l.length <= 256 /\ ∀ i,i < l.length -> (l.getD i default).length = n.toNat:=by
 unfold tok at h;rw [bkt,decide_eq_true_iff,decide_eq_true_iff] at h;obtain ⟨⟨h0,h1,h2⟩,h3⟩:=h;refine ⟨h0,h1,h2,fun i hi=>?_⟩;have:=h3 i hi;unfold o7 at this;rw [bkt,bkt,decide_eq_true_iff] at this;omega
theorem a86 {n:Int} (h0:0 <= n) (h1:n <= 16) {x:Fd} (h:inU n x = true) {j:Nat} (hj:j ∈ al x.rhs):j < n.toNat:=by
 obtain ⟨_,h3⟩:=(pk h0 h1).1 h;obtain ⟨h4,h5⟩:=jg.1 hj;have h6:x.rhs >>> n.toNat = 0:=(ui (n:=n.toNat) bos).1 (by unfold aa at h3;rwa [bmn bos] at h3)
 rcases bnw j n.toNat with h | h
 · exact h
 rw [bay.1 h6 j h4 h] at h5;cases h5
end
section
open Go.Proofs
theorem b7z:goodFn Tryz.prog 225:=wgx Tryz.func225
theorem bj6 (n:Int) (l:List Rw) (row:Rw) (hl:∀ i,i < l.length -> (l.getD i default).length <= 17592186044416) (hl2:l.length <= 4294967296):a7 Tryz.prog 225 [pT n l,pZ row] (ae [pT (v8 n l row).1 (v8 n l row).2.1,pI (v8 n l row).2.2]):=by
 refine hpx (nt:=23) Tryz.func225 ?_;refine sx7 ?_;refine m9 0 ?_;refine m9 1 ?_;refine w_5 ?_;refine fc9 aed (aog n l hl bos) trivial ?_;refine m9 2 ?_;refine w_7 ?_;refine m9 3 ?_;refine r9 4 true ?_;refine w_6 ?_;refine gi rfl rfl rfl rfl rfl rfl adk ((ae3 n (l ++ [row]) bp3).swap 900 901) (⟨⟨CoP.refl _,congrArg (HV.ref 901) bow,trivial⟩,trivial⟩) ⟨⟨_,rfl,bz rfl (CoP.refl _)⟩,trivial⟩ rfl rfl ?_;refine ce ?_;refine hcd (fun h0=>?_) (fun h0=>?_)
 · refine w_7 ?_;refine ⟨.inr rfl, ?_⟩;have he:v8 n l row = (0,[],3):=if_pos bos;exact f9 rfl rfl (by rw [he];exact ⟨CoC.agg ⟨CoP.refl _,bf,trivial⟩,CoC.refl _,trivial⟩)
 refine w_8 ?_;refine ⟨.inr rfl, ?_⟩;have he:v8 n l row = (n,ar (l ++ [row]),0):=if_neg bos;exact f9 rfl rfl (by rw [he];exact CoL.refl _)
theorem ael:goodFn Tryz.prog 176:=wgx Tryz.func176
theorem aou (n:Int) (l:List Rw) (p m:List Fd) (i a b:Nat) (hT:tok n l = true) (ha:a < l.length) (hb:b < l.length) (hi:i < p.length) (hu:inU n (p.getD i default) = true):a7 Tryz.prog 176 [pT n l,pP (fdl p),pP (fdl m), .agg [.raw (.bool false), .raw (.int .i64 (i:Int)), .raw (.int .i64 (a:Int)), .raw (.int .i64 (b:Int))]] (ae [pT (fdE n l a b (p.getD i default)).1 (fdE n l a b (p.getD i default)).2.1,pI (fdE n l a b (p.getD i default)).2.2]):=by
 refine hpx (nt:=75) Tryz.func176 ?_;refine cq ?_;obtain ⟨hn0,hn16,hl256,hrow⟩:=jc hT;have hra:=hrow a ha;have hrb:=hrow b hb;have hbig:∀ i,i < l.length -> (l.getD i default).length <= 17592186044416:=fun i hi=>by rw [hrow i hi];omega
 refine gy ?_;refine m9 0 ?_;refine m9 1 ?_;refine m9 2 ?_;refine bb4 ?_;refine a8 _ rfl (fun _=>?_) (fun e=>by cases e);refine cu ?_;refine qcx a2o (a4p (l.getD a default) (l.getD b default) (p.getD i default).lhs bos bos) ?_;refine w_2 ?_;refine hcv (fun h0=>?_) (fun h0=>?_)
 · refine w_7 ?_;refine ⟨.inr rfl, ?_⟩;have he:fdE n l a b (p.getD i default) = (0,[],1):=if_neg bp5;exact f9 rfl rfl (by rw [he];exact ⟨CoC.agg ⟨CoP.refl _,bf,trivial⟩,CoC.refl _,trivial⟩)
 refine oe ?_;refine qcx b93 (b9e n l (p.getD i default).rhs a b hbig bos ha hb (fun j hj i hi=>by rw [hrow i hi];exact a86 hn0 hn16 hu hj)) ?_;refine w_5 ?_;refine ⟨.inr rfl, ?_⟩;have he:fdE n l a b (p.getD i default) = (n,ar (dy l (eqMs (ci l) a b (al (p.getD i default).rhs))),0):=if_pos bp5;exact f9 rfl rfl (by rw [he];exact CoL.refl _)
theorem apq (n:Int) (l:List Rw) (p m:List Fd) (i a b:Nat) (hT:tok n l = true) (ha:a < l.length) (hb:b < l.length) (hi:i < m.length):a7 Tryz.prog 176 [pT n l,pP (fdl p),pP (fdl m), .agg [.raw (.bool true), .raw (.int .i64 (i:Int)), .raw (.int .i64 (a:Int)), .raw (.int .i64 (b:Int))]] (ae [pT (mvE n l a b (m.getD i default)).1 (mvE n l a b (m.getD i default)).2.1,pI (mvE n l a b (m.getD i default)).2.2]):=by
 refine hpx (nt:=75) Tryz.func176 ?_;refine cq ?_;obtain ⟨hn0,hn16,hl256,hrow⟩:=jc hT;have hra:=hrow a ha;have hrb:=hrow b hb;have hbig:∀ i,i < l.length -> (l.getD i default).length <= 17592186044416:=fun i hi=>by rw [hrow i hi];omega
 refine gy ?_;refine m9 0 ?_;refine m9 1 ?_;refine m9 2 ?_;refine bb4 ?_;refine a8 _ rfl (fun e=>by cases e) (fun _=>?_);refine w_8 ?_;refine m9 3 ?_;refine w_9 ?_;refine qcx a2o (a4p (l.getD a default) (l.getD b default) (m.getD i default).lhs bos bos) ?_;refine w_2 ?_;refine hcv (fun h0=>?_) (fun h0=>?_)
 · refine w_7 ?_;refine ⟨.inr rfl, ?_⟩;have he:mvE n l a b (m.getD i default) = (0,[],1):=if_neg bp5;exact f9 rfl rfl (by rw [he];exact ⟨CoC.agg ⟨CoP.refl _,bf,trivial⟩,CoC.refl _,trivial⟩)
 refine cu ?_;refine rc rfl rfl rfl rfl rfl rfl ap4 (avx (l.getD a default) (l.getD b default) ((m.getD i default).lhs ||| (m.getD i default).rhs) bos bos) (⟨CoC.refl _,CoC.refl _,cci (by rw [bOr];rfl),trivial⟩) rfl rfl ?_;refine qcx b7z (bj6 n l (dz (l.getD a default) (l.getD b default) ((m.getD i default).lhs ||| (m.getD i default).rhs)) hbig bos) ?_;refine w_7 ?_;refine ⟨.inr rfl, ?_⟩;have he:mvE n l a b (m.getD i default) = v8 n l (dz (l.getD a default) (l.getD b default) ((m.getD i default).lhs ||| (m.getD i default).rhs)):=if_pos bp5;exact f9 rfl rfl (by rw [he];exact CoL.refl _)
end
section
def fl (P:Nat -> Nat -> Nat -> Bool) (I L:Nat):Option (Nat × Nat × Nat) :=
 (List.range I).findSome? fun i=>(List.range L).findSome? fun a=>((List.range L).find? fun b=>P i a b).map fun b=>(i,a,b)
theorem aeo {α:Type} {f:Nat -> Option α}:∀ {n k:Nat} {x:α},k < n -> f k = some x -> (∀ j,j < k -> f j = none) -> (List.range n).findSome? f = some x
 | n + 1,k,x,hk,h,hb=>by
  rw [bmg,bor];by_cases e:k < n
  · rw [aeo e h hb];rfl
  obtain rfl:k = n:=by omega
  have:(List.range k).findSome? f = none:=by
   rw [bmx];intro j hj;exact hb j (bl0.1 hj)
  rw [this];simp [h]
theorem ae0 {α:Type} {f:Nat -> Option α} {n:Nat} (h:∀ j,j < n -> f j = none):(List.range n).findSome? f = none:=by
 rw [bmx];intro j hj;exact h j (bl0.1 hj)
theorem a6z {p:Nat -> Bool} {n:Nat} (h:∀ j,j < n -> p j = false):(List.range n).find? p = none:=by
 rw [bnx];intro j hj;rw [h j (bl0.1 hj)];decide
theorem b5t {p:Nat -> Bool} {n k:Nat} (hk:k < n) (h:p k = true) (hb:∀ j,j < k -> p j = false):(List.range n).find? p = some k:=by
 induction n with
 | zero=>omega
 | succ n ih =>
  rw [bmg,List.find?_append];by_cases e:k < n
  · rw [ih e];rfl
  obtain rfl:k = n:=by omega
  rw [a6z hb];simp [h]
section
variable {P:Nat -> Nat -> Nat -> Bool}
theorem a1a {I L i a b:Nat} (hi:i < I) (ha:a < L) (hb:b < L) (h:P i a b = true) (h1:∀ i',i' < i -> ∀ a',a' < L -> ∀ b',b' < L -> P i' a' b' = false) (h2:∀ a',a' < a -> ∀ b',b' < L -> P i a' b' = false) (h3:∀ b',b' < b -> P i a b' = false):
 fl P I L = some (i,a,b):=by
 refine aeo hi ?_ fun j hj=>ae0 fun a' ha'=>by rw [a6z fun b' hb'=>h1 j hj a' ha' b' hb'];rfl
 refine aeo ha ?_ fun a' ha'=>by rw [a6z fun b' hb'=>h2 a' ha' b' hb'];rfl
 rw [b5t hb h h3];rfl
theorem a19 {I L:Nat} (h:∀ i',i' < I -> ∀ a',a' < L -> ∀ b',b' < L -> P i' a' b' = false):fl P I L = none :=
 ae0 fun i hi=>ae0 fun a ha=>by rw [a6z fun b hb=>h i hi a ha b hb];rfl
def ey (l:List Rw) (x:Fd) (a b:Nat):Bool:=kj (l.getD a default) (l.getD b default) x.lhs && !kj (l.getD a default) (l.getD b default) x.rhs
def f8 (l:List Rw) (x:Fd) (a b:Nat):Bool:=kj (l.getD a default) (l.getD b default) x.lhs && !(l.any fun r=>decide (r = dz (l.getD a default) (l.getD b default) (x.lhs ||| x.rhs)))
end
section
variable {l:List Rw} {x:Fd} {a b:Nat}
theorem b7y (h:kj (l.getD a default) (l.getD b default) x.lhs = true) (h2:kj (l.getD a default) (l.getD b default) x.rhs = false):ey l x a b = true:=by unfold ey;rw [h,h2];rfl
theorem a4e (h:kj (l.getD a default) (l.getD b default) x.lhs = false):ey l x a b = false:=by unfold ey;rw [h];rfl
theorem aad (h:kj (l.getD a default) (l.getD b default) x.rhs = true):ey l x a b = false:=by unfold ey;rw [h];simp
theorem b7p (h:kj (l.getD a default) (l.getD b default) x.lhs = true) (h2:(l.any fun r=>decide (r = dz (l.getD a default) (l.getD b default) (x.lhs ||| x.rhs))) = false):f8 l x a b = true:=by unfold f8;rw [h,h2];rfl
theorem aj7 (h:kj (l.getD a default) (l.getD b default) x.lhs = false):f8 l x a b = false:=by unfold f8;rw [h];rfl
theorem aab (h:(l.any fun r=>decide (r = dz (l.getD a default) (l.getD b default) (x.lhs ||| x.rhs))) = true):f8 l x a b = false:=by unfold f8;rw [h];simp
end
abbrev St:=Bool × Nat × Nat × Nat
abbrev St.pc (s:St):PC:=.agg [.raw (.bool s.1), .raw (.int .i64 (s.2.1:Int)), .raw (.int .i64 (s.2.2.1:Int)), .raw (.int .i64 (s.2.2.2:Int))]
def eu (l:List Rw) (p m:List Fd):Option St :=
 match fl (fun i a b=>ey l (p.getD i default) a b) p.length l.length with
 | some x=>some (false,x)
 | none=>(fl (fun i a b=>f8 l (m.getD i default) a b) m.length l.length).map fun x=>(true,x)
theorem b8u {l:List Rw} {p m:List Fd} {x:Nat × Nat × Nat} (h:fl (fun i a b=>ey l (p.getD i default) a b) p.length l.length = some x):eu l p m = some (false,x):=by unfold eu;rw [h]
theorem b6l {l:List Rw} {p m:List Fd} {x:Nat × Nat × Nat} (h0:fl (fun i a b=>ey l (p.getD i default) a b) p.length l.length = none) (h:fl (fun i a b=>f8 l (m.getD i default) a b) m.length l.length = some x):eu l p m = some (true,x):=by unfold eu;rw [h0,h];rfl
theorem b83 {l:List Rw} {p m:List Fd} (h0:fl (fun i a b=>ey l (p.getD i default) a b) p.length l.length = none) (h:fl (fun i a b=>f8 l (m.getD i default) a b) m.length l.length = none):eu l p m = none:=by unfold eu;rw [h0,h];rfl
end
end Go.Hx

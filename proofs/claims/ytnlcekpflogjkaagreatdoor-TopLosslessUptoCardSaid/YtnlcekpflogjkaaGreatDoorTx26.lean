/- A part of the proof: SrZ Ch5 X6 X7 Ch6 X9 X10 Ch7 X11 Ch8 X12. -/
import Derived.Shelf.SlSortCmp.NoneTotal
import Derived.Test.YtnlcekpflogjkaaGreatDoorTx24
import Derived.Test.YtnlcekpflogjkaaGreatDoorTx25
set_option linter.all false
set_option maxRecDepth 100000
set_option maxHeartbeats 1000000
namespace Go.Hx
section
open Go.Proofs Go.RowKit Go.Sort
section
variable {w:World}
def ar3 {w':World} (h:Below w.heap.size w w'):∃ q os,w' = grow (w.drewN q) os:=by
 refine ⟨w'.drawn - w.drawn,w'.heap.extract w.heap.size w'.heap.size, ?_⟩;have hd:=h.drawn;obtain ⟨h1,h2,h3,h4,h5,_⟩:=h
 cases w with
 | mk hp tp dr os out =>
 cases w' with
 | mk hp' tp' dr' os' out' =>
 dsimp only at *;subst h1 h2 h3;unfold grow World.drewN;simp only [World.mk.injEq,true_and,and_true];refine ⟨?_,by omega⟩;apply Array.ext_getElem?;intro k;rw [Array.getElem?_append];by_cases hk:k < hp.size
 · rw [if_pos hk,h5 k hk]
 rw [if_neg hk,Array.getElem?_extract];by_cases hk2:k < hp'.size
 · rw [if_pos bv9]
   congr 1;omega
 rw [if_neg bv9,btw bv9]
variable {os:Array Obj} {α:Type} {d:Array α} {enc:α -> Value}
def aqy [Inhabited α] {g m:Nat} {cur:Array Value} {e:TypeId} {fr:Nat × Nat} (h:w.heap[g]? = some (.cells cur e fr)):
 (sortWorld enc w g 0 m d os).heap[g]? = some (.cells (putCells enc 0 d cur) e fr):=by
 have hlt:=(brj.1 h).1;unfold sortWorld;rw [heap_grow_old _ _ (by simpa using hlt)];unfold putRow mapBlock;simp only [heap_ahead,bu1,if_true,h];rfl
def a2h [Inhabited α] {g m:Nat} {b:Nat} (hb:b < w.heap.size) (hne:b ≠ g):(sortWorld enc w g 0 m d os).heap[b]? = w.heap[b]?:=by
 unfold sortWorld;rw [heap_grow_old _ _ (by simpa using hb)];unfold putRow mapBlock;simp only [heap_ahead,bu1,if_neg (Ne.symm hne)]
def arl [Inhabited α] {g m:Nat}:Below 0 w (sortWorld enc w g 0 m d os) :=
 ⟨rfl,rfl,rfl,by unfold sortWorld;simp,fun k hk=>absurd hk (brg k),by unfold sortWorld grow;simp⟩
def b1c [Inhabited α] {cur:Array Value} (h:d.size <= cur.size):(putCells enc 0 d cur).toList.take d.size = d.toList.map enc:=by
 apply bu8;intro k;rw [bsa,brx,bt2,bt2];by_cases hk:k < d.size
 · rw [if_pos hk]
   unfold putCells;rw [Array.getElem?_mapIdx,bsw bv9,bsw hk];simp only [bs7,bs5,Nat.sub_zero];rw [if_pos ⟨bre _,hk⟩,getElem!_pos d k hk]
 rw [if_neg hk,btw bv9];rfl
def av0 {P:Program} {ρ:Go.Shelf.Ren} {β:Type} [Inhabited β] (L:SlLaysF.n6 P ρ) (pc:β -> PV) (h1:∀ imm x v,ak imm (pc x) v -> v.oneCell' = true) (cf:β -> β -> Int) (hO:SWO (ltOf cf)) (hT:∀ x y,(ltOf cf) x y = false -> (ltOf cf) y x = false -> x = y)
 (g:Nat) (caps:Nat -> PV) (hg:∀ args w,(callFunc g args).run P w = .ok (.enter g args) w) (hc:∀ x y,a6 P g [.one (pc x), .one (pc y)] (af [.one (.raw (.int .i64 (cf x y)))])) (id:Nat) (e:TypeId) (l:List β) (hsz:l.length <= 8589934592) :
 cz P (ρ.f 6) [.one (.ref id l.length), .one (.p (.fn g 0 caps))] [(id, .arr true 1 e l.length (lf (fun x _=>pc x) l))] (.tup [])
  [(id, .arr true 1 e l.length (lf (fun x _=>pc x) (l.mergeSort fun x y=>!(ltOf cf) y x)))] [id]:=by
 intro w c us hM hus
 match us,hus with
 | [u,v],⟨hu,hv,_⟩ =>
  obtain ⟨cs,rfl,hcl,_⟩:=hv;have hcs:cs = []:=bss hcl;subst hcs;have hl1:lk [(id,a7.arr true 1 e l.length (lf (fun x _=>pc x) l))] id = some (.arr true 1 e l.length (lf (fun x _=>pc x) l)):=by simp [lk]
  have hu2:=(hu.2.2 _ _ _ _ hl1 rfl).2 rfl;subst hu2;have hob:=hM.objs id _ hl1;obtain ⟨h0,hmax,h5⟩:=hob;have hlen:(l.mergeSort fun x y=>!(ltOf cf) y x).length = l.length:=buc _
  have hev:∀ f':Nat -> Nat -> PV,Evo c (lk [(id,a7.arr true 1 e l.length (lf (fun x _=>pc x) l))]) c (lk [(id,a7.arr true 1 e l.length f')]) id:=fun f' =>
   .inr (.inr ⟨_, .arr true 1 e l.length f',1,e,l.length,l.length,hl1,rfl,by simp [lk],rfl,brd _,fun _=>rfl,fun _ _ _ _ _ _ _ h=>by cases h⟩)
  rcases bsx l.length with hz | hpos
  ·
   have hl:l = []:=bss hz;subst hl
   have hform:∃ ad cap,c.own id = .slice ad 0 cap:=by
    rcases h5 with ⟨_,xs,h2,_⟩ | ⟨_,_,ad,cap,hv,_⟩
    · rcases h2.2 with ⟨hv,_⟩ | ⟨g,cap,cur,hv,_⟩
      · exact ⟨none,0,hv⟩
      exact ⟨_,cap,hv⟩
    exact ⟨ad,cap,hv⟩
   obtain ⟨ad,cap,hown⟩:=hform;have hms:([]:List β).mergeSort (fun x y=>!(ltOf cf) y x) = []:=by simp
   rw [hown,hms];refine (AnyF.slices_SortFunc_none { L with } ad cap (.func (.func g) #[] #[]) w).mono ?_;rintro e' w' ⟨rfl,rfl⟩
   exact ⟨_,c,rfl,⟨[],rfl,trivial⟩,hM,Below.refl _ _,fun _ _ _=>⟨rfl,rfl⟩,fun id0 ob b ho hb=>.inr ⟨id0,ob,ho,hb⟩,fun id0 hid=>by
    rw [bru.1 hid]
    exact Evo.refl _ _ _⟩
  obtain ⟨h6,xs,h2,h4⟩:c.blk id = en (c.own id) /\ ∃ xs,w.ownsRow 0 e 1 (c.own id) l.length xs /\ ∀ i j,i < l.length -> j < 1 -> ∃ x,xs[i * 1 + j]? = some x /\ ak c.imm (lf (fun x _=>pc x) l i j) x:=by
   rcases h5 with h5 | ⟨h6 | h6,_⟩
   · exact h5
   · cases h6
   omega
  obtain ⟨hxl,hrow⟩:=h2
  rcases hrow with ⟨_,hz⟩ | ⟨b,cap,cur,hown,hbase,hheap,hnc,hcm,hcs,htake⟩
  · omega
  have hblk:c.blk id b:=by rw [h6,hown];rfl
  have hlt:b < w.heap.size:=(brj.1 hheap).1
  have hval:∀ i,i < l.length -> ∃ x,cur[i]? = some x /\ ak c.imm (pc (l.getD i default)) x:=fun i hi=>by
   obtain ⟨x,hx,hr⟩:=h4 i 0 hi bv9;rw [bu6,bt6,<- htake,bsa,if_pos bv9,bt2] at hx;exact ⟨x,hx,hr⟩
  let A:={ p:β × Value // ak c.imm (pc p.1) p.2 }
  let enc:A -> Value:=fun p=>p.1.2
  let fst:A -> β:=fun p=>p.1.1
  let cf':A -> A -> Int:=fun p q=>cf (fst p) (fst q)
  have hO':SWO (ltOf cf'):=⟨fun x=>hO.irrefl _,fun x y z=>hO.trans _ _ _,fun x y z=>hO.ntrans _ _ _⟩
  obtain ⟨d,hds,hdv⟩:∃ d:Array A,d.size = l.length /\ ∀ i,(hi:i < d.size) -> cur[i]? = some (enc d[i]) /\ fst d[i] = l.getD i default:=by
   refine ⟨Array.ofFn (n:=l.length) fun i=>⟨(l.getD i default,(hval i i.2).choose),(hval i i.2).choose_spec.2⟩,by simp,fun i hi=>?_⟩;rw [Array.getElem_ofFn];exact ⟨(hval i (by simpa using hi)).choose_spec.1,rfl⟩
  have hd0:0 < d.size:=by omega
  haveI:Inhabited A:=⟨d[0]⟩;have hen:∀ x:A,(enc x).oneCell' = true:=fun x=>h1 _ _ _ x.2
  have hH:Holds enc w b 0 d:=fun j hj=>by
   rw [bs5];refine ⟨?_,by simp [World.frozen?,hheap]⟩;rw [getElem!_pos d j hj];simp [World.cell?,hheap,(hdv j hj).1]
  have hcmp:CmpLays1 P g #[] enc cf' b 0 d.size w:=by
   intro m os dk hdk x y
   have hcimm:∀ b' ob,c.imm b' = some ob -> (sortWorld enc w b 0 m dk os).heap[b']? = some ob:=fun b' ob hb'=>by
    have hne:b' ≠ b:=fun he=>by
     have:=hM.sep id _ b hl1 hblk;rw [<- he,hb'] at this;cases this
    have hw:=hM.imm b' ob hb';rw [a2h (brj.1 hw).1 hne];exact hw
   have h:=hc (fst x) (fst y) (sortWorld enc w b 0 m dk os) c.imm [enc x,enc y] c.tab hcimm ⟨x.2,y.2,trivial⟩;refine h.mono ?_;rintro e' w' ⟨v,imm',rfl,hr,_,_,hb⟩;obtain ⟨q,os',hq⟩:=ar3 hb;exact ⟨by rw [hr.1],q,os',hq⟩
  have hS:=Any.slices_SortFunc L enc hen cf' hO' g #[] b 0 cap d w hg hcmp hH hlt bv9;rw [hds] at hS;rw [hown];refine Calls.mono hS ?_;rintro e' w' ⟨rfl,d',m,os,hperm,hsorted,rfl⟩;have hsz':d'.size = l.length:=by rw [hperm.1,hds]
  obtain ⟨S,hSl,hSp⟩:∃ S:List A,S = d'.toList /\ S.map fst = l.mergeSort fun x y=>!(ltOf cf) y x:=by
   refine ⟨_,rfl, ?_⟩
   have hp:(d'.toList.map fst).Perm l:=by
    obtain ⟨_,_,hp⟩:=hperm;have e1:d'.extract 0 l.length = d':=by rw [<- hsz'];exact Array.extract_size
    have e2:d.extract 0 l.length = d:=by rw [<- hds];exact Array.extract_size
    rw [e1,e2] at hp;refine (hp.map fst).trans ?_
    have:d.toList.map fst = l:=by
     refine o5 (by simp [hds]) fun j hj=>?_;have hj:j < d.size:=by simpa using hj
     rw [<- (hdv j hj).2,brc,brx,bt2,bsw hj];rfl
    rw [this]
   refine List.Perm.eq_of_pairwise (le:=fun x y=>(!(ltOf cf) y x) = true) ?_ ?_ ?_ (hp.trans (List.mergeSort_perm _ _).symm)
   · intro a b _ _ h1 h2
     simp only [bsd] at h1 h2;exact hT a b h2 h1
   · rw [List.pairwise_map,bte]
     intro i j hi hj hij;have hi':i < d'.size:=by simpa using hi
     have hj':j < d'.size:=by simpa using hj
     have:=hsorted i j (bre _) hij bv9;rw [getElem!_pos d' j hj',getElem!_pos d' i hi'] at this;simp only [Array.getElem_toList,bsd];exact this
   refine bv0 ?_ ?_ _
   · intro a b c h1 h2
     simp only [bsd] at h1 h2 ⊢;exact hO.ntrans c b a h2 h1
   intro a b
   cases h:(ltOf cf) b a with
   | false=>simp
   | true=>simp [hO.asymmA h]
  obtain rfl:d' = S.toArray:=by rw [hSl]
  rw [<- hSp] at hlen ⊢;rw [bsc] at hlen
  refine ⟨_,c,rfl,⟨[],rfl,trivial⟩,⟨fun id0 ob ho=>?_,fun id0 id1 ob0 ob1 b' ho0 ho1 _ _=>(fw ho0).1.trans (fw ho1).1.symm,fun b' ob hb'=>?_,fun id0 ob b' ho hb'=>?_⟩,arl,
   fun b' hb' hno=>⟨a2h hb' (fun he=>hno id _ hl1 (by rw [he];exact hblk)),rfl⟩,fun id0 ob b' ho hb'=>.inr ⟨id,_,hl1,by rw [<- (fw ho).1];exact hb'⟩,fun id0 hid=>by
    rw [bru.1 hid]
    exact hev _⟩
  · obtain ⟨rfl,rfl⟩:=fw ho
    refine ⟨h0,hmax, .inl ⟨h6,S.map enc,⟨by simp [hlen], .inr ⟨b,cap,putCells enc 0 S.toArray cur,hown,hbase,aqy hheap,hnc,hcm,by simpa [putCells] using hcs, ?_⟩⟩,fun i j hi hj=>?_⟩⟩
    · have:=b1c (enc:=enc) (d:=S.toArray) (cur:=cur) (by rw [bsg,hlen,hcs];omega)
      rw [bsg,hlen] at this;rw [bu6];exact this
    obtain rfl:j = 0:=by omega
    have hi':i < S.length:=by rw [hlen];exact hi
    refine ⟨enc S[i], ?_, ?_⟩
    · rw [bu6,bt6,brx,brb hi']
      rfl
    show ak c.imm (pc ((S.map fst).getD i default)) _;rw [brc,brx,brb hi'];exact S[i].2
  · have hne:b' ≠ b:=fun he=>by
     have:=hM.sep id _ b hl1 hblk;rw [<- he,hb'] at this;cases this
    have hw:=hM.imm b' ob hb';rw [a2h (brj.1 hw).1 hne];exact hw
  have:=(fw ho).1;subst this;exact hM.sep id0 _ b' hl1 hb'
 | [],h=>exact h.elim
 | [_],⟨_,h⟩=>exact h.elim
 | _ :: _ :: _ :: _,⟨_,_,h⟩=>exact h.elim
end
end
section
open Go.Proofs Go.RowKit Go.Sort
structure CpZ (l:List Rw) (k p q:Nat) (m:List Rw):Prop where
 len:m.length = l.length
 kq:k < q
 pq:p < q
 ql:q <= l.length
 pre:m.take p = gk (l.take q)
 high:∀ j,q - 1 <= j -> m.getD j default = l.getD j default
section
variable {k:Nat} {l:List Rw}
theorem CpZ.start (h1:1 <= k) (hk:k < l.length) (h:∀ j,0 < j -> j < k -> ¬ l.getD j default = l.getD (j - 1) default) (hd:l.getD k default = l.getD (k - 1) default):CpZ l k k (k + 1) l :=
 ⟨rfl,by omega,by omega,by omega,by rw [l6 bv9 hk,if_pos hd.symm,bse,qd bv9 h],fun _ _=>rfl⟩
theorem CpZ.skip {p q:Nat} {m:List Rw} (h:CpZ l k p q m) (hq:q < l.length) (he:m.getD q default = m.getD (q - 1) default):CpZ l k p (q + 1) m:=by
 have hk:=h.kq;refine ⟨h.len,by omega,by have:=h.pq;omega,hq, ?_,fun j hj=>h.high j bv9⟩;rw [h.high q bv9,h.high (q - 1) bv9] at he;rw [l6 bv9 hq,if_pos he.symm,bse,h.pre]
theorem CpZ.keep {p q:Nat} {m:List Rw} (h:CpZ l k p q m) (hq:q < l.length) (he:¬ m.getD q default = m.getD (q - 1) default):CpZ l k (p + 1) (q + 1) (m.set p (m.getD q default)):=by
 have hk:=h.kq;have hp:=h.pq;have hl:=h.len;refine ⟨by simp [hl],by omega,by omega,hq, ?_,fun j hj=>by rw [getD_set_ne' bv9];exact h.high j bv9⟩;have e:=h.high q bv9;rw [e,h.high (q - 1) bv9] at he;rw [l6 bv9 hq,if_neg (fun e=>he e.symm),<- h.pre,al (by simp [hl];omega),nb bv9,e];congr 1;rw [List.take_set,bto bvn]
def aph (hk:l.length <= k) (h:∀ j,0 < j -> j < k -> ¬ l.getD j default = l.getD (j - 1) default):CoP (.sl l.length 1 false (lf rC l)) (rl (gk l)):=by
 have:=qd (brd l.length) fun j h1 h2=>h j h1 bv9;rw [bro] at this;rw [this];exact CoP.refl _
variable {a:Nat}
def b37 {m:List Rw} {p q n d:Nat} {cl:Bool} {z:List Value} (hC:CpZ l k p q m) (hq:¬ q < l.length) (ha:p <= a):CoP (.sl (dn (b5 n (some (p:Int))) none) 1 cl (nf (nq (lf rC m) a d z) none)) (rl (gk l)):=by
 have e:=hC.pre;have h1:=hC.ql;have h2:=hC.len;have h3:=hC.pq;rw [show q = l.length by omega,bro] at e;have el:(gk l).length = p:=by rw [<- e];simp;omega
 exact a98 (by rw [el];rfl) rfl bv9 (by rw [el,e])
def a4m:∀ {l:List Rw} {p:Option Rw},l.Pairwise (fun a b=>ltZ b a = false) -> (∀ x,p = some x -> ∀ y ∈ l,ltZ y x = false) -> (jw p l).Pairwise (fun a b=>ltZ a b = true) /\ ∀ x,p = some x -> ∀ y ∈ jw p l,ltZ x y = true
 | [],p,_,_=>⟨by simp [jw],fun x _ y hy=>by simp [jw] at hy⟩
 | z :: l,p,h,hp=>by
  obtain ⟨h1,h2⟩:=bsb.1 h;simp only [jw];split
  · rename_i e
    subst e;exact a4m h2 fun x hx y hy=>hp x hx y (bs1 _ hy)
  rename_i hne
  obtain ⟨q1,q2⟩:=a4m (p:=some z) h2 fun x hx y hy=>by
   simp only [bra] at hx;subst hx;exact h1 y hy
  refine ⟨bsb.2 ⟨fun y hy=>q2 z rfl y hy,q1⟩,fun x hx y hy=>?_⟩
  have hxz:ltZ x z = true:=by
   have h3:=hp x hx z bsj
   rcases a3u (a:=x) (b:=z) (fun e=>hne (by rw [hx,e])) with h4 | h4
   · exact h4
   rw [h3] at h4;cases h4
  rcases brm.1 hy with rfl | hy
  · exact hxz
  exact o9 hxz (q2 z rfl y hy)
variable {a' b':Nat}
def a9o {b:Nat} (h:l.getD a' default = l.getD b' default) (ha:a' = a) (hb:b' = b):l.getD a default = l.getD b default:=by subst ha hb;exact h
def a8h {b:Nat} (h:¬ l.getD a' default = l.getD b' default) (ha:a' = a) (hb:b' = b):¬ l.getD a default = l.getD b default:=by subst ha hb;exact h
def ag6 {b:Nat} (h:decide (l.getD a' default = l.getD b' default) = true) (ha:a' = a) (hb:b' = b):l.getD a default = l.getD b default:=a9o (of_decide_eq_true h) ha hb
def ag9 {b:Nat} (h:decide (l.getD a' default = l.getD b' default) = false) (ha:a' = a) (hb:b' = b):¬ l.getD a default = l.getD b default:=a8h (of_decide_eq_false h) ha hb
def xo {a b:Rw}:ltOf sk a b = ltZ a b:=by
 rw [buj];show decide (sk a b < 0) = true <-> _;rw [decide_eq_true_iff];exact a4p
def b0v {x y z:Rw} (h:ltZ x y = false) (k:ltZ y z = false):ltZ x z = false:=by
 rw [brt];intro e;by_cases hyz:y = z
 · subst hyz;rw [h] at e;cases e
 rcases a3u hyz with h2 | h2
 · rw [k] at h2;cases h2
 rw [o9 e h2] at h;cases h
def b6b:SWO (ltOf sk) where
 irrefl x:=by rw [xo];exact wg x
 trans x y z h k:=by rw [xo] at *;exact o9 h k
 ntrans x y z h k:=by rw [xo] at *;exact b0v h k
def srZ (l:List Rw):List Rw:=l.mergeSort fun x y=>!ltZ y x
def ba7 {x:Rw}:x ∈ srZ l <-> x ∈ l:=by unfold srZ;exact List.mem_mergeSort
def auf (l:List Rw):(srZ l).length = l.length:=buc _
def b33 (l:List Rw):gk (srZ l) = bf l:=by
 refine apw (a4m ?_ fun x hx=>by cases hx).1 fun z=>by rw [ab1,ba7]
 have h:=bv0 (le:=fun x y:Rw=>!ltZ y x) (fun a b c h k=>by
  simp only [bsd] at *
  exact b0v k h) (fun a b=>by
  simp only [bsl,bsd];by_cases e:ltZ b a = true
  · right
    rw [brt];intro e2;have:=o9 e e2;rw [wg] at this;cases this
  left
  exact brt.2 e) l
 refine h.imp fun {a b} hab=>?_;simpa using hab
def beg {r:Rw} (h:(l.any fun x=>decide (x = r)) = false):r ∉ l:=fun e=>by
 rw [bt1] at h;exact h r e (decide_eq_true rfl)
def bb4:Go.Hx.goodFn bw0 197:=⟨Tryz.f197,Tryz.func197,by kernel_rfl,by kernel_rfl⟩
def ber (id:Nat) (caps:Nat -> PV) (l:List Rw) (hsz:l.length <= 8589934592):cz bw0 197 [.one (.ref id l.length), .one (.p (.fn 198 0 caps))] [(id, .arr true 1 124 l.length (lf rC l))] (.tup [])
 [(id, .arr true 1 124 l.length (lf rC (srZ l)))] [id]:=by
 have h:=av0 Tryz.laysSortZ (fun r:Rw=>zl r) (fun imm x v hr=>by obtain ⟨ad,cap,h1,_⟩:=hr;rw [h1];rfl) sk b6b (fun x y h k=>by
  rw [xo] at h k;apply Classical.byContradiction;intro hne
  rcases a3u hne with h2 | h2
  · rw [h] at h2;cases h2
  rw [k] at h2;cases h2) 198 caps (enters_of Tryz.func198 (by kernel_rfl) rfl) (fun x y=>b7x x y) id 124 l hsz
 have e:(fun x y:Rw=>!(ltOf sk) y x) = fun x y=>!ltZ y x:=by
  funext x y;rw [xo]
 rw [e] at h;exact h
end
end
section
open Go.Proofs
def bgw (l:List Rw):cz bw0 199 [.one (.ref 900 l.length), .one (.p (.fn 145 0 fun _=>.any))] [(900, .arr true 1 124 l.length (lf rC l))] (.v (.one (.p (rl (gk l))))) [] []:=by
 refine hfx (nt:=66) Tryz.func199 ?_;refine cq ?_;refine a8p 900 rfl fun hlen=>?_;refine dc ?_;refine hcd (fun h0=>?_) (fun h0=>?_)
 · refine w_5 ?_;refine bn 4 rfl rfl rfl ?_;refine hrr ?_;exact ⟨_,_,rfl,bvb,aph (k:=l.length) (brd _) (fun j h1 h2=>by omega),trivial⟩
 refine w_7 ?_;refine ah (ι:=Nat) (ka 0 (ka 1 kn)) (kb 900 km) (fun k=>⟨[(5,some (vI k))],[]⟩) (fun k=>1 <= k /\ k <= l.length /\ ∀ j,0 < j -> j < k -> ¬ l.getD j default = l.getD (j - 1) default) (fun k=>l.length - k) (1) (⟨brd _,by omega,fun j h1 h2=>by omega⟩) kk ?_;rintro k ⟨hk1,hk,hI⟩;refine w_8 ?_;refine hcd (fun h1=>?_) (fun h1=>?_)
 ·
  refine k8 ?_;refine qcx afz (b3r _ _) ?_;refine w_2 ?_;refine hcb (fun h2=>?_) (fun h2=>?_)
  ·
   refine kf ?_;refine ah (ι:=Nat × Nat × List Rw) (ka 0 (ka 1 (ka 6 kn))) km (fun x=>⟨[(5,some (vI x.1)),(7,some (vI ((x.2.1:Int) - k)))],[(900,some (.arr true 1 124 l.length (lf rC x.2.2)))]⟩) (fun x=>CpZ l k x.1 x.2.1 x.2.2) (fun x=>l.length - x.2.1) ((k,k + 1,l)) (CpZ.start hk1 bv9 hI (by first | exact a9o bva rfl bv9 | exact ag6 bva rfl bv9)) ⟨⟨zy,⟨_,rfl,(coi bvc)⟩,trivial⟩,uu⟩ ?_;rintro ⟨p,q,m⟩ hC;have hC0:=hC;obtain ⟨hml,hkq,hpq,hql,_,_⟩:=hC0;dsimp only at hC hml hkq hpq hql;refine w_8 ?_;refine hcd (fun h3=>?_) (fun h3=>?_)
   ·
    simp only [dn,b5,brn] at h3;refine k8 ?_;refine qcx afz (b3r _ _) ?_;refine w_3 ?_;refine hcv (fun h4=>?_) (fun h4=>?_)
    ·
     refine a4l ?_
     first | (refine lpz (p + 1, q + 1, m.set p (m.getD q default)) ⟨⟨⟨_, rfl, (coi bve)⟩, ⟨_, rfl, (coi bve)⟩, tt⟩, ⟨⟨_, rfl, (p9 id hml.symm bv9 bvq bvh)⟩, trivial⟩⟩ ?_; exact hC.keep bv9 (by first | exact a8h bva bvh bvh | exact ag9 bva bvh bvh))
           | (refine lpz (p,q + 1,m) ⟨⟨⟨_,rfl,(coi bvc)⟩,⟨_,rfl,(coi bvc)⟩,tt⟩,uu⟩ ?_;exact hC.skip bv9 (by first | exact a9o bva bvj bvj | exact ag6 bva bvj bvj))
    refine w_6 ?_
    first | (refine lpz (p + 1, q + 1, m.set p (m.getD q default)) ⟨⟨⟨_, rfl, (coi bve)⟩, ⟨_, rfl, (coi bve)⟩, tt⟩, ⟨⟨_, rfl, (p9 id hml.symm bv9 bvq bvh)⟩, trivial⟩⟩ ?_; exact hC.keep bv9 (by first | exact a8h bva bvh bvh | exact ag9 bva bvh bvh))
          | (refine lpz (p,q + 1,m) ⟨⟨⟨_,rfl,(coi bvc)⟩,⟨_,rfl,(coi bvc)⟩,tt⟩,uu⟩ ?_;exact hC.skip bv9 (by first | exact a9o bva bvj bvj | exact ag6 bva bvj bvj))
   simp only [dn,b5,brn] at h3;refine w_6 ?_;refine r9 0 true ?_;refine w_5 ?_;refine afl rfl rfl rfl rfl rfl ?_;refine w_2 ?_;refine hrr ?_;exact ⟨_,_,rfl,bvb,b37 hC bv9 (by simp [b5]),trivial⟩
  refine w_6 ?_;refine lpz (k + 1) kk ?_;refine ⟨by omega,by show k + 1 <= _;omega,fun j h1 h2=>?_⟩
  rcases btr (buo h2) with h | h
  · exact hI j h1 h
  subst h
  first | exact a8h bva rfl bv9 | exact ag9 bva rfl bv9
 refine w_6 ?_;refine bn 4 rfl rfl rfl ?_;refine hrr ?_;exact ⟨_,_,rfl,bvb,aph (k:=k) bv9 hI,trivial⟩
end
section
open Go.Proofs
def ahu:goodFn bw0 148:=wgx Tryz.func148
def agl (n:Int) (l:List Rw) (hl:l.length <= 8589934592):cz bw0 148 [.agg [.p (.raw (.int .i64 n)), .ref 900 l.length]] [(900, .arr true 1 124 l.length (lf rC l))] (.v (.agg [.p (.raw (.int .i64 n)), .p (rl (bf l))])) [] []:=by
 refine hfx (nt:=11) Tryz.func148 ?_;refine sx7 ?_;refine m9 0 ?_;refine m9 1 ?_;refine w_5 ?_;refine fc9 bb4 (ber 900 _ l hl) uu ?_;refine w_5 ?_;refine jc rfl rfl rfl rfl rfl rfl (wgx Tryz.func199) (bgw (srZ l)) (⟨congrArg (HV.ref 900) (auf l).symm,CoP.refl _,trivial⟩) ⟨⟨_,rfl,jy rfl (auf l).symm⟩,trivial⟩ rfl rfl ?_;refine w_8 ?_;refine hrr ?_;exact ⟨_,_,rfl,bvb,CoR.of_eq (by rw [<- b33];rfl),trivial⟩
end
section
abbrev nM (l:List Rw):Nat -> Nat:=fun i=>(l.getD i default).length
abbrev gq (l:List Rw):Nat -> Nat -> Int:=fun i r=>(l.getD i default).getD r default
abbrev mg (M:Nat -> Nat -> Int):Nat -> Nat -> Nat -> PV:=fun i r _=>.raw (.int .i64 (M i r))
section
variable {e et:TypeId} {i k:Nat}
def b1s {l:List Rw} {f:Nat -> Nat -> PV} (hk:k = (l.getD i default).length) (hf:f = lf zC (l.getD i default)):
 CoO (.nest e et 1 (i + 1) (fj (nM l) i k) (fu (mg (gq l)) i f) none) (.nest e et 1 (i + 1) (nM l) (mg (gq l)) none):=by
 subst hk hf
 have hm:∀ j,fj (nM l) i (l.getD i default).length j = nM l j:=fun j=>by
  by_cases h:j = i
  · subst h;rw [rp]
  rw [qn h]
 refine ⟨rfl,rfl,rfl,rfl,rfl,fun j _=>(hm j).symm,fun j r c hj hr hc=>CoP.of_eq ?_⟩;by_cases h:j = i
 · subst h
   rw [ag7];rfl
 rw [ab3 h]
abbrev hiI (x y:Int):Int:=if x < y then y else x
abbrev loI (x y:Int):Int:=if y < x then y else x
def oo (M:Nat -> Nat -> Int) (hi lo:Int) (i k:Nat):Nat -> Nat -> Int:=fun i' r=>if (i' < i \/ (i' = i /\ r < k)) /\ M i' r = hi then lo else M i' r
def eqM (M:Nat -> Nat -> Int) (a b j:Nat):Nat -> Nat -> Int:=fun i r=>if M i r = hiI (M a j) (M b j) then loI (M a j) (M b j) else M i r
def eqMs (M:Nat -> Nat -> Int) (a b:Nat) (js:List Nat):Nat -> Nat -> Int:=js.foldl (fun M j=>eqM M a b j) M
def fc (l:List Rw) (M:Nat -> Nat -> Int):List Rw:=(List.range l.length).map fun i=>(List.range (l.getD i default).length).map (M i)
def rz (l:List Rw) (M:Nat -> Nat -> Int):(fc l M).length = l.length:=by unfold fc;simp
variable {M:Nat -> Nat -> Int}
def aj8 {l:List Rw} (h:i < l.length):(fc l M).getD i default = (List.range (l.getD i default).length).map (M i):=by
 unfold fc;rw [brc,brx,bsq h];rfl
variable {hi lo:Int}
def b1z:oo M hi lo 0 0 = M:=by
 funext i r;unfold oo;rw [if_neg bv9]
def ayq (h:oo M hi lo i k i k = hi):oo M hi lo i (k + 1) = fun i' r=>if i' = i /\ r = k then lo else oo M hi lo i k i' r:=by
 have h0:M i k = hi:=by
  unfold oo at h;rwa [if_neg bv9] at h
 funext i' r;unfold oo;by_cases e:i' = i /\ r = k
 · rw [if_pos e,if_pos ⟨.inr ⟨e.1,by omega⟩,by rw [e.1,e.2];exact h0⟩]
 rw [if_neg e];by_cases e2:(i' < i \/ (i' = i /\ r < k)) /\ M i' r = hi
 · rw [if_pos e2,if_pos ⟨e2.1.imp_right fun x=>⟨x.1,by omega⟩,e2.2⟩]
 rw [if_neg e2,if_neg fun e3=>e2 ⟨by omega,e3.2⟩]
def axr (h:¬ oo M hi lo i k i k = hi):oo M hi lo i (k + 1) = oo M hi lo i k:=by
 have h0:¬ M i k = hi:=by
  unfold oo at h;rwa [if_neg bv9] at h
 funext i' r;unfold oo;by_cases e:i' = i /\ r = k
 · rw [if_neg (fun x=>h0 (by rw [<- e.1,<- e.2];exact x.2)),if_neg (fun x=>h0 (by rw [<- e.1,<- e.2];exact x.2))]
 by_cases e2:(i' < i \/ (i' = i /\ r < k)) /\ M i' r = hi
 · rw [if_pos e2,if_pos ⟨e2.1.imp_right fun x=>⟨x.1,by omega⟩,e2.2⟩]
 rw [if_neg e2,if_neg fun e3=>e2 ⟨by omega,e3.2⟩]
variable {M':Nat -> Nat -> Int} {m:Nat -> Nat} {n:Nat}
def as8 {i0 k0:Nat} {v:Int} (hM:M' = fun i' r=>if i' = i /\ r = k then v else M i' r) (hi:i0 = i) (hk:k0 = k):
 CoO (.nest e et 1 n m (s8 (mg M) i0 k0 0 [.raw (.int .i64 v)]) none) (.nest e et 1 n m (mg M') none):=by
 subst hi hk hM;refine ⟨rfl,rfl,rfl,rfl,rfl,fun j _=>rfl,fun j r c hj hr hc=>CoP.of_eq ?_⟩;obtain rfl:c = 0:=by omega
 unfold s8;by_cases h:j = i0
 · rw [if_pos h]
   unfold gu;by_cases h2:r = k0
   · rw [if_pos ⟨h2,by omega,by simp⟩]
     show _ = PV.raw (.int .i64 (if j = i0 /\ r = k0 then v else M j r));rw [if_pos ⟨h,h2⟩];rfl
   rw [if_neg (fun x=>h2 x.1)];show _ = PV.raw (.int .i64 (if j = i0 /\ r = k0 then v else M j r));rw [if_neg (fun x=>h2 x.2)]
 rw [if_neg h];show _ = PV.raw (.int .i64 (if j = i0 /\ r = k0 then v else M j r));rw [if_neg (fun x=>h x.1)]
def abp (h:∀ i r,i < n -> r < m i -> M' i r = M i r):CoO (.nest e et 1 n m (mg M) none) (.nest e et 1 n m (mg M') none) :=
 ⟨rfl,rfl,rfl,rfl,rfl,fun _ _=>rfl,fun j r c hj hr hc=>CoP.of_eq (by show PV.raw (.int .i64 (M j r)) = PV.raw (.int .i64 (M' j r));rw [h j r hj hr])⟩
def b2w (hk:¬ k < m i):∀ i' r,i' < n -> r < m i' -> oo M hi lo (i + 1) 0 i' r = oo M hi lo i k i' r:=fun i' r h1 h2=>by
 unfold oo;by_cases e2:(i' < i \/ (i' = i /\ r < k)) /\ M i' r = hi
 · rw [if_pos e2,if_pos ⟨by omega,e2.2⟩]
 rw [if_neg e2,if_neg fun e3=>e2 ⟨by
  rcases buw i' i with h | h
  · exact .inl h
  right;obtain rfl:i' = i:=by omega
  exact ⟨rfl,by omega⟩,e3.2⟩]
def aqm {a b j:Nat} (hn:¬ i < n):∀ i' r,i' < n -> r < m i' -> eqM M a b j i' r = oo M (hiI (M a j) (M b j)) (loI (M a j) (M b j)) i 0 i' r:=fun i' r h1 h2=>by
 unfold oo eqM;by_cases e2:M i' r = hiI (M a j) (M b j)
 · rw [if_pos e2,if_pos ⟨by omega,e2⟩]
 rw [if_neg e2,if_neg fun e3=>e2 e3.2]
def aao {a b j:Nat} (h:M a j = M b j):eqM M a b j = M:=by
 funext i r;unfold eqM;have e1:hiI (M a j) (M b j) = M b j:=by unfold hiI;rw [if_neg bv9,h]
 have e2:loI (M a j) (M b j) = M b j:=by unfold loI;rw [if_neg bv9,h]
 rw [e1,e2];by_cases e:M i r = M b j
 · rw [if_pos e,e]
 rw [if_neg e]
def a1c {a b:Nat} {js:List Nat} (h:i < js.length):eqMs M a b (js.take (i + 1)) = eqM (eqMs M a b (js.take i)) a b (js.getD i default):=by
 unfold eqMs;rw [al h,bs8];rfl
def b28 (s:AS):(aj s).length <= 32:=bs4 (btb _ _) bvd
def b3a {l:List Nat} {j:Nat} (h:j < l.length):l.getD j default ∈ l:=by
 rw [brc,brb h];exact brs h
def b8l {l:List Rw} (hn:n = l.length):CoO (.arr true 1 e n (a1i 1 (nM l) (mg M))) (.arr true 1 e (fc l M).length (lf rC (fc l M))):=by
 subst hn;refine ⟨fun h=>h,rfl,rfl,rz l M,fun i j hi hj=>?_⟩;show CoP (.sl (l.getD i default).length 1 false (mg M i)) (zl ((fc l M).getD i default));rw [aj8 hi];refine CoP.sl bvd (.inl rfl) (fun h=>h) fun r c hr hc=>CoP.of_eq ?_;show PV.raw (.int .i64 (M i r)) = PV.raw (.int .i64 (((List.range (l.getD i default).length).map (M i)).getD r default));rw [brc,brx,bsq hr];rfl
end
end
section
open Go.Proofs
def b62 (n:Int) (l:List Rw) (hl:∀ i,i < l.length -> (l.getD i default).length <= 17592186044416) (hl2:l.length <= 5864062014805):cz bw0 189 [.agg [.p (.raw (.int .i64 n)), .p (rl l)]] [] (.v (.agg [.p (.raw (.int .i64 n)), .ref 901 l.length])) [(901, .nest 124 3 1 l.length (nM l) (mg (gq l)) none)] []:=by
 refine hfx (nt:=25) Tryz.func189 ?_;refine sx7 ?_;refine m9 0 ?_;refine m9 1 ?_;refine w_6 ?_;refine m9 2 ?_;refine w_2 ?_;refine ahw 2 1 901 124 3 1 (nM l) (mg (gq l)) bvg rfl rfl rfl rfl ?_;refine w_9 ?_;refine br (ka 2 (ka 3 (ka 10 (ka 11 kn)))) (kb 1 km) (fun i=>⟨[(12,some (vI i))],[(2,some (.box [.p (.raw (.int .i64 n)), .ref 901 i])),(901,some (.nest 124 3 1 i (nM l) (mg (gq l)) none))]⟩) l.length kk ?_;rintro i hi;refine w_5 ?_;refine hcd (fun h0=>?_) (fun h0=>?_)
 · refine kf ?_;refine fc9 afw ((ahi (l.getD i default).length false (lf zC (l.getD i default)) (hl i bv9)).swap 0 907) trivial ?_;refine m9 3 ?_;refine r9 4 true ?_;refine w_4 ?_;refine ay6 901 907 rfl rfl ?_;refine w_4 ?_;exact lpx (i + 1) ⟨tt,⟨u9,⟨_,rfl,(b1s rfl rfl)⟩,uu⟩⟩
 obtain rfl:i = l.length:=by omega
 refine w_6 ?_;refine hrr ?_;exact ⟨_,_,rfl,bvb,CoR.refl _,uu⟩
end
section
open Go.Proofs
def bdy (n:Int) (l:List Rw) (s:AS) (a b:Nat) (hl:∀ i,i < l.length -> (l.getD i default).length <= 17592186044416) (hl2:l.length <= 8589934592) (ha:a < l.length) (hb:b < l.length) (hs:∀ j,j ∈ aj s -> ∀ i,i < l.length -> j < (l.getD i default).length):a6 bw0 194 [pT n l,pA s,pI (a:Int),pI (b:Int)] (af [pT n (bf (fc l (eqMs (gq l) a b (aj s))))]):=by
 refine hpx (nt:=76) Tryz.func194 ?_;refine sx7 ?_;refine m9 0 ?_;refine m9 1 ?_;refine w_4 ?_;refine fc9 aff (b62 n l hl bv9) trivial ?_;refine m9 2 ?_;refine w_6 ?_;refine qcx a8l (awx s) ?_;refine w_4 ?_;refine br (ka 2 (ka 3 (ka 8 (ka 9 (ka 20 (ka 21 kn)))))) (kb 1 (kb 2 km)) (fun q=>⟨[(22,some (vI q))],[(901,some (.nest 124 3 1 l.length (fun i=>(l.getD i default).length) (mg (eqMs (gq l) a b ((aj s).take q))) none))]⟩) ((aj s).length) kk ?_;rintro q hq;have hm32:=b28 s;refine w_5 ?_;refine hcd (fun h0=>?_) (fun h0=>?_)
 ·
  have hjm:((aj s).getD q default) ∈ aj s:=b3a bv9;have hja:=hs _ hjm a ha;have hjb:=hs _ hjm b hb;refine va ?_;refine rq rfl rfl rfl rfl rfl ?_ (hp:=(by (try simp only [brn,nM]);(repeat' apply And.intro) <;> first | trivial | rfl | omega | exact brf rfl));refine w_7 ?_;refine rq rfl rfl rfl rfl rfl ?_ (hp:=(by (try simp only [brn,nM]);(repeat' apply And.intro) <;> first | trivial | rfl | omega | exact brf rfl));refine j4 ?_;refine hcd (fun h1=>?_) (fun h1=>?_)
  ·
   refine w_5 ?_
   first | (refine lpz (q + 1) ⟨tt, ⟨⟨_, rfl, (by rw [a1c bv9, aao bva]; exact CoO.refl _)⟩, uu⟩⟩ ?_; show q + 1 <= _; omega)
         | (refine lpz (q + 1) ⟨tt,⟨⟨_,rfl,(by rw [a1c bv9];exact abp (aqm bv9))⟩,uu⟩⟩ ?_;show q + 1 <= _;omega)
  refine w_9 ?_;refine br (ka 2 (ka 3 (ka 8 (ka 9 (ka 12 (ka 13 (ka 20 (ka 21 (ka 22 (ka 46 (ka 47 kn))))))))))) (kb 1 (kb 2 km)) (fun i=>⟨[(48,some (vI i))],[(901,some (.nest 124 3 1 l.length (fun i=>(l.getD i default).length) (mg (oo (eqMs (gq l) a b ((aj s).take q)) (hiI ((eqMs (gq l) a b ((aj s).take q)) a ((aj s).getD q default)) ((eqMs (gq l) a b ((aj s).take q)) b ((aj s).getD q default))) (loI ((eqMs (gq l) a b ((aj s).take q)) a ((aj s).getD q default)) ((eqMs (gq l) a b ((aj s).take q)) b ((aj s).getD q default))) i 0)) none))]⟩) l.length ⟨tt,⟨⟨_,rfl,(by rw [b1z];exact CoO.refl _)⟩,trivial⟩⟩ ?_;rintro i hi;refine w_5 ?_;refine hcd (fun h2=>?_) (fun h2=>?_)
  ·
   have hli:=hl i bv9;refine v7 ?_;refine br (ka 2 (ka 3 (ka 8 (ka 9 (ka 12 (ka 13 (ka 15 (ka 20 (ka 21 (ka 22 (ka 46 (ka 47 (ka 48 (ka 53 kn)))))))))))))) (kb 1 (kb 2 km)) (fun k=>⟨[(54,some (vI k))],[(901,some (.nest 124 3 1 l.length (fun i=>(l.getD i default).length) (mg (oo (eqMs (gq l) a b ((aj s).take q)) (hiI ((eqMs (gq l) a b ((aj s).take q)) a ((aj s).getD q default)) ((eqMs (gq l) a b ((aj s).take q)) b ((aj s).getD q default))) (loI ((eqMs (gq l) a b ((aj s).take q)) a ((aj s).getD q default)) ((eqMs (gq l) a b ((aj s).take q)) b ((aj s).getD q default))) i k)) none))]⟩) ((l.getD i default).length) kk ?_;rintro k hk;refine w_5 ?_;refine hcd (fun h3=>?_) (fun h3=>?_)
   ·
    refine j4 ?_;(iterate 2 refine rq rfl rfl rfl rfl rfl ?_ (hp:=(by (try simp only [brn,nM]);(repeat' apply And.intro) <;> first | trivial | rfl | omega | exact brf rfl)));refine w_5 ?_;refine hcd (fun h4=>?_) (fun h4=>?_)
    · refine w_6 ?_;refine rq rfl rfl rfl rfl rfl ?_ (hp:=(by (try simp only [brn,nM]);(repeat' apply And.intro) <;> first | trivial | rfl | omega | exact brf rfl));refine rs rfl rfl rfl rfl rfl ?_ (hp:=(by (try simp only [brn,nM]);(repeat' apply And.intro) <;> first | trivial | rfl | omega | exact brf rfl));refine w_5 ?_;exact lpx (k + 1) ⟨tt,⟨⟨_,rfl,(by first | exact as8 (ayq bva) bvd bvd | (rw [axr bva];exact CoO.refl _))⟩,uu⟩⟩
    refine w_5 ?_;exact lpx (k + 1) ⟨tt,⟨⟨_,rfl,(by first | exact as8 (ayq bva) bvd bvd | (rw [axr bva];exact CoO.refl _))⟩,uu⟩⟩
   refine w_5 ?_;exact lpx (i + 1) ⟨tt,⟨⟨_,rfl,(abp (b2w bv9))⟩,uu⟩⟩
  refine w_5 ?_
  first | (refine lpz (q + 1) ⟨tt, ⟨⟨_, rfl, (by rw [a1c bv9, aao bva]; exact CoO.refl _)⟩, uu⟩⟩ ?_; show q + 1 <= _; omega)
        | (refine lpz (q + 1) ⟨tt,⟨⟨_,rfl,(by rw [a1c bv9];exact abp (aqm bv9))⟩,uu⟩⟩ ?_;show q + 1 <= _;omega)
 obtain rfl:q = (aj s).length:=by omega
 refine w_2 ?_;refine agd 901 rfl ?_;refine w_2 ?_;refine jc rfl rfl rfl rfl rfl rfl ahu ((agl n (fc l (eqMs (gq l) a b (aj s))) (by rw [rz];omega)).swap 900 901) (⟨⟨CoP.refl _,congrArg (HV.ref 901) (rz _ _).symm,trivial⟩,trivial⟩) ⟨⟨_,rfl,(by rw [bro];exact b8l rfl)⟩,trivial⟩ rfl rfl ?_;refine v_2 ?_;exact CoL.refl _
end
section
def vi (n:Int) (l:List Rw) (row:Rw):Int × List Rw × Int:=if 256 < (bf (l ++ [row])).length then (0,[],3) else (n,bf (l ++ [row]),0)
def du {s:Nat} {f:Nat -> Nat -> PV}:CoP (.sl 0 s true f) (rl []):=CoP.sl rfl (.inr rfl) (fun h=>by cases h) fun i j hi _=>absurd hi (brg i)
def fdE (n:Int) (l:List Rw) (a b:Nat) (x:Fd):Int × List Rw × Int:=if oh (l.getD a default) (l.getD b default) x.lhs = true then (n,bf (fc l (eqMs (gq l) a b (aj x.rhs))),0) else (0,[],1)
def mvE (n:Int) (l:List Rw) (a b:Nat) (x:Fd):Int × List Rw × Int:=if oh (l.getD a default) (l.getD b default) x.lhs = true then vi n l (fp (l.getD a default) (l.getD b default) (x.lhs ||| x.rhs)) else (0,[],1)
def pf {n:Int} {l:List Rw} (h:tok n l = true):0 <= n /\ n <= 16 /\ l.length <= 256 /\ ∀ i,i < l.length -> (l.getD i default).length = n.toNat:=by
 unfold tok at h;rw [brk,decide_eq_true_iff,decide_eq_true_iff] at h;obtain ⟨⟨h0,h1,h2⟩,h3⟩:=h;refine ⟨h0,h1,h2,fun i hi=>?_⟩;have:=h3 i hi;unfold pn at this;rw [brk,brk,decide_eq_true_iff] at this;omega
def agm {n:Int} (h0:0 <= n) (h1:n <= 16) {x:Fd} (h:inU n x = true) {j:Nat} (hj:j ∈ aj x.rhs):j < n.toNat:=by
 obtain ⟨_,h3⟩:=(a95 h0 h1).1 h;obtain ⟨h4,h5⟩:=jg.1 hj;have h6:x.rhs >>> n.toNat = 0:=(yd (n:=n.toNat) bv9).1 (by unfold aa at h3;rwa [bsh bv9] at h3)
 rcases buw j n.toNat with h | h
 · exact h
 rw [b4z.1 h6 j h4 h] at h5;cases h5
end
section
open Go.Proofs
def bni (n:Int) (l:List Rw) (row:Rw) (hl:∀ i,i < l.length -> (l.getD i default).length <= 17592186044416) (hl2:l.length <= 4294967296):a6 bw0 195 [pT n l,pZ row] (af [pT (vi n l row).1 (vi n l row).2.1,pI (vi n l row).2.2]):=by
 refine hpx (nt:=23) Tryz.func195 ?_;refine sx7 ?_;refine m9 0 ?_;refine m9 1 ?_;refine w_5 ?_;refine fc9 aff (au3 n l hl bv9) trivial ?_;refine m9 2 ?_;refine w_7 ?_;refine m9 3 ?_;refine r9 4 true ?_;refine w_6 ?_;refine jc rfl rfl rfl rfl rfl rfl ahu ((agl n (l ++ [row]) bvn).swap 900 901) (⟨⟨CoP.refl _,congrArg (HV.ref 901) bvd,trivial⟩,trivial⟩) ⟨⟨_,rfl,c5 rfl (CoP.refl _)⟩,trivial⟩ rfl rfl ?_;refine dc ?_;refine hcd (fun h0=>?_) (fun h0=>?_)
 · refine w_6 ?_;refine hrr ?_;have he:vi n l row = (0,[],3):=if_pos bv9;exact f9 rfl rfl (by rw [he];exact ⟨CoC.agg ⟨CoP.refl _,du,trivial⟩,CoC.refl _,trivial⟩)
 refine w_7 ?_;refine hrr ?_;have he:vi n l row = (n,bf (l ++ [row]),0):=if_neg bv9;exact f9 rfl rfl (by rw [he];exact CoL.refl _)
def aht:goodFn bw0 147:=wgx Tryz.func147
def at5 (n:Int) (l:List Rw) (p m:List Fd) (i a b:Nat) (hT:tok n l = true) (ha:a < l.length) (hb:b < l.length) (hi:i < p.length) (hu:inU n (p.getD i default) = true):a6 bw0 147 [pT n l,pP (fdl p),pP (fdl m), .agg [.raw (.bool false), .raw (.int .i64 (i:Int)), .raw (.int .i64 (a:Int)), .raw (.int .i64 (b:Int))]] (af [pT (fdE n l a b (p.getD i default)).1 (fdE n l a b (p.getD i default)).2.1,pI (fdE n l a b (p.getD i default)).2.2]):=by
 refine hpx (nt:=75) Tryz.func147 ?_;refine cq ?_;obtain ⟨hn0,hn16,hl256,hrow⟩:=pf hT;have hra:=hrow a ha;have hrb:=hrow b hb;have hbig:∀ i,i < l.length -> (l.getD i default).length <= 17592186044416:=fun i hi=>by rw [hrow i hi];omega
 refine gy ?_;refine m9 0 ?_;refine m9 1 ?_;refine m9 2 ?_;refine bfn ?_;refine w_7 ?_;refine qcx a3f (a6b (l.getD a default) (l.getD b default) (p.getD i default).lhs bv9 bv9) ?_;refine w_2 ?_;refine hcv (fun h0=>?_) (fun h0=>?_)
 · refine w_6 ?_;refine hrr ?_;have he:fdE n l a b (p.getD i default) = (0,[],1):=if_neg bvl;exact f9 rfl rfl (by rw [he];exact ⟨CoC.agg ⟨CoP.refl _,du,trivial⟩,CoC.refl _,trivial⟩)
 refine qs ?_;refine qcx (wgx Tryz.func194) (bdy n l (p.getD i default).rhs a b hbig bv9 ha hb (fun j hj i hi=>by rw [hrow i hi];exact agm hn0 hn16 hu hj)) ?_;refine w_4 ?_;refine hrr ?_;have he:fdE n l a b (p.getD i default) = (n,bf (fc l (eqMs (gq l) a b (aj (p.getD i default).rhs))),0):=if_pos bvl;exact f9 rfl rfl (by rw [he];exact CoL.refl _)
def asy (n:Int) (l:List Rw) (p m:List Fd) (i a b:Nat) (hT:tok n l = true) (ha:a < l.length) (hb:b < l.length) (hi:i < m.length):a6 bw0 147 [pT n l,pP (fdl p),pP (fdl m), .agg [.raw (.bool true), .raw (.int .i64 (i:Int)), .raw (.int .i64 (a:Int)), .raw (.int .i64 (b:Int))]] (af [pT (mvE n l a b (m.getD i default)).1 (mvE n l a b (m.getD i default)).2.1,pI (mvE n l a b (m.getD i default)).2.2]):=by
 refine hpx (nt:=75) Tryz.func147 ?_;refine cq ?_;obtain ⟨hn0,hn16,hl256,hrow⟩:=pf hT;have hra:=hrow a ha;have hrb:=hrow b hb;have hbig:∀ i,i < l.length -> (l.getD i default).length <= 17592186044416:=fun i hi=>by rw [hrow i hi];omega
 refine gy ?_;refine m9 0 ?_;refine m9 1 ?_;refine m9 2 ?_;refine bfn ?_;refine w_4 ?_;refine m9 3 ?_;refine w_9 ?_;refine qcx a3f (a6b (l.getD a default) (l.getD b default) (m.getD i default).lhs bv9 bv9) ?_;refine w_2 ?_;refine hcv (fun h0=>?_) (fun h0=>?_)
 · refine w_6 ?_;refine hrr ?_;have he:mvE n l a b (m.getD i default) = (0,[],1):=if_neg bvl;exact f9 rfl rfl (by rw [he];exact ⟨CoC.agg ⟨CoP.refl _,du,trivial⟩,CoC.refl _,trivial⟩)
 refine j3 ?_;refine rc rfl rfl rfl rfl rfl rfl (wgx Tryz.func196) (b18 (l.getD a default) (l.getD b default) ((m.getD i default).lhs ||| (m.getD i default).rhs) bv9 bv9) (⟨CoC.refl _,CoC.refl _,cci (by rw [bOr];rfl),trivial⟩) rfl rfl ?_;refine qcx (wgx Tryz.func195) (bni n l (fp (l.getD a default) (l.getD b default) ((m.getD i default).lhs ||| (m.getD i default).rhs)) hbig bv9) ?_;refine w_6 ?_;refine hrr ?_;have he:mvE n l a b (m.getD i default) = vi n l (fp (l.getD a default) (l.getD b default) ((m.getD i default).lhs ||| (m.getD i default).rhs)):=if_pos bvl;exact f9 rfl rfl (by rw [he];exact CoL.refl _)
end
section
def o4 (P:Nat -> Nat -> Nat -> Bool) (I L:Nat):Option (Nat × Nat × Nat) :=
 (List.range I).findSome? fun i=>(List.range L).findSome? fun a=>((List.range L).find? fun b=>P i a b).map fun b=>(i,a,b)
def afp {α:Type} {f:Nat -> Option α}:∀ {n k:Nat} {x:α},k < n -> f k = some x -> (∀ j,j < k -> f j = none) -> (List.range n).findSome? f = some x
 | n + 1,k,x,hk,h,hb=>by
  rw [bsp,List.findSome?_append];by_cases e:k < n
  · rw [afp e h hb];rfl
  obtain rfl:k = n:=by omega
  have:(List.range k).findSome? f = none:=by
   rw [List.findSome?_eq_none_iff];intro j hj;exact hb j (brw.1 hj)
  rw [this];simp [h]
def afi {α:Type} {f:Nat -> Option α} {n:Nat} (h:∀ j,j < n -> f j = none):(List.range n).findSome? f = none:=by
 rw [List.findSome?_eq_none_iff];intro j hj;exact h j (brw.1 hj)
def a8v {p:Nat -> Bool} {n:Nat} (h:∀ j,j < n -> p j = false):(List.range n).find? p = none:=by
 rw [bub];intro j hj;rw [h j (brw.1 hj)];decide
def bb8 {p:Nat -> Bool} {n k:Nat} (hk:k < n) (h:p k = true) (hb:∀ j,j < k -> p j = false):(List.range n).find? p = some k:=by
 induction n with
 | zero=>omega
 | succ n ih =>
  rw [bsp,List.find?_append];by_cases e:k < n
  · rw [ih e];rfl
  obtain rfl:k = n:=by omega
  rw [a8v hb];simp [h]
section
variable {P:Nat -> Nat -> Nat -> Bool}
def aai {I L i a b:Nat} (hi:i < I) (ha:a < L) (hb:b < L) (h:P i a b = true) (h1:∀ i',i' < i -> ∀ a',a' < L -> ∀ b',b' < L -> P i' a' b' = false) (h2:∀ a',a' < a -> ∀ b',b' < L -> P i a' b' = false) (h3:∀ b',b' < b -> P i a b' = false):
 o4 P I L = some (i,a,b):=by
 refine afp hi ?_ fun j hj=>afi fun a' ha'=>by rw [a8v fun b' hb'=>h1 j hj a' ha' b' hb'];rfl
 refine afp ha ?_ fun a' ha'=>by rw [a8v fun b' hb'=>h2 a' ha' b' hb'];rfl
 rw [bb8 hb h h3];rfl
def aah {I L:Nat} (h:∀ i',i' < I -> ∀ a',a' < L -> ∀ b',b' < L -> P i' a' b' = false):o4 P I L = none :=
 afi fun i hi=>afi fun a ha=>by rw [a8v fun b hb=>h i hi a ha b hb];rfl
def iz (l:List Rw) (x:Fd) (a b:Nat):Bool:=oh (l.getD a default) (l.getD b default) x.lhs && !oh (l.getD a default) (l.getD b default) x.rhs
def iw (l:List Rw) (x:Fd) (a b:Nat):Bool:=oh (l.getD a default) (l.getD b default) x.lhs && !(l.any fun r=>decide (r = fp (l.getD a default) (l.getD b default) (x.lhs ||| x.rhs)))
end
section
variable {l:List Rw} {x:Fd} {a b:Nat}
def ba1 (h:oh (l.getD a default) (l.getD b default) x.lhs = true) (h2:oh (l.getD a default) (l.getD b default) x.rhs = false):iz l x a b = true:=by unfold iz;rw [h,h2];rfl
def ape (h:oh (l.getD a default) (l.getD b default) x.lhs = false):iz l x a b = false:=by unfold iz;rw [h];rfl
def ab4 (h:oh (l.getD a default) (l.getD b default) x.rhs = true):iz l x a b = false:=by unfold iz;rw [h];simp
def bdl (h:oh (l.getD a default) (l.getD b default) x.lhs = true) (h2:(l.any fun r=>decide (r = fp (l.getD a default) (l.getD b default) (x.lhs ||| x.rhs))) = false):iw l x a b = true:=by unfold iw;rw [h,h2];rfl
def anf (h:oh (l.getD a default) (l.getD b default) x.lhs = false):iw l x a b = false:=by unfold iw;rw [h];rfl
def ac4 (h:(l.any fun r=>decide (r = fp (l.getD a default) (l.getD b default) (x.lhs ||| x.rhs))) = true):iw l x a b = false:=by unfold iw;rw [h];simp
end
abbrev St:=Bool × Nat × Nat × Nat
abbrev St.pc (s:St):PC:=.agg [.raw (.bool s.1), .raw (.int .i64 (s.2.1:Int)), .raw (.int .i64 (s.2.2.1:Int)), .raw (.int .i64 (s.2.2.2:Int))]
def gh (l:List Rw) (p m:List Fd):Option St :=
 match o4 (fun i a b=>iz l (p.getD i default) a b) p.length l.length with
 | some x=>some (false,x)
 | none=>(o4 (fun i a b=>iw l (m.getD i default) a b) m.length l.length).map fun x=>(true,x)
def bae {l:List Rw} {p m:List Fd} {x:Nat × Nat × Nat} (h:o4 (fun i a b=>iz l (p.getD i default) a b) p.length l.length = some x):gh l p m = some (false,x):=by unfold gh;rw [h]
def b90 {l:List Rw} {p m:List Fd} {x:Nat × Nat × Nat} (h0:o4 (fun i a b=>iz l (p.getD i default) a b) p.length l.length = none) (h:o4 (fun i a b=>iw l (m.getD i default) a b) m.length l.length = some x):gh l p m = some (true,x):=by unfold gh;rw [h0,h];rfl
def bb5 {l:List Rw} {p m:List Fd} (h0:o4 (fun i a b=>iz l (p.getD i default) a b) p.length l.length = none) (h:o4 (fun i a b=>iw l (m.getD i default) a b) m.length l.length = none):gh l p m = none:=by unfold gh;rw [h0,h];rfl
end
section
open Go.Proofs
def bgm (n:Int) (l:List Rw) (p m:List Fd) (hT:tok n l = true):a6 bw0 190 [pT n l,pP (fdl p),pP (fdl m)] (af [St.pc ((gh l p m).getD (false,0,0,0)),pB (gh l p m).isSome]):=by
 refine hpx (nt:=132) Tryz.func190 ?_;refine cq ?_;obtain ⟨hn0,hn16,hl256,hrow⟩:=pf hT;refine cu 1 rfl fun hn1=>?_;refine cu 2 rfl fun hn2=>?_;refine gy ?_;refine m9 0 ?_;refine m9 1 ?_;refine dc ?_;refine ah (ι:=Nat) (ka 2 (ka 3 (ka 6 (ka 16 (ka 17 kn))))) (kb 0 (kb 1 km)) (fun i=>⟨[(18,some (vI i))],[]⟩) (fun i=>i <= p.length /\ (∀ i',i' < i -> ∀ a',a' < l.length -> ∀ b',b' < l.length -> iz l (p.getD i' default) a' b' = false)) (fun i=>p.length - i) (0) (⟨bre _,c7⟩) kk ?_;rintro i ⟨hi,hI⟩;refine w_5 ?_;refine hcd (fun h0=>?_) (fun h0=>?_)
 ·
  refine w_8 ?_;refine m9 2 ?_;refine j3 ?_;refine ah (ι:=Nat) (ka 2 (ka 3 (ka 6 (ka 8 (ka 9 (ka 16 (ka 17 (ka 18 (ka 25 kn))))))))) (kb 0 (kb 1 (kb 2 km))) (fun a=>⟨[(26,some (vI a))],[]⟩) (fun a=>a <= l.length /\ (∀ a',a' < a -> ∀ b',b' < l.length -> iz l (p.getD i default) a' b' = false)) (fun a=>l.length - a) (0) (⟨bre _,c7⟩) kk ?_;rintro a ⟨ha,hA⟩;refine w_5 ?_;refine hcd (fun h1=>?_) (fun h1=>?_)
  ·
   refine v7 ?_;refine ah (ι:=Nat) (ka 2 (ka 3 (ka 6 (ka 8 (ka 9 (ka 10 (ka 16 (ka 17 (ka 18 (ka 25 (ka 26 (ka 31 kn)))))))))))) (kb 0 (kb 1 (kb 2 km))) (fun b=>⟨[(32,some (vI b))],[]⟩) (fun b=>b <= l.length /\ (∀ b',b' < b -> iz l (p.getD i default) a b' = false)) (fun b=>l.length - b) (0) (⟨bre _,c7⟩) kk ?_;rintro b ⟨hb,hB⟩;refine w_5 ?_;refine hcd (fun h2=>?_) (fun h2=>?_)
   ·
    refine apv ?_;refine qcx a3f (a6b (l.getD a default) (l.getD b default) (p.getD i default).lhs (by rw [hrow _ bv9,hrow _ bv9]) (by rw [hrow _ bv9];omega)) ?_;refine qy ?_;refine aw rfl rfl (fun r3=>?_) (fun r3=>?_)
    ·
     have h3:=r3;(iterate 12 refine qy ?_ (hg:=(gtt r3)));refine qcx a3f (a6b (l.getD a default) (l.getD b default) (p.getD i default).rhs (by rw [hrow _ bv9,hrow _ bv9]) (by rw [hrow _ bv9];omega)) ?_ (hg:=(gtt r3));refine qy ?_ (hg:=(gtt r3));refine w_3 ?_;refine au _ rfl (fun r4=>?_) (fun r4=>?_)
     · have h4:=eg (ck r3 r4);refine w_9 ?_;refine hrr ?_;have he:=bae (m:=m) (aai (P:=fun i a b=>iz l (p.getD i default) a b) (i:=i) (a:=a) (b:=b) bv9 bv9 bv9 (ba1 bva bva) hI hA hB);exact f9 rfl rfl (by rw [he];exact CoL.refl _)
     have h4:=ek (ck r3 r4);refine w_5 ?_;refine lpz (b + 1) kk ?_;exact ⟨by show b + 1 <= _;omega,bo hB (by first | exact ape bva | exact ab4 bva)⟩
    have h3:=r3;(iterate 14 refine k9 (gft r3) ?_);refine w_9 ?_;refine lpz (b + 1) kk ?_
    exact ⟨by show b + 1 <= _;omega,bo hB (by first | exact ape bva | exact ab4 bva)⟩
   refine w_5 ?_;refine lpz (a + 1) kk ?_;exact ⟨by show a + 1 <= _;omega,bo hA (fun b' hb'=>hB b' bv9)⟩
  refine w_5 ?_;refine lpz (i + 1) kk ?_;exact ⟨by show i + 1 <= _;omega,bo hI (fun a' ha'=>hA a' bv9)⟩
 obtain rfl:i = p.length:=by omega
 have hno:=aah (P:=fun i a b=>iz l (p.getD i default) a b) (I:=p.length) (L:=l.length) hI;refine w_9 ?_;refine ah (ι:=Nat) (ka 3 (ka 6 (ka 71 (ka 72 kn)))) (kb 0 (kb 1 km)) (fun k=>⟨[(73,some (vI k))],[]⟩) (fun k=>k <= m.length /\ (∀ i',i' < k -> ∀ a',a' < l.length -> ∀ b',b' < l.length -> iw l (m.getD i' default) a' b' = false)) (fun k=>m.length - k) (0) (⟨bre _,c7⟩) kk ?_;rintro k ⟨hk,hK⟩;refine w_5 ?_;refine hcd (fun h5=>?_) (fun h5=>?_)
 ·
  refine w_8 ?_;refine m9 3 ?_;refine j3 ?_;refine ah (ι:=Nat) (ka 3 (ka 6 (ka 12 (ka 13 (ka 71 (ka 72 (ka 73 (ka 80 kn)))))))) (kb 0 (kb 1 (kb 3 km))) (fun c=>⟨[(81,some (vI c))],[]⟩) (fun c=>c <= l.length /\ (∀ a',a' < c -> ∀ b',b' < l.length -> iw l (m.getD k default) a' b' = false)) (fun c=>l.length - c) (0) (⟨bre _,c7⟩) kk ?_;rintro c ⟨hc,hC⟩;refine w_5 ?_;refine hcd (fun h6=>?_) (fun h6=>?_)
  ·
   refine v7 ?_;refine ah (ι:=Nat) (ka 3 (ka 6 (ka 12 (ka 13 (ka 14 (ka 71 (ka 72 (ka 73 (ka 80 (ka 81 (ka 86 kn))))))))))) (kb 0 (kb 1 (kb 3 km))) (fun d=>⟨[(87,some (vI d))],[]⟩) (fun d=>d <= l.length /\ (∀ b',b' < d -> iw l (m.getD k default) c b' = false)) (fun d=>l.length - d) (0) (⟨bre _,c7⟩) kk ?_;rintro d ⟨hd,hD⟩;refine w_5 ?_;refine hcd (fun h7=>?_) (fun h7=>?_)
   ·
    refine apv ?_;refine qcx a3f (a6b (l.getD c default) (l.getD d default) (m.getD k default).lhs (by rw [hrow _ bv9,hrow _ bv9]) (by rw [hrow _ bv9];omega)) ?_;refine qy ?_;refine aw rfl rfl (fun r8=>?_) (fun r8=>?_)
    ·
     have h8:=r8;(iterate 16 refine qy ?_ (hg:=(gtt r8)));refine rc rfl rfl rfl rfl rfl rfl (wgx Tryz.func196) (b18 (l.getD c default) (l.getD d default) ((m.getD k default).lhs ||| (m.getD k default).rhs) (by rw [hrow _ bv9,hrow _ bv9]) (by rw [hrow _ bv9];omega)) (⟨CoC.refl _,CoC.refl _,cci (by rw [bOr];rfl),trivial⟩) rfl (gtt r8) ?_;refine qcx am5 (awh n l (fp (l.getD c default) (l.getD d default) ((m.getD k default).lhs ||| (m.getD k default).rhs))) ?_ (hg:=(gtt r8));refine qy ?_ (hg:=(gtt r8));refine w_3 ?_;refine au _ rfl (fun r9=>?_) (fun r9=>?_)
     · have h9:=eg (ck r8 r9);refine w_9 ?_;refine hrr ?_;have he:=b90 hno (aai (P:=fun i a b=>iw l (m.getD i default) a b) (i:=k) (a:=c) (b:=d) bv9 bv9 bv9 (bdl bva bva) hK hC hD);exact f9 rfl rfl (by rw [he];exact CoL.refl _)
     have h9:=ek (ck r8 r9);refine w_5 ?_;refine lpz (d + 1) kk ?_;exact ⟨by show d + 1 <= _;omega,bo hD (by first | exact anf bva | exact ac4 bva)⟩
    have h8:=r8;(iterate 19 refine k9 (gft r8) ?_);refine w_9 ?_;refine lpz (d + 1) kk ?_
    exact ⟨by show d + 1 <= _;omega,bo hD (by first | exact anf bva | exact ac4 bva)⟩
   refine w_5 ?_;refine lpz (c + 1) kk ?_;exact ⟨by show c + 1 <= _;omega,bo hC (fun b' hb'=>hD b' bv9)⟩
  refine w_5 ?_;refine lpz (k + 1) kk ?_;exact ⟨by show k + 1 <= _;omega,bo hK (fun a' ha'=>hC a' bv9)⟩
 refine w_7 ?_;refine hrr ?_;have he:=bb5 hno (aah (P:=fun i a b=>iw l (m.getD i default) a b) (I:=m.length) (L:=l.length) fun j hj=>hK j bv9);exact f9 rfl rfl (by rw [he];exact CoL.refl _)
end
end Go.Hx

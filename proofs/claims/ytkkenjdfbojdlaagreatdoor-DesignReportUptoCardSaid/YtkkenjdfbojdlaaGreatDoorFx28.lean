/- A part of the proof: SrZ Ch5 X6 X7 Ch6 X9 X10 Ch7 X11. -/
import Derived.Shelf.SlSortCmp.NoneTotal
import Derived.Test.YtkkenjdfbojdlaaGreatDoorFx17
import Derived.Test.YtkkenjdfbojdlaaGreatDoorFx26
import Derived.Test.YtkkenjdfbojdlaaGreatDoorFx27
set_option linter.all false
set_option maxRecDepth 100000
namespace Go.Hx
section
open Go.Proofs Go.RowKit Go.Sort
theorem aik {w w':World} (h:Below w.heap.size w w'):∃ q os,w' = grow (w.drewN q) os:=by
 refine ⟨w'.drawn - w.drawn,w'.heap.extract w.heap.size w'.heap.size, ?_⟩
 have hd:=h.drawn
 obtain ⟨h1,h2,h3,h4,h5,_⟩:=h
 cases w with
 | mk hp tp dr os out =>
 cases w' with
 | mk hp' tp' dr' os' out' =>
 dsimp only at *
 subst h1 h2 h3
 unfold grow World.drewN
 simp only [World.mk.injEq,true_and,and_true]
 refine ⟨?_,by omega⟩
 apply Array.ext_getElem?
 intro k
 rw [Array.getElem?_append]
 by_cases hk:k < hp.size
 · rw [if_pos hk,h5 k hk]
 rw [if_neg hk,Array.getElem?_extract]
 by_cases hk2:k < hp'.size
 · rw [if_pos (by omega)]
   congr 1
   omega
 rw [if_neg (by omega),Array.getElem?_eq_none (by omega)]
theorem ai1 {α:Type} [Inhabited α] {enc:α → Value} {w:World} {g m:Nat} {d:Array α} {os:Array Obj} {cur:Array Value} {e:TypeId} {fr:Nat × Nat} (h:w.heap[g]? = some (.cells cur e fr)) :
 (sortWorld enc w g 0 m d os).heap[g]? = some (.cells (putCells enc 0 d cur) e fr):=by
 have hlt:=(Array.getElem?_eq_some_iff.1 h).1
 unfold sortWorld
 rw [heap_grow_old _ _ (by simpa using hlt)]
 unfold putRow mapBlock
 simp only [heap_ahead,Array.getElem?_modify,if_true,h]
 rfl
theorem yc {α:Type} [Inhabited α] {enc:α → Value} {w:World} {g m:Nat} {d:Array α} {os:Array Obj} {b:Nat} (hb:b < w.heap.size) (hne:b ≠ g):(sortWorld enc w g 0 m d os).heap[b]? = w.heap[b]?:=by
 unfold sortWorld
 rw [heap_grow_old _ _ (by simpa using hb)]
 unfold putRow mapBlock
 simp only [heap_ahead,Array.getElem?_modify,if_neg (Ne.symm hne)]
theorem ai7 {α:Type} [Inhabited α] {enc:α → Value} {w:World} {g m:Nat} {d:Array α} {os:Array Obj}:Below 0 w (sortWorld enc w g 0 m d os) :=
 ⟨rfl,rfl,rfl,by unfold sortWorld;simp,fun k hk=>absurd hk (Nat.not_lt_zero k),by unfold sortWorld grow;simp⟩
theorem arv {α:Type} [Inhabited α] {enc:α → Value} {d:Array α} {cur:Array Value} (h:d.size ≤ cur.size):(putCells enc 0 d cur).toList.take d.size = d.toList.map enc:=by
 apply List.ext_getElem?
 intro k
 rw [List.getElem?_take,List.getElem?_map,Array.getElem?_toList,Array.getElem?_toList]
 by_cases hk:k < d.size
 · rw [if_pos hk]
   unfold putCells
   rw [Array.getElem?_mapIdx,Array.getElem?_eq_getElem (by omega),Array.getElem?_eq_getElem hk]
   simp only [Option.map_some,Nat.zero_add,Nat.sub_zero]
   rw [if_pos ⟨Nat.zero_le _,hk⟩,getElem!_pos d k hk]
 rw [if_neg hk,Array.getElem?_eq_none (by omega)]
 rfl
theorem an7 {P:Program} {ρ:Go.Shelf.Ren} {β:Type} [Inhabited β] (L:SlLaysF.n6 P ρ) (pc:β → PV) (h1:∀ imm x v,ay imm (pc x) v → v.oneCell' = true) (cf:β → β → Int) (hO:SWO (ltOf cf)) (hT:∀ x y,(ltOf cf) x y = false → (ltOf cf) y x = false → x = y)
 (g:Nat) (caps:Nat → PV) (hg:∀ args w,(callFunc g args).run P w = .ok (.enter g args) w) (hc:∀ x y,af P g [.one (pc x), .one (pc y)] (aj [.one (.raw (.int .i64 (cf x y)))])) (id:Nat) (e:TypeId) (l:List β) (hsz:l.length ≤ 8589934592) :
 dw P (ρ.f 6) [.one (.ref id l.length), .one (.p (.fn g 0 caps))] [(id, .arr true 1 e l.length (lf (fun x _=>pc x) l))] (.tup [])
  [(id, .arr true 1 e l.length (lf (fun x _=>pc x) (l.mergeSort fun x y=>!(ltOf cf) y x)))] [id]:=by
 intro w c us hM hus
 match us,hus with
 | [u,v],⟨hu,hv,_⟩ =>
  obtain ⟨cs,rfl,hcl,_⟩:=hv
  have hcs:cs = []:=List.eq_nil_of_length_eq_zero hcl
  subst hcs
  have hl1:lk [(id,ai.arr true 1 e l.length (lf (fun x _=>pc x) l))] id = some (.arr true 1 e l.length (lf (fun x _=>pc x) l)):=by simp [lk]
  have hu2:=(hu.2.2 _ _ _ _ hl1 rfl).2 rfl
  subst hu2
  have hob:=hM.objs id _ hl1
  obtain ⟨h0,hmax,h5⟩:=hob
  have hlen:(l.mergeSort fun x y=>!(ltOf cf) y x).length = l.length:=List.length_mergeSort _
  have hev:∀ f':Nat → Nat → PV,Evo c (lk [(id,ai.arr true 1 e l.length (lf (fun x _=>pc x) l))]) c (lk [(id,ai.arr true 1 e l.length f')]) id:=fun f' =>
   .inr (.inr ⟨_, .arr true 1 e l.length f',1,e,l.length,l.length,hl1,rfl,by simp [lk],rfl,Nat.le_refl _,fun _=>rfl,fun _ _ _ _ _ _ _ h=>by cases h⟩)
  rcases Nat.eq_zero_or_pos l.length with hz | hpos
  ·
   have hl:l = []:=List.eq_nil_of_length_eq_zero hz
   subst hl
   have hform:∃ ad cap,c.own id = .slice ad 0 cap:=by
    rcases h5 with ⟨_,xs,h2,_⟩ | ⟨_,_,ad,cap,hv,_⟩
    · rcases h2.2 with ⟨hv,_⟩ | ⟨g,cap,cur,hv,_⟩
      · exact ⟨none,0,hv⟩
      exact ⟨_,cap,hv⟩
    exact ⟨ad,cap,hv⟩
   obtain ⟨ad,cap,hown⟩:=hform
   have hms:([]:List β).mergeSort (fun x y=>!(ltOf cf) y x) = []:=by simp
   rw [hown,hms]
   refine (AnyF.slices_SortFunc_none { L with } ad cap (.func (.func g) #[] #[]) w).mono ?_
   rintro e' w' ⟨rfl,rfl⟩
   exact ⟨_,c,rfl,⟨[],rfl,trivial⟩,hM,Below.refl _ _,fun _ _ _=>⟨rfl,rfl⟩,fun id0 ob b ho hb=>.inr ⟨id0,ob,ho,hb⟩,fun id0 hid=>by
    rw [List.mem_singleton.1 hid]
    exact Evo.refl _ _ _⟩
  obtain ⟨h6,xs,h2,h4⟩:c.blk id = iw (c.own id) ∧ ∃ xs,w.ownsRow 0 e 1 (c.own id) l.length xs ∧ ∀ i j,i < l.length → j < 1 → ∃ x,xs[i * 1 + j]? = some x ∧ ay c.imm (lf (fun x _=>pc x) l i j) x:=by
   rcases h5 with h5 | ⟨h6 | h6,_⟩
   · exact h5
   · cases h6
   omega
  obtain ⟨hxl,hrow⟩:=h2
  rcases hrow with ⟨_,hz⟩ | ⟨b,cap,cur,hown,hbase,hheap,hnc,hcm,hcs,htake⟩
  · omega
  have hblk:c.blk id b:=by rw [h6,hown];rfl
  have hlt:b < w.heap.size:=(Array.getElem?_eq_some_iff.1 hheap).1
  have hval:∀ i,i < l.length → ∃ x,cur[i]? = some x ∧ ay c.imm (pc (l.getD i default)) x:=fun i hi=>by
   obtain ⟨x,hx,hr⟩:=h4 i 0 hi (by omega)
   rw [Nat.mul_one,Nat.add_zero,← htake,List.getElem?_take,if_pos (by omega),Array.getElem?_toList] at hx
   exact ⟨x,hx,hr⟩
  let A:={ p:β × Value // ay c.imm (pc p.1) p.2 }
  let enc:A → Value:=fun p=>p.1.2
  let fst:A → β:=fun p=>p.1.1
  let cf':A → A → Int:=fun p q=>cf (fst p) (fst q)
  have hO':SWO (ltOf cf'):=⟨fun x=>hO.irrefl _,fun x y z=>hO.trans _ _ _,fun x y z=>hO.ntrans _ _ _⟩
  obtain ⟨d,hds,hdv⟩:∃ d:Array A,d.size = l.length ∧ ∀ i,(hi:i < d.size) → cur[i]? = some (enc d[i]) ∧ fst d[i] = l.getD i default:=by
   refine ⟨Array.ofFn (n:=l.length) fun i=>⟨(l.getD i default,(hval i i.2).choose),(hval i i.2).choose_spec.2⟩,by simp,fun i hi=>?_⟩
   rw [Array.getElem_ofFn]
   exact ⟨(hval i (by simpa using hi)).choose_spec.1,rfl⟩
  have hd0:0 < d.size:=by omega
  haveI:Inhabited A:=⟨d[0]⟩
  have hen:∀ x:A,(enc x).oneCell' = true:=fun x=>h1 _ _ _ x.2
  have hH:Holds enc w b 0 d:=fun j hj=>by
   rw [Nat.zero_add]
   refine ⟨?_,by simp [World.frozen?,hheap]⟩
   rw [getElem!_pos d j hj]
   simp [World.cell?,hheap,(hdv j hj).1]
  have hcmp:CmpLays1 P g #[] enc cf' b 0 d.size w:=by
   intro m os dk hdk x y
   have hcimm:∀ b' ob,c.imm b' = some ob → (sortWorld enc w b 0 m dk os).heap[b']? = some ob:=fun b' ob hb'=>by
    have hne:b' ≠ b:=fun he=>by
     have:=hM.sep id _ b hl1 hblk
     rw [← he,hb'] at this
     cases this
    have hw:=hM.imm b' ob hb'
    rw [yc (Array.getElem?_eq_some_iff.1 hw).1 hne]
    exact hw
   have h:=hc (fst x) (fst y) (sortWorld enc w b 0 m dk os) c.imm [enc x,enc y] c.tab hcimm ⟨x.2,y.2,trivial⟩
   refine h.mono ?_
   rintro e' w' ⟨v,imm',rfl,hr,_,_,hb⟩
   obtain ⟨q,os',hq⟩:=aik hb
   exact ⟨by rw [hr.1],q,os',hq⟩
  have hS:=Any.slices_SortFunc L enc hen cf' hO' g #[] b 0 cap d w hg hcmp hH hlt (by omega)
  rw [hds] at hS
  rw [hown]
  refine Calls.mono hS ?_
  rintro e' w' ⟨rfl,d',m,os,hperm,hsorted,rfl⟩
  have hsz':d'.size = l.length:=by rw [hperm.1,hds]
  obtain ⟨S,hSl,hSp⟩:∃ S:List A,S = d'.toList ∧ S.map fst = l.mergeSort fun x y=>!(ltOf cf) y x:=by
   refine ⟨_,rfl, ?_⟩
   have hp:(d'.toList.map fst).Perm l:=by
    obtain ⟨_,_,hp⟩:=hperm
    have e1:d'.extract 0 l.length = d':=by rw [← hsz'];exact Array.extract_size
    have e2:d.extract 0 l.length = d:=by rw [← hds];exact Array.extract_size
    rw [e1,e2] at hp
    refine (hp.map fst).trans ?_
    have:d.toList.map fst = l:=by
     refine nk (by simp [hds]) fun j hj=>?_
     have hj:j < d.size:=by simpa using hj
     rw [← (hdv j hj).2,List.getD_eq_getElem?_getD,List.getElem?_map,Array.getElem?_toList,Array.getElem?_eq_getElem hj]
     rfl
    rw [this]
   refine List.Perm.eq_of_pairwise (le:=fun x y=>(!(ltOf cf) y x) = true) ?_ ?_ ?_ (hp.trans (List.mergeSort_perm _ _).symm)
   · intro a b _ _ h1 h2
     simp only [Bool.not_eq_true'] at h1 h2
     exact hT a b h2 h1
   · rw [List.pairwise_map,List.pairwise_iff_getElem]
     intro i j hi hj hij
     have hi':i < d'.size:=by simpa using hi
     have hj':j < d'.size:=by simpa using hj
     have:=hsorted i j (Nat.zero_le _) hij (by omega)
     rw [getElem!_pos d' j hj',getElem!_pos d' i hi'] at this
     simp only [Array.getElem_toList,Bool.not_eq_true']
     exact this
   refine List.pairwise_mergeSort ?_ ?_ _
   · intro a b c h1 h2
     simp only [Bool.not_eq_true'] at h1 h2 ⊢
     exact hO.ntrans c b a h2 h1
   intro a b
   cases h:(ltOf cf) b a with
   | false=>simp
   | true=>simp [hO.asymmA h]
  obtain rfl:d' = S.toArray:=by rw [hSl]
  rw [← hSp] at hlen ⊢
  rw [List.length_map] at hlen
  refine ⟨_,c,rfl,⟨[],rfl,trivial⟩,⟨fun id0 ob ho=>?_,fun id0 id1 ob0 ob1 b' ho0 ho1 _ _=>(ip ho0).1.trans (ip ho1).1.symm,fun b' ob hb'=>?_,fun id0 ob b' ho hb'=>?_⟩,ai7,
   fun b' hb' hno=>⟨yc hb' (fun he=>hno id _ hl1 (by rw [he];exact hblk)),rfl⟩,fun id0 ob b' ho hb'=>.inr ⟨id,_,hl1,by rw [← (ip ho).1];exact hb'⟩,fun id0 hid=>by
    rw [List.mem_singleton.1 hid]
    exact hev _⟩
  · obtain ⟨rfl,rfl⟩:=ip ho
    refine ⟨h0,hmax, .inl ⟨h6,S.map enc,⟨by simp [hlen], .inr ⟨b,cap,putCells enc 0 S.toArray cur,hown,hbase,ai1 hheap,hnc,hcm,by simpa [putCells] using hcs, ?_⟩⟩,fun i j hi hj=>?_⟩⟩
    · have:=arv (enc:=enc) (d:=S.toArray) (cur:=cur) (by rw [List.size_toArray,hlen,hcs];omega)
      rw [List.size_toArray,hlen] at this
      rw [Nat.mul_one]
      exact this
    obtain rfl:j = 0:=by omega
    have hi':i < S.length:=by rw [hlen];exact hi
    refine ⟨enc S[i], ?_, ?_⟩
    · rw [Nat.mul_one,Nat.add_zero,List.getElem?_map,List.getElem?_eq_getElem hi']
      rfl
    show ay c.imm (pc ((S.map fst).getD i default)) _
    rw [List.getD_eq_getElem?_getD,List.getElem?_map,List.getElem?_eq_getElem hi']
    exact S[i].2
  · have hne:b' ≠ b:=fun he=>by
     have:=hM.sep id _ b hl1 hblk
     rw [← he,hb'] at this
     cases this
    have hw:=hM.imm b' ob hb'
    rw [yc (Array.getElem?_eq_some_iff.1 hw).1 hne]
    exact hw
  have:=(ip ho).1
  subst this
  exact hM.sep id0 _ b' hl1 hb'
 | [],h=>exact h.elim
 | [_],⟨_,h⟩=>exact h.elim
 | _ :: _ :: _ :: _,⟨_,_,h⟩=>exact h.elim
end
section
open Go.Proofs Go.RowKit Go.Sort
structure CpZ (l:List Rw) (k p q:Nat) (m:List Rw):Prop where
 len:m.length = l.length
 kq:k < q
 pq:p < q
 ql:q ≤ l.length
 pre:m.take p = iu (l.take q)
 high:∀ j,q - 1 ≤ j → m.getD j default = l.getD j default
theorem CpZ.start {l:List Rw} {k:Nat} (h1:1 ≤ k) (hk:k < l.length) (h:∀ j,0 < j → j < k → ¬ l.getD j default = l.getD (j - 1) default) (hd:l.getD k default = l.getD (k - 1) default):CpZ l k k (k + 1) l :=
 ⟨rfl,by omega,by omega,by omega,by rw [ml (by omega) hk,if_pos hd.symm,List.append_nil,s7 (by omega) h],fun _ _=>rfl⟩
theorem CpZ.skip {l:List Rw} {k p q:Nat} {m:List Rw} (h:CpZ l k p q m) (hq:q < l.length) (he:m.getD q default = m.getD (q - 1) default):CpZ l k p (q + 1) m:=by
 have hk:=h.kq
 refine ⟨h.len,by omega,by have:=h.pq;omega,hq, ?_,fun j hj=>h.high j (by omega)⟩
 rw [h.high q (by omega),h.high (q - 1) (by omega)] at he
 rw [ml (by omega) hq,if_pos he.symm,List.append_nil,h.pre]
theorem CpZ.keep {l:List Rw} {k p q:Nat} {m:List Rw} (h:CpZ l k p q m) (hq:q < l.length) (he:¬ m.getD q default = m.getD (q - 1) default):CpZ l k (p + 1) (q + 1) (m.set p (m.getD q default)):=by
 have hk:=h.kq
 have hp:=h.pq
 have hl:=h.len
 refine ⟨by simp [hl],by omega,by omega,hq, ?_,fun j hj=>by rw [getD_set_ne' (by omega)];exact h.high j (by omega)⟩
 have e:=h.high q (by omega)
 rw [e,h.high (q - 1) (by omega)] at he
 rw [ml (by omega) hq,if_neg (fun e=>he e.symm),← h.pre,b5 (by simp [hl];omega),ly (by omega),e]
 congr 1
 rw [List.take_set,List.set_eq_of_length_le (by simp;omega)]
theorem agz {l:List Rw} {k:Nat} (hk:l.length ≤ k) (h:∀ j,0 < j → j < k → ¬ l.getD j default = l.getD (j - 1) default):CoP (.sl l.length 1 false (lf rC l)) (rl (iu l)):=by
 have:=s7 (Nat.le_refl l.length) fun j h1 h2=>h j h1 (by omega)
 rw [List.take_length] at this
 rw [this]
 exact CoP.refl _
theorem auy {l m:List Rw} {k p q n a d:Nat} {cl:Bool} {z:List Value} (hC:CpZ l k p q m) (hq:¬ q < l.length) (ha:p ≤ a):CoP (.sl (ej (bc n (some (p:Int))) none) 1 cl (oo (mf (lf rC m) a d z) none)) (rl (iu l)):=by
 have e:=hC.pre
 have h1:=hC.ql
 have h2:=hC.len
 have h3:=hC.pq
 rw [show q = l.length by omega,List.take_length] at e
 have el:(iu l).length = p:=by rw [← e];simp;omega
 exact aah (by rw [el];rfl) rfl (by omega) (by rw [el,e])
theorem a0k:∀ {l:List Rw} {p:Option Rw},l.Pairwise (fun a b=>ltZ b a = false) → (∀ x,p = some x → ∀ y ∈ l,ltZ y x = false) → (ji p l).Pairwise (fun a b=>ltZ a b = true) ∧ ∀ x,p = some x → ∀ y ∈ ji p l,ltZ x y = true
 | [],p,_,_=>⟨by simp [ji],fun x _ y hy=>by simp [ji] at hy⟩
 | z :: l,p,h,hp=>by
  obtain ⟨h1,h2⟩:=List.pairwise_cons.1 h
  simp only [ji]
  split
  · rename_i e
    subst e
    exact a0k h2 fun x hx y hy=>hp x hx y (List.mem_cons_of_mem _ hy)
  rename_i hne
  obtain ⟨q1,q2⟩:=a0k (p:=some z) h2 fun x hx y hy=>by
   simp only [Option.some.injEq] at hx
   subst hx
   exact h1 y hy
  refine ⟨List.pairwise_cons.2 ⟨fun y hy=>q2 z rfl y hy,q1⟩,fun x hx y hy=>?_⟩
  have hxz:ltZ x z = true:=by
   have h3:=hp x hx z List.mem_cons_self
   rcases a06 (a:=x) (b:=z) (fun e=>hne (by rw [hx,e])) with h4 | h4
   · exact h4
   rw [h3] at h4;cases h4
  rcases List.mem_cons.1 hy with rfl | hy
  · exact hxz
  exact lb hxz (q2 z rfl y hy)
theorem a4r {l:List Rw} {a b a' b':Nat} (h:l.getD a' default = l.getD b' default) (ha:a' = a) (hb:b' = b):l.getD a default = l.getD b default:=by subst ha hb;exact h
theorem a5f {l:List Rw} {a b a' b':Nat} (h:¬ l.getD a' default = l.getD b' default) (ha:a' = a) (hb:b' = b):¬ l.getD a default = l.getD b default:=by subst ha hb;exact h
theorem abj {l:List Rw} {a b a' b':Nat} (h:decide (l.getD a' default = l.getD b' default) = true) (ha:a' = a) (hb:b' = b):l.getD a default = l.getD b default:=a4r (of_decide_eq_true h) ha hb
theorem abf {l:List Rw} {a b a' b':Nat} (h:decide (l.getD a' default = l.getD b' default) = false) (ha:a' = a) (hb:b' = b):¬ l.getD a default = l.getD b default:=a5f (of_decide_eq_false h) ha hb
theorem ub {a b:Rw}:ltOf o3 a b = ltZ a b:=by
 rw [Bool.eq_iff_iff]
 show decide (o3 a b < 0) = true ↔ _
 rw [decide_eq_true_iff]
 exact a0h
theorem ank {x y z:Rw} (h:ltZ x y = false) (k:ltZ y z = false):ltZ x z = false:=by
 rw [Bool.eq_false_iff]
 intro e
 by_cases hyz:y = z
 · subst hyz;rw [h] at e;cases e
 rcases a06 hyz with h2 | h2
 · rw [k] at h2;cases h2
 rw [lb e h2] at h;cases h
theorem atw:SWO (ltOf o3) where
 irrefl x:=by rw [ub];exact sn x
 trans x y z h k:=by rw [ub] at *;exact lb h k
 ntrans x y z h k:=by rw [ub] at *;exact ank h k
def srZ (l:List Rw):List Rw:=l.mergeSort fun x y=>!ltZ y x
theorem ayy {l:List Rw} {x:Rw}:x ∈ srZ l ↔ x ∈ l:=by unfold srZ;exact List.mem_mergeSort
theorem ajg (l:List Rw):(srZ l).length = l.length:=List.length_mergeSort _
theorem avs (l:List Rw):iu (srZ l) = c5 l:=by
 refine af6 (a0k ?_ fun x hx=>by cases hx).1 fun z=>by rw [ah7,ayy]
 have h:=List.pairwise_mergeSort (le:=fun x y:Rw=>!ltZ y x) (fun a b c h k=>by
  simp only [Bool.not_eq_true'] at *
  exact ank k h) (fun a b=>by
  simp only [Bool.or_eq_true,Bool.not_eq_true']
  by_cases e:ltZ b a = true
  · right
    rw [Bool.eq_false_iff]
    intro e2
    have:=lb e e2
    rw [sn] at this
    cases this
  left
  exact Bool.eq_false_iff.2 e) l
 refine h.imp fun {a b} hab=>?_
 simpa using hab
theorem b05 {l:List Rw} {r:Rw} (h:(l.any fun x=>decide (x = r)) = false):r ∉ l:=fun e=>by
 rw [List.any_eq_false] at h
 exact h r e (decide_eq_true rfl)
theorem b3b:Go.Hx.goodFn Tryz.prog 219:=⟨Tryz.f219,Tryz.func219,by kernel_rfl,by kernel_rfl⟩
theorem b4o (id:Nat) (caps:Nat → PV) (l:List Rw) (hsz:l.length ≤ 8589934592):dw Tryz.prog 219 [.one (.ref id l.length), .one (.p (.fn 220 0 caps))] [(id, .arr true 1 84 l.length (lf rC l))] (.tup [])
 [(id, .arr true 1 84 l.length (lf rC (srZ l)))] [id]:=by
 have h:=an7 Tryz.laysSortZ (fun r:Rw=>zl r) (fun imm x v hr=>by obtain ⟨ad,cap,h1,_⟩:=hr;rw [h1];rfl) o3 atw (fun x y h k=>by
  rw [ub] at h k
  apply Classical.byContradiction
  intro hne
  rcases a06 hne with h2 | h2
  · rw [h] at h2;cases h2
  rw [k] at h2;cases h2) 220 caps (enters_of Tryz.func220 (by kernel_rfl) rfl) (fun x y=>ayb x y) id 84 l hsz
 have e:(fun x y:Rw=>!(ltOf o3) y x) = fun x y=>!ltZ y x:=by
  funext x y
  rw [ub]
 rw [e] at h
 exact h
end
section
open Go.Proofs
theorem azu:goodFn Tryz.prog 221:=wgx Tryz.func221
theorem b6t (l:List Rw):dw Tryz.prog 221 [.one (.ref 900 l.length), .one (.p (.fn 154 0 fun _=>.any))] [(900, .arr true 1 84 l.length (lf rC l))] (.v (.one (.p (rl (iu l))))) [] []:=by
 refine gd (nt:=66) a7 Tryz.func221 rfl rfl l9 rfl ?_;refine d8 ?_
 refine a9n 900 rfl fun hlen=>?_
 refine dl ?_;refine a6 _ rfl (fun r0=>?_) (fun r0=>?_)
 ·
  have h0:=ae r0
  try simp only [ty] at h0
  refine w_5 ?_;refine bi 4 rfl rfl rfl ?_;refine go ?_;refine ⟨.inr rfl, ?_⟩
  exact ⟨_,_,rfl,(by (repeat' apply And.intro) <;> first | trivial | exact Nat.le_of_ble_eq_true rfl),agz (k:=l.length) (Nat.le_refl _) (fun j h1 h2=>by omega),trivial⟩
 have h0:=aa r0
 try simp only [ty] at h0
 refine w_7 ?_
 refine ah (ι:=Nat) ⟨[(0,some _),(1,some _)],[(900,some _)]⟩ ⟨⟨c9,c9,trivial⟩,⟨u9,trivial⟩⟩ (fun k=>⟨[(5,some (vI k))],[]⟩) (fun k=>1 ≤ k ∧ k ≤ l.length ∧ ∀ j,0 < j → j < k → ¬ l.getD j default = l.getD (j - 1) default) (fun k=>l.length - k) (1) (⟨Nat.le_refl _,by omega,fun j h1 h2=>by omega⟩) ⟨⟨zy,trivial⟩,trivial⟩ ?_
 rintro k ⟨hk1,hk,hI⟩
 refine w_8 ?_;refine a6 _ rfl (fun r1=>?_) (fun r1=>?_)
 ·
  have h1:=ae r1
  try simp only [ty] at h1
  refine w_4 ?_;refine bg (E:=bj) a7 aw [0,1,2,3,4,5,6,7,8,9,10] ?_;refine dl ?_;refine qcx ab8 (au1 _ _) ?_;refine ax ?_;refine ⟨by kernel_rfl, ?_⟩
  refine a6 _ rfl (fun r2=>?_) (fun r2=>?_)
  ·
   have h2:=r2
   refine kf ?_
   refine ah (ι:=Nat × Nat × List Rw) ⟨[(0,some _),(1,some _),(6,some _)],[]⟩ ⟨⟨c9,c9,c9,trivial⟩,trivial⟩ (fun x=>⟨[(5,some (vI x.1)),(7,some (vI ((x.2.1:Int) - k)))],[(900,some (.arr true 1 84 l.length (lf rC x.2.2)))]⟩) (fun x=>CpZ l k x.1 x.2.1 x.2.2) (fun x=>l.length - x.2.1) ((k,k + 1,l)) (CpZ.start hk1 (by omega) hI (by first | exact a4r (by assumption) rfl (by omega) | exact abj (by assumption) rfl (by omega))) ⟨⟨zy,⟨_,rfl,(coi (by first | rfl | (dsimp only;omega)))⟩,trivial⟩,⟨u9,trivial⟩⟩ ?_
   rintro ⟨p,q,m⟩ hC
   have hC0:=hC
   obtain ⟨hml,hkq,hpq,hql,_,_⟩:=hC0
   dsimp only at hC hml hkq hpq hql
   refine w_8 ?_;refine a6 _ rfl (fun r3=>?_) (fun r3=>?_)
   ·
    have h3:=ae r3
    try simp only [ty] at h3
    simp only [ej,bc,Int.toNat_natCast] at h3
    refine w_4 ?_;refine bg (E:=bj) a7 aw [0,1,2,3,4,5,6,7,8,9,10,11] ?_;refine dl ?_;refine qcx ab8 (au1 _ _) ?_;refine w_2 ?_;refine ⟨by kernel_rfl, ?_⟩
    refine a6 _ rfl (fun r4=>?_) (fun r4=>?_)
    ·
     have h4:=r4
     have h4:=au h4
     refine amo ?_
     first | (refine ⟨(p + 1, q + 1, m.set p (m.getD q default)), ?_, ?_, ?_⟩
              · exact hC.keep (by omega) (by first | exact a5f (by assumption) (by simp only [bc];omega) (by simp only [bc];omega) | exact abf (by assumption) (by simp only [bc];omega) (by simp only [bc];omega))
              · first | omega | (dsimp only;omega)
              exact ⟨⟨⟨_,rfl,(coi (by first | rfl | (dsimp only;omega)))⟩,⟨_,rfl,(coi (by first | rfl | (dsimp only;omega)))⟩,c9,c9,c9,trivial⟩,⟨⟨_,rfl,(qb id hml.symm (by omega) (by dsimp only;omega) (by simp only [bc];omega))⟩,trivial⟩⟩)
           | (refine ⟨(p,q + 1,m), ?_, ?_, ?_⟩
              · exact hC.skip (by omega) (by first | exact a4r (by assumption) (by simp only [bc];omega) (by simp only [bc];omega) | exact abj (by assumption) (by simp only [bc];omega) (by simp only [bc];omega))
              · first | omega | (dsimp only;omega)
              exact ⟨⟨⟨_,rfl,(coi (by first | rfl | (dsimp only;omega)))⟩,⟨_,rfl,(coi (by first | rfl | (dsimp only;omega)))⟩,c9,c9,c9,trivial⟩,⟨u9,trivial⟩⟩)
    have h4:=r4
    have h4:=ar h4
    refine w_6 ?_
    first | (refine ⟨(p + 1, q + 1, m.set p (m.getD q default)), ?_, ?_, ?_⟩
             · exact hC.keep (by omega) (by first | exact a5f (by assumption) (by simp only [bc];omega) (by simp only [bc];omega) | exact abf (by assumption) (by simp only [bc];omega) (by simp only [bc];omega))
             · first | omega | (dsimp only;omega)
             exact ⟨⟨⟨_,rfl,(coi (by first | rfl | (dsimp only;omega)))⟩,⟨_,rfl,(coi (by first | rfl | (dsimp only;omega)))⟩,c9,c9,c9,trivial⟩,⟨⟨_,rfl,(qb id hml.symm (by omega) (by dsimp only;omega) (by simp only [bc];omega))⟩,trivial⟩⟩)
          | (refine ⟨(p,q + 1,m), ?_, ?_, ?_⟩
             · exact hC.skip (by omega) (by first | exact a4r (by assumption) (by simp only [bc];omega) (by simp only [bc];omega) | exact abj (by assumption) (by simp only [bc];omega) (by simp only [bc];omega))
             · first | omega | (dsimp only;omega)
             exact ⟨⟨⟨_,rfl,(coi (by first | rfl | (dsimp only;omega)))⟩,⟨_,rfl,(coi (by first | rfl | (dsimp only;omega)))⟩,c9,c9,c9,trivial⟩,⟨u9,trivial⟩⟩)
   have h3:=aa r3
   try simp only [ty] at h3
   simp only [ej,bc,Int.toNat_natCast] at h3
   refine w_6 ?_;refine ra 0 true rfl rfl rfl rfl rfl rfl ?_;refine w_5 ?_;refine aw2 rfl rfl rfl rfl rfl ?_;refine w_3 ?_;refine ⟨.inr rfl, ?_⟩
   exact ⟨_,_,rfl,(by (repeat' apply And.intro) <;> first | trivial | exact Nat.le_of_ble_eq_true rfl),auy hC (by omega) (by simp [bc]),trivial⟩
  have h2:=r2
  refine w_6 ?_;refine ⟨k + 1, ?_, ?_, ?_⟩
  · refine ⟨by omega,by show k + 1 ≤ _;omega,fun j h1 h2=>?_⟩
    rcases Nat.lt_or_eq_of_le (Nat.le_of_lt_succ h2) with h | h
    · exact hI j h1 h
    subst h
    first | exact a5f (by assumption) rfl (by omega) | exact abf (by assumption) rfl (by omega)
  · first | omega | (dsimp only;omega)
  exact ⟨⟨zy,c9,c9,trivial⟩,⟨u9,trivial⟩⟩
 have h1:=aa r1
 try simp only [ty] at h1
 refine w_6 ?_;refine bi 4 rfl rfl rfl ?_;refine go ?_;refine ⟨.inr rfl, ?_⟩
 exact ⟨_,_,rfl,(by (repeat' apply And.intro) <;> first | trivial | exact Nat.le_of_ble_eq_true rfl),agz (k:=k) (by omega) hI,trivial⟩
end
section
open Go.Proofs
theorem abb:goodFn Tryz.prog 174:=wgx Tryz.func174
theorem abw (n:Int) (l:List Rw) (hl:l.length ≤ 8589934592):dw Tryz.prog 174 [.agg [.p (.raw (.int .i64 n)), .ref 900 l.length]] [(900, .arr true 1 84 l.length (lf rC l))] (.v (.agg [.p (.raw (.int .i64 n)), .p (rl (c5 l))])) [] []:=by
 refine gd (nt:=11) a7 Tryz.func174 rfl rfl l9 rfl ?_;refine sx7 ?_;refine m9 0 ?_;refine m9 1 ?_;refine w_5 ?_
 refine bf rfl rfl rfl rfl rfl rfl b3b (b4o 900 _ l hl) (da.refl _) ⟨u9,trivial⟩ rfl rfl ?_;refine w_5 ?_
 refine bf rfl rfl rfl rfl rfl rfl azu (b6t (srZ l)) (⟨congrArg (HV.ref 900) (ajg l).symm,CoP.refl _,trivial⟩) ⟨⟨_,rfl,fy rfl (ajg l).symm⟩,trivial⟩ rfl rfl ?_;refine w_9 ?_;refine ⟨.inr rfl, ?_⟩
 exact ⟨_,_,rfl,(by (repeat' apply And.intro) <;> first | trivial | exact Nat.le_of_ble_eq_true rfl),CoR.of_eq (by rw [← avs];rfl),trivial⟩
end
section
abbrev nM (l:List Rw):Nat → Nat:=fun i=>(l.getD i default).length
abbrev fu (l:List Rw):Nat → Nat → Int:=fun i r=>(l.getD i default).getD r default
abbrev mg (M:Nat → Nat → Int):Nat → Nat → Nat → PV:=fun i r _=>.raw (.int .i64 (M i r))
theorem apc {l:List Rw} {i k:Nat} {f:Nat → Nat → PV} {e et:TypeId} (hk:k = (l.getD i default).length) (hf:f = lf zC (l.getD i default)) :
 CoO (.nest e et 1 (i + 1) (qp (nM l) i k) (tj (mg (fu l)) i f) none) (.nest e et 1 (i + 1) (nM l) (mg (fu l)) none):=by
 subst hk hf
 have hm:∀ j,qp (nM l) i (l.getD i default).length j = nM l j:=fun j=>by
  by_cases h:j = i
  · subst h;rw [abc]
  rw [a0l h]
 refine ⟨rfl,rfl,rfl,rfl,rfl,fun j _=>(hm j).symm,fun j r c hj hr hc=>CoP.of_eq ?_⟩
 by_cases h:j = i
 · subst h
   rw [aka]
   rfl
 rw [afp h]
abbrev hiI (x y:Int):Int:=if x < y then y else x
abbrev loI (x y:Int):Int:=if y < x then y else x
def lh (M:Nat → Nat → Int) (hi lo:Int) (i k:Nat):Nat → Nat → Int:=fun i' r=>if (i' < i ∨ (i' = i ∧ r < k)) ∧ M i' r = hi then lo else M i' r
def eqM (M:Nat → Nat → Int) (a b j:Nat):Nat → Nat → Int:=fun i r=>if M i r = hiI (M a j) (M b j) then loI (M a j) (M b j) else M i r
def eqMs (M:Nat → Nat → Int) (a b:Nat) (js:List Nat):Nat → Nat → Int:=js.foldl (fun M j=>eqM M a b j) M
def ey (l:List Rw) (M:Nat → Nat → Int):List Rw:=(List.range l.length).map fun i=>(List.range (l.getD i default).length).map (M i)
theorem ni (l:List Rw) (M:Nat → Nat → Int):(ey l M).length = l.length:=by unfold ey;simp
theorem aca {l:List Rw} {M:Nat → Nat → Int} {i:Nat} (h:i < l.length):(ey l M).getD i default = (List.range (l.getD i default).length).map (M i):=by
 unfold ey
 rw [List.getD_eq_getElem?_getD,List.getElem?_map,List.getElem?_range h]
 rfl
theorem asg {M:Nat → Nat → Int} {hi lo:Int}:lh M hi lo 0 0 = M:=by
 funext i r
 unfold lh
 rw [if_neg (by omega)]
theorem api {M:Nat → Nat → Int} {hi lo:Int} {i k:Nat} (h:lh M hi lo i k i k = hi):lh M hi lo i (k + 1) = fun i' r=>if i' = i ∧ r = k then lo else lh M hi lo i k i' r:=by
 have h0:M i k = hi:=by
  unfold lh at h
  rwa [if_neg (by omega)] at h
 funext i' r
 unfold lh
 by_cases e:i' = i ∧ r = k
 · rw [if_pos e,if_pos ⟨.inr ⟨e.1,by omega⟩,by rw [e.1,e.2];exact h0⟩]
 rw [if_neg e]
 by_cases e2:(i' < i ∨ (i' = i ∧ r < k)) ∧ M i' r = hi
 · rw [if_pos e2,if_pos ⟨e2.1.imp_right fun x=>⟨x.1,by omega⟩,e2.2⟩]
 rw [if_neg e2,if_neg fun e3=>e2 ⟨by omega,e3.2⟩]
theorem anv {M:Nat → Nat → Int} {hi lo:Int} {i k:Nat} (h:¬ lh M hi lo i k i k = hi):lh M hi lo i (k + 1) = lh M hi lo i k:=by
 have h0:¬ M i k = hi:=by
  unfold lh at h
  rwa [if_neg (by omega)] at h
 funext i' r
 unfold lh
 by_cases e:i' = i ∧ r = k
 · rw [if_neg (fun x=>h0 (by rw [← e.1,← e.2];exact x.2)),if_neg (fun x=>h0 (by rw [← e.1,← e.2];exact x.2))]
 by_cases e2:(i' < i ∨ (i' = i ∧ r < k)) ∧ M i' r = hi
 · rw [if_pos e2,if_pos ⟨e2.1.imp_right fun x=>⟨x.1,by omega⟩,e2.2⟩]
 rw [if_neg e2,if_neg fun e3=>e2 ⟨by omega,e3.2⟩]
theorem aje {n:Nat} {m:Nat → Nat} {e et:TypeId} {M M':Nat → Nat → Int} {i k i0 k0:Nat} {v:Int} (hM:M' = fun i' r=>if i' = i ∧ r = k then v else M i' r) (hi:i0 = i) (hk:k0 = k) :
 CoO (.nest e et 1 n m (n9 (mg M) i0 k0 0 [.raw (.int .i64 v)]) none) (.nest e et 1 n m (mg M') none):=by
 subst hi hk hM
 refine ⟨rfl,rfl,rfl,rfl,rfl,fun j _=>rfl,fun j r c hj hr hc=>CoP.of_eq ?_⟩
 obtain rfl:c = 0:=by omega
 unfold n9
 by_cases h:j = i0
 · rw [if_pos h]
   unfold eu
   by_cases h2:r = k0
   · rw [if_pos ⟨h2,by omega,by simp⟩]
     show _ = PV.raw (.int .i64 (if j = i0 ∧ r = k0 then v else M j r))
     rw [if_pos ⟨h,h2⟩]
     rfl
   rw [if_neg (fun x=>h2 x.1)]
   show _ = PV.raw (.int .i64 (if j = i0 ∧ r = k0 then v else M j r))
   rw [if_neg (fun x=>h2 x.2)]
 rw [if_neg h]
 show _ = PV.raw (.int .i64 (if j = i0 ∧ r = k0 then v else M j r))
 rw [if_neg (fun x=>h x.1)]
theorem a7d {n:Nat} {m:Nat → Nat} {e et:TypeId} {M M':Nat → Nat → Int} (h:∀ i r,i < n → r < m i → M' i r = M i r):CoO (.nest e et 1 n m (mg M) none) (.nest e et 1 n m (mg M') none) :=
 ⟨rfl,rfl,rfl,rfl,rfl,fun _ _=>rfl,fun j r c hj hr hc=>CoP.of_eq (by show PV.raw (.int .i64 (M j r)) = PV.raw (.int .i64 (M' j r));rw [h j r hj hr])⟩
theorem auh {M:Nat → Nat → Int} {hi lo:Int} {i k n:Nat} {m:Nat → Nat} (hk:¬ k < m i):∀ i' r,i' < n → r < m i' → lh M hi lo (i + 1) 0 i' r = lh M hi lo i k i' r:=fun i' r h1 h2=>by
 unfold lh
 by_cases e2:(i' < i ∨ (i' = i ∧ r < k)) ∧ M i' r = hi
 · rw [if_pos e2,if_pos ⟨by omega,e2.2⟩]
 rw [if_neg e2,if_neg fun e3=>e2 ⟨by
  rcases Nat.lt_or_ge i' i with h | h
  · exact .inl h
  right
  obtain rfl:i' = i:=by omega
  exact ⟨rfl,by omega⟩,e3.2⟩]
theorem af4 {M:Nat → Nat → Int} {a b j n i:Nat} {m:Nat → Nat} (hn:¬ i < n):∀ i' r,i' < n → r < m i' → eqM M a b j i' r = lh M (hiI (M a j) (M b j)) (loI (M a j) (M b j)) i 0 i' r:=fun i' r h1 h2=>by
 unfold lh eqM
 by_cases e2:M i' r = hiI (M a j) (M b j)
 · rw [if_pos e2,if_pos ⟨by omega,e2⟩]
 rw [if_neg e2,if_neg fun e3=>e2 e3.2]
theorem a7f {M:Nat → Nat → Int} {a b j:Nat} (h:M a j = M b j):eqM M a b j = M:=by
 funext i r
 unfold eqM
 have e1:hiI (M a j) (M b j) = M b j:=by unfold hiI;rw [if_neg (by omega),h]
 have e2:loI (M a j) (M b j) = M b j:=by unfold loI;rw [if_neg (by omega),h]
 rw [e1,e2]
 by_cases e:M i r = M b j
 · rw [if_pos e,e]
 rw [if_neg e]
theorem xk {M:Nat → Nat → Int} {a b i:Nat} {js:List Nat} (h:i < js.length):eqMs M a b (js.take (i + 1)) = eqM (eqMs M a b (js.take i)) a b (js.getD i default):=by
 unfold eqMs
 rw [b5 h,List.foldl_append]
 rfl
theorem aob (s:AS):(ap s).length ≤ 32:=Nat.le_trans (List.length_filter_le _ _) (by simp)
theorem asw {l:List Nat} {j:Nat} (h:j < l.length):l.getD j default ∈ l:=by
 rw [List.getD_eq_getElem?_getD,List.getElem?_eq_getElem h]
 exact List.getElem_mem h
theorem b35 {l:List Rw} {M:Nat → Nat → Int} {e:TypeId} {n:Nat} (hn:n = l.length):CoO (.arr true 1 e n (a0e 1 (nM l) (mg M))) (.arr true 1 e (ey l M).length (lf rC (ey l M))):=by
 subst hn
 refine ⟨fun h=>h,rfl,rfl,ni l M,fun i j hi hj=>?_⟩
 show CoP (.sl (l.getD i default).length 1 false (mg M i)) (zl ((ey l M).getD i default))
 rw [aca hi]
 refine CoP.sl (by simp) (.inl rfl) (fun h=>h) fun r c hr hc=>CoP.of_eq ?_
 show PV.raw (.int .i64 (M i r)) = PV.raw (.int .i64 (((List.range (l.getD i default).length).map (M i)).getD r default))
 rw [List.getD_eq_getElem?_getD,List.getElem?_map,List.getElem?_range hr]
 rfl
end
section
open Go.Proofs
theorem auz (n:Int) (l:List Rw) (hl:∀ i,i < l.length → (l.getD i default).length ≤ 17592186044416) (hl2:l.length ≤ 5864062014805):dw Tryz.prog 200 [.agg [.p (.raw (.int .i64 n)), .p (rl l)]] [] (.v (.agg [.p (.raw (.int .i64 n)), .ref 901 l.length])) [(901, .nest 84 3 1 l.length (nM l) (mg (fu l)) none)] []:=by
 refine gd (nt:=25) a7 Tryz.func200 rfl rfl l9 rfl ?_;refine sx7 ?_;refine m9 0 ?_;refine m9 1 ?_;refine w_6 ?_;refine m9 2 ?_;refine w_2 ?_
 refine aaa 2 1 901 84 3 1 (nM l) (mg (fu l)) (by decide) rfl rfl rfl rfl ?_;refine w_9 ?_
 refine ah (ι:=Nat) ⟨[(2,some _),(3,some _),(10,some _),(11,some _)],[(1,some _)]⟩ ⟨⟨c9,c9,c9,c9,trivial⟩,⟨u9,trivial⟩⟩ (fun i=>⟨[(12,some (vI i))],[(2,some (.box [.p (.raw (.int .i64 n)), .ref 901 i])),(901,some (.nest 84 3 1 i (nM l) (mg (fu l)) none))]⟩) (fun i=>i ≤ l.length) (fun i=>l.length - i) (0) (Nat.zero_le _) ⟨⟨zy,trivial⟩,⟨u9,u9,trivial⟩⟩ ?_
 rintro i hi
 refine w_5 ?_;refine a6 _ rfl (fun r0=>?_) (fun r0=>?_)
 ·
  have h0:=ae r0
  try simp only [ty] at h0
  refine w_9 ?_;refine bg (E:=bj) a7 aw [0,1,2,3,4,5,6,7] ?_;refine w_3 ?_
  refine bf rfl rfl rfl rfl rfl rfl ab9 ((aak (l.getD i default).length false (lf zC (l.getD i default)) (hl i (by omega))).swap 0 907) (da.refl _) trivial rfl rfl ?_;refine m9 3 ?_
  refine ra 4 true rfl rfl rfl rfl rfl rfl ?_;refine w_3 ?_;refine ⟨by kernel_rfl, ?_⟩;refine as0 901 907 rfl rfl ?_;refine w_4 ?_;refine ⟨i + 1, ?_, ?_, ?_⟩
  · show i + 1 ≤ _;omega
  · first | omega | (dsimp only;omega)
  exact ⟨⟨zy,c9,c9,c9,c9,trivial⟩,⟨u9,⟨_,rfl,(apc rfl rfl)⟩,u9,trivial⟩⟩
 have h0:=aa r0
 try simp only [ty] at h0
 obtain rfl:i = l.length:=by omega
 refine w_7 ?_;refine ⟨.inr rfl, ?_⟩
 exact ⟨_,_,rfl,(by (repeat' apply And.intro) <;> first | trivial | exact Nat.le_of_ble_eq_true rfl),CoR.refl _,⟨u9,trivial⟩⟩
end
section
open Go.Proofs
theorem aza:goodFn Tryz.prog 224:=wgx Tryz.func224
theorem ayj (n:Int) (l:List Rw) (s:AS) (a b:Nat) (hl:∀ i,i < l.length → (l.getD i default).length ≤ 17592186044416) (hl2:l.length ≤ 8589934592) (ha:a < l.length) (hb:b < l.length) (hs:∀ j,j ∈ ap s → ∀ i,i < l.length → j < (l.getD i default).length):af Tryz.prog 224 [pT n l,pA s,pI (a:Int),pI (b:Int)] (aj [pT n (c5 (ey l (eqMs (fu l) a b (ap s))))]):=by
 refine a8 (nt:=76) a7 Tryz.func224 rfl rfl l9 ?_;refine sx7 ?_;refine m9 0 ?_;refine m9 1 ?_;refine w_4 ?_
 refine bf rfl rfl rfl rfl rfl rfl aas (auz n l hl (by omega)) (da.refl _) trivial rfl rfl ?_;refine m9 2 ?_;refine w_6 ?_;refine qcx za (aad s) ?_;refine w_4 ?_
 refine ah (ι:=Nat) ⟨[(2,some _),(3,some _),(8,some _),(9,some _),(20,some _),(21,some _)],[(1,some _),(2,some _)]⟩ ⟨⟨c9,c9,c9,c9,c9,c9,trivial⟩,⟨u9,u9,trivial⟩⟩ (fun q=>⟨[(22,some (vI q))],[(901,some (.nest 84 3 1 l.length (fun i=>(l.getD i default).length) (mg (eqMs (fu l) a b ((ap s).take q))) none))]⟩) (fun q=>q ≤ (ap s).length) (fun q=>(ap s).length - q) (0) (Nat.zero_le _) ⟨⟨zy,trivial⟩,⟨u9,trivial⟩⟩ ?_
 rintro q hq
 have hm32:=aob s
 refine w_5 ?_;refine a6 _ rfl (fun r0=>?_) (fun r0=>?_)
 ·
  have h0:=ae r0
  try simp only [ty] at h0
  have hjm:((ap s).getD q default) ∈ ap s:=asw (by omega)
  have hja:=hs _ hjm a ha
  have hjb:=hs _ hjm b hb
  refine dl ?_;refine bg (E:=bj) a7 aw [0,1,2,3,4,5,6,7,8,9,10,11,12,13,14,15,16,17] ?_;refine w_6 ?_
  refine rq rfl rfl rfl rfl rfl ?_ (hp:=(by (try simp only [Int.toNat_natCast,nM]);(repeat' apply And.intro) <;> first | trivial | rfl | omega | exact Nat.le_of_ble_eq_true rfl));refine w_7 ?_
  refine rq rfl rfl rfl rfl rfl ?_ (hp:=(by (try simp only [Int.toNat_natCast,nM]);(repeat' apply And.intro) <;> first | trivial | rfl | omega | exact Nat.le_of_ble_eq_true rfl));refine w_4 ?_;refine ⟨by kernel_rfl, ?_⟩
  refine w_7 ?_;refine a6 _ rfl (fun r1=>?_) (fun r1=>?_)
  ·
   have h1:=ae r1
   try simp only [ty] at h1
   refine w_5 ?_
   first | (refine ⟨q + 1, ?_, ?_, ?_⟩
            · show q + 1 ≤ _;omega
            · first | omega | (dsimp only;omega)
            exact ⟨⟨zy,c9,c9,c9,c9,c9,c9,trivial⟩,⟨⟨_,rfl,(by rw [xk (by omega),a7f (by assumption)];exact CoO.refl _)⟩,u9,u9,trivial⟩⟩)
         | (refine ⟨q + 1, ?_, ?_, ?_⟩
            · show q + 1 ≤ _;omega
            · first | omega | (dsimp only;omega)
            exact ⟨⟨zy,c9,c9,c9,c9,c9,c9,trivial⟩,⟨⟨_,rfl,(by rw [xk (by omega)];exact a7d (af4 (by omega)))⟩,u9,u9,trivial⟩⟩)
  have h1:=aa r1
  try simp only [ty] at h1
  refine w_9 ?_
  refine ah (ι:=Nat) ⟨[(2,some _),(3,some _),(8,some _),(9,some _),(12,some _),(13,some _),(20,some _),(21,some _),(22,some _),(46,some _),(47,some _)],[(1,some _),(2,some _)]⟩ ⟨⟨c9,c9,c9,c9,c9,c9,c9,c9,c9,c9,c9,trivial⟩,⟨u9,u9,trivial⟩⟩ (fun i=>⟨[(48,some (vI i))],[(901,some (.nest 84 3 1 l.length (fun i=>(l.getD i default).length) (mg (lh (eqMs (fu l) a b ((ap s).take q)) (hiI ((eqMs (fu l) a b ((ap s).take q)) a ((ap s).getD q default)) ((eqMs (fu l) a b ((ap s).take q)) b ((ap s).getD q default))) (loI ((eqMs (fu l) a b ((ap s).take q)) a ((ap s).getD q default)) ((eqMs (fu l) a b ((ap s).take q)) b ((ap s).getD q default))) i 0)) none))]⟩) (fun i=>i ≤ l.length) (fun i=>l.length - i) (0) (Nat.zero_le _) ⟨⟨zy,trivial⟩,⟨⟨_,rfl,(by rw [asg];exact CoO.refl _)⟩,trivial⟩⟩ ?_
  rintro i hi
  refine w_5 ?_;refine a6 _ rfl (fun r2=>?_) (fun r2=>?_)
  ·
   have h2:=ae r2
   try simp only [ty] at h2
   have hli:=hl i (by omega)
   refine a6o ?_
   refine ah (ι:=Nat) ⟨[(2,some _),(3,some _),(8,some _),(9,some _),(12,some _),(13,some _),(15,some _),(20,some _),(21,some _),(22,some _),(46,some _),(47,some _),(48,some _),(53,some _)],[(1,some _),(2,some _)]⟩ ⟨⟨c9,c9,c9,c9,c9,c9,c9,c9,c9,c9,c9,c9,c9,c9,trivial⟩,⟨u9,u9,trivial⟩⟩ (fun k=>⟨[(54,some (vI k))],[(901,some (.nest 84 3 1 l.length (fun i=>(l.getD i default).length) (mg (lh (eqMs (fu l) a b ((ap s).take q)) (hiI ((eqMs (fu l) a b ((ap s).take q)) a ((ap s).getD q default)) ((eqMs (fu l) a b ((ap s).take q)) b ((ap s).getD q default))) (loI ((eqMs (fu l) a b ((ap s).take q)) a ((ap s).getD q default)) ((eqMs (fu l) a b ((ap s).take q)) b ((ap s).getD q default))) i k)) none))]⟩) (fun k=>k ≤ (l.getD i default).length) (fun k=>(l.getD i default).length - k) (0) (Nat.zero_le _) ⟨⟨zy,trivial⟩,⟨u9,trivial⟩⟩ ?_
   rintro k hk
   refine w_5 ?_;refine a6 _ rfl (fun r3=>?_) (fun r3=>?_)
   ·
    have h3:=ae r3
    try simp only [ty] at h3
    refine fc ?_;(iterate 2 refine rq rfl rfl rfl rfl rfl ?_ (hp:=(by (try simp only [Int.toNat_natCast,nM]);(repeat' apply And.intro) <;> first | trivial | rfl | omega | exact Nat.le_of_ble_eq_true rfl)));refine w_5 ?_
    refine a6 _ rfl (fun r4=>?_) (fun r4=>?_)
    ·
     have h4:=ae r4
     try simp only [ty] at h4
     refine w_6 ?_;refine rq rfl rfl rfl rfl rfl ?_ (hp:=(by (try simp only [Int.toNat_natCast,nM]);(repeat' apply And.intro) <;> first | trivial | rfl | omega | exact Nat.le_of_ble_eq_true rfl))
     refine rs rfl rfl rfl rfl rfl ?_ (hp:=(by (try simp only [Int.toNat_natCast,nM]);(repeat' apply And.intro) <;> first | trivial | rfl | omega | exact Nat.le_of_ble_eq_true rfl));refine w_5 ?_
     refine ⟨k + 1, ?_, ?_, ?_⟩
     · show k + 1 ≤ _;omega
     · first | omega | (dsimp only;omega)
     exact ⟨⟨zy,c9,c9,c9,c9,c9,c9,c9,c9,c9,c9,c9,c9,c9,c9,trivial⟩,⟨⟨_,rfl,(by first | exact aje (api (by assumption)) (by simp) (by simp) | (rw [anv (by assumption)];exact CoO.refl _))⟩,u9,u9,trivial⟩⟩
    have h4:=aa r4
    try simp only [ty] at h4
    refine w_5 ?_;refine ⟨k + 1, ?_, ?_, ?_⟩
    · show k + 1 ≤ _;omega
    · first | omega | (dsimp only;omega)
    exact ⟨⟨zy,c9,c9,c9,c9,c9,c9,c9,c9,c9,c9,c9,c9,c9,c9,trivial⟩,⟨⟨_,rfl,(by first | exact aje (api (by assumption)) (by simp) (by simp) | (rw [anv (by assumption)];exact CoO.refl _))⟩,u9,u9,trivial⟩⟩
   have h3:=aa r3
   try simp only [ty] at h3
   refine w_5 ?_;refine ⟨i + 1, ?_, ?_, ?_⟩
   · show i + 1 ≤ _;omega
   · first | omega | (dsimp only;omega)
   exact ⟨⟨zy,c9,c9,c9,c9,c9,c9,c9,c9,c9,c9,c9,trivial⟩,⟨⟨_,rfl,(a7d (auh (by omega)))⟩,u9,u9,trivial⟩⟩
  have h2:=aa r2
  try simp only [ty] at h2
  refine w_5 ?_
  first | (refine ⟨q + 1, ?_, ?_, ?_⟩
           · show q + 1 ≤ _;omega
           · first | omega | (dsimp only;omega)
           exact ⟨⟨zy,c9,c9,c9,c9,c9,c9,trivial⟩,⟨⟨_,rfl,(by rw [xk (by omega),a7f (by assumption)];exact CoO.refl _)⟩,u9,u9,trivial⟩⟩)
        | (refine ⟨q + 1, ?_, ?_, ?_⟩
           · show q + 1 ≤ _;omega
           · first | omega | (dsimp only;omega)
           exact ⟨⟨zy,c9,c9,c9,c9,c9,c9,trivial⟩,⟨⟨_,rfl,(by rw [xk (by omega)];exact a7d (af4 (by omega)))⟩,u9,u9,trivial⟩⟩)
 have h0:=aa r0
 try simp only [ty] at h0
 obtain rfl:q = (ap s).length:=by omega
 refine w_2 ?_;refine aze 901 rfl ?_;refine w_2 ?_
 refine bf rfl rfl rfl rfl rfl rfl abb ((abw n (ey l (eqMs (fu l) a b (ap s))) (by rw [ni];omega)).swap 900 901) (⟨⟨CoP.refl _,congrArg (HV.ref 901) (ni _ _).symm,trivial⟩,trivial⟩) ⟨⟨_,rfl,(by rw [List.take_length];exact b35 rfl)⟩,trivial⟩ rfl rfl ?_
 refine w_2 ?_
 exact hx8 rfl rfl rfl (CoL.refl _)
end
section
def ss (n:Int) (l:List Rw) (row:Rw):Int × List Rw × Int:=if 256 < (c5 (l ++ [row])).length then (0,[],3) else (n,c5 (l ++ [row]),0)
theorem dv {s:Nat} {f:Nat → Nat → PV}:CoP (.sl 0 s true f) (rl []):=CoP.sl rfl (.inr rfl) (fun h=>by cases h) fun i j hi _=>absurd hi (Nat.not_lt_zero i)
def fdE (n:Int) (l:List Rw) (a b:Nat) (x:Fd):Int × List Rw × Int:=if ld (l.getD a default) (l.getD b default) x.lhs = true then (n,c5 (ey l (eqMs (fu l) a b (ap x.rhs))),0) else (0,[],1)
def mvE (n:Int) (l:List Rw) (a b:Nat) (x:Fd):Int × List Rw × Int:=if ld (l.getD a default) (l.getD b default) x.lhs = true then ss n l (fw (l.getD a default) (l.getD b default) (x.lhs ||| x.rhs)) else (0,[],1)
theorem n7 {n:Int} {l:List Rw} (h:tok n l = true):0 ≤ n ∧ n ≤ 16 ∧ l.length ≤ 256 ∧ ∀ i,i < l.length → (l.getD i default).length = n.toNat:=by
 unfold tok at h
 rw [Bool.and_eq_true,decide_eq_true_iff,decide_eq_true_iff] at h
 obtain ⟨⟨h0,h1,h2⟩,h3⟩:=h
 refine ⟨h0,h1,h2,fun i hi=>?_⟩
 have:=h3 i hi
 unfold my at this
 rw [Bool.and_eq_true,Bool.and_eq_true,decide_eq_true_iff] at this
 omega
theorem aa9 {n:Int} (h0:0 ≤ n) (h1:n ≤ 16) {x:Fd} (h:inU n x = true) {j:Nat} (hj:j ∈ ap x.rhs):j < n.toNat:=by
 obtain ⟨_,h3⟩:=(qd h0 h1).1 h
 obtain ⟨h4,h5⟩:=kb.1 hj
 have h6:x.rhs >>> n.toNat = 0:=(ur (n:=n.toNat) (by omega)).1 (by unfold aq at h3;rwa [Nat.min_eq_left (by omega)] at h3)
 rcases Nat.lt_or_ge j n.toNat with h | h
 · exact h
 rw [b8d.1 h6 j h4 h] at h5;cases h5
end
section
open Go.Proofs
theorem az9:goodFn Tryz.prog 225:=wgx Tryz.func225
theorem bbf (n:Int) (l:List Rw) (row:Rw) (hl:∀ i,i < l.length → (l.getD i default).length ≤ 17592186044416) (hl2:l.length ≤ 4294967296):af Tryz.prog 225 [pT n l,pZ row] (aj [pT (ss n l row).1 (ss n l row).2.1,pI (ss n l row).2.2]):=by
 refine a8 (nt:=23) a7 Tryz.func225 rfl rfl l9 ?_;refine sx7 ?_;refine m9 0 ?_;refine m9 1 ?_;refine w_5 ?_
 refine bf rfl rfl rfl rfl rfl rfl aas (ajt n l hl (by omega)) (da.refl _) trivial rfl rfl ?_;refine m9 2 ?_;refine w_7 ?_;refine m9 3 ?_;refine ra 4 true rfl rfl rfl rfl rfl rfl ?_;refine w_6 ?_
 refine bf rfl rfl rfl rfl rfl rfl abb ((abw n (l ++ [row]) (by simp;omega)).swap 900 901) (⟨⟨CoP.refl _,congrArg (HV.ref 901) (by simp),trivial⟩,trivial⟩) ⟨⟨_,rfl,c7 rfl (CoP.refl _)⟩,trivial⟩ rfl rfl ?_
 refine dl ?_;refine a6 _ rfl (fun r0=>?_) (fun r0=>?_)
 ·
  have h0:=ae r0
  try simp only [ty] at h0
  refine w_7 ?_;refine ⟨.inr rfl, ?_⟩
  have he:ss n l row = (0,[],3):=if_pos (by omega)
  exact f9 rfl rfl (by rw [he];exact ⟨CoC.agg ⟨CoP.refl _,dv,trivial⟩,CoC.refl _,trivial⟩)
 have h0:=aa r0
 try simp only [ty] at h0
 refine w_8 ?_;refine ⟨.inr rfl, ?_⟩
 have he:ss n l row = (n,c5 (l ++ [row]),0):=if_neg (by omega)
 exact f9 rfl rfl (by rw [he];exact CoL.refl _)
theorem abr:goodFn Tryz.prog 176:=wgx Tryz.func176
theorem aj6 (n:Int) (l:List Rw) (p m:List Fd) (i a b:Nat) (hT:tok n l = true) (ha:a < l.length) (hb:b < l.length) (hi:i < p.length) (hu:inU n (p.getD i default) = true):af Tryz.prog 176 [pT n l,pP (fdl p),pP (fdl m), .agg [.raw (.bool false), .raw (.int .i64 (i:Int)), .raw (.int .i64 (a:Int)), .raw (.int .i64 (b:Int))]] (aj [pT (fdE n l a b (p.getD i default)).1 (fdE n l a b (p.getD i default)).2.1,pI (fdE n l a b (p.getD i default)).2.2]):=by
 refine a8 (nt:=75) a7 Tryz.func176 rfl rfl l9 ?_;refine d8 ?_
 obtain ⟨hn0,hn16,hl256,hrow⟩:=n7 hT
 have hra:=hrow a ha
 have hrb:=hrow b hb
 have hbig:∀ i,i < l.length → (l.getD i default).length ≤ 17592186044416:=fun i hi=>by rw [hrow i hi];omega
 refine gy ?_;refine m9 0 ?_;refine m9 1 ?_;refine m9 2 ?_;refine w_3 ?_;refine bg (E:=bj) a7 aw [0,1,2,3,4,5,6,7,8,9,10,11,12,13] ?_;refine mr ?_;refine ⟨by kernel_rfl, ?_⟩;refine w_7 ?_
 refine a6 _ rfl (fun _=>?_) (fun e=>by cases e);refine f8 ?_;refine qcx zz (a2y (l.getD a default) (l.getD b default) (p.getD i default).lhs (by omega) (by omega)) ?_;refine w_2 ?_
 refine a6 _ rfl (fun r0=>?_) (fun r0=>?_)
 ·
  have h0:=r0
  have h0:=au h0
  refine w_7 ?_;refine ⟨.inr rfl, ?_⟩
  have he:fdE n l a b (p.getD i default) = (0,[],1):=if_neg (by simp_all)
  exact f9 rfl rfl (by rw [he];exact ⟨CoC.agg ⟨CoP.refl _,dv,trivial⟩,CoC.refl _,trivial⟩)
 have h0:=r0
 have h0:=ar h0
 refine w_2 ?_;refine bg (E:=bj) a7 aw [0,1,2,3,4,5,6,7,8,9,10,11,12,13] ?_;refine f8 ?_
 refine qcx aza (ayj n l (p.getD i default).rhs a b hbig (by omega) ha hb (fun j hj i hi=>by rw [hrow i hi];exact aa9 hn0 hn16 hu hj)) ?_;refine w_3 ?_;refine ⟨by kernel_rfl, ?_⟩;refine go ?_
 refine ⟨.inr rfl, ?_⟩
 have he:fdE n l a b (p.getD i default) = (n,c5 (ey l (eqMs (fu l) a b (ap (p.getD i default).rhs))),0):=if_pos (by simp_all)
 exact f9 rfl rfl (by rw [he];exact CoL.refl _)
theorem aip (n:Int) (l:List Rw) (p m:List Fd) (i a b:Nat) (hT:tok n l = true) (ha:a < l.length) (hb:b < l.length) (hi:i < m.length):af Tryz.prog 176 [pT n l,pP (fdl p),pP (fdl m), .agg [.raw (.bool true), .raw (.int .i64 (i:Int)), .raw (.int .i64 (a:Int)), .raw (.int .i64 (b:Int))]] (aj [pT (mvE n l a b (m.getD i default)).1 (mvE n l a b (m.getD i default)).2.1,pI (mvE n l a b (m.getD i default)).2.2]):=by
 refine a8 (nt:=75) a7 Tryz.func176 rfl rfl l9 ?_;refine d8 ?_
 obtain ⟨hn0,hn16,hl256,hrow⟩:=n7 hT
 have hra:=hrow a ha
 have hrb:=hrow b hb
 have hbig:∀ i,i < l.length → (l.getD i default).length ≤ 17592186044416:=fun i hi=>by rw [hrow i hi];omega
 refine gy ?_;refine m9 0 ?_;refine m9 1 ?_;refine m9 2 ?_;refine w_3 ?_;refine bg (E:=bj) a7 aw [0,1,2,3,4,5,6,7,8,9,10,11,12,13] ?_;refine mr ?_;refine ⟨by kernel_rfl, ?_⟩;refine w_7 ?_
 refine a6 _ rfl (fun e=>by cases e) (fun _=>?_);refine w_8 ?_;refine m9 3 ?_;refine w_9 ?_;refine qcx zz (a2y (l.getD a default) (l.getD b default) (m.getD i default).lhs (by omega) (by omega)) ?_
 refine w_2 ?_;refine a6 _ rfl (fun r0=>?_) (fun r0=>?_)
 ·
  have h0:=r0
  have h0:=au h0
  refine w_7 ?_;refine ⟨.inr rfl, ?_⟩
  have he:mvE n l a b (m.getD i default) = (0,[],1):=if_neg (by simp_all)
  exact f9 rfl rfl (by rw [he];exact ⟨CoC.agg ⟨CoP.refl _,dv,trivial⟩,CoC.refl _,trivial⟩)
 have h0:=r0
 have h0:=ar h0
 refine w_2 ?_;refine bg (E:=bj) a7 aw [0,1,2,3,4,5,6,7,8,9,10,11,12,13] ?_;refine w_8 ?_
 refine rc rfl rfl rfl rfl rfl rfl ajn (as8 (l.getD a default) (l.getD b default) ((m.getD i default).lhs ||| (m.getD i default).rhs) (by omega) (by omega)) (⟨CoC.refl _,CoC.refl _,cci (by rw [bOr];rfl),trivial⟩) rfl rfl ?_
 refine qcx az9 (bbf n l (fw (l.getD a default) (l.getD b default) ((m.getD i default).lhs ||| (m.getD i default).rhs)) hbig (by omega)) ?_;refine w_5 ?_;refine ⟨by kernel_rfl, ?_⟩;refine go ?_;refine ⟨.inr rfl, ?_⟩
 have he:mvE n l a b (m.getD i default) = ss n l (fw (l.getD a default) (l.getD b default) ((m.getD i default).lhs ||| (m.getD i default).rhs)):=if_pos (by simp_all)
 exact f9 rfl rfl (by rw [he];exact CoL.refl _)
end
end Go.Hx

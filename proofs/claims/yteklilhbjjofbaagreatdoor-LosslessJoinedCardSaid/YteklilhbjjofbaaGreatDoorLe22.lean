/- A part of the proof: SrZ Ch5 X6 X7 Ch6 X9 X10 Ch7 X11 Ch8 X12. -/
import Derived.Shelf.SlSortCmp.NoneTotal
import Derived.Test.YteklilhbjjofbaaGreatDoorLe20
import Derived.Test.YteklilhbjjofbaaGreatDoorLe21
set_option linter.all false
set_option maxRecDepth 100000
set_option maxHeartbeats 1000000
namespace Go.Hx
section
open Go.Proofs Go.RowKit Go.Sort
section
variable {w:World}
def adw {w':World} (h:Below w.heap.size w w'):∃ q os,w' = grow (w.drewN q) os:=by
 refine ⟨w'.drawn - w.drawn,w'.heap.extract w.heap.size w'.heap.size, ?_⟩;have hd:=h.drawn;obtain ⟨h1,h2,h3,h4,h5,_⟩:=h
 cases w with
 | mk hp tp dr os out =>
 cases w' with
 | mk hp' tp' dr' os' out' =>
 dsimp only at *;subst h1 h2 h3;unfold grow World.drewN;simp only [World.mk.injEq,true_and,and_true];refine ⟨?_,by omega⟩;apply Array.ext_getElem?;intro k;rw [Array.getElem?_append];by_cases hk:k < hp.size
 · rw [if_pos hk,h5 k hk]
 rw [if_neg hk,Array.getElem?_extract];by_cases hk2:k < hp'.size
 · rw [if_pos b5h]
   congr 1;omega
 rw [if_neg b5h,b4a b5h]
variable {os:Array Obj} {α:Type} {d:Array α} {enc:α -> Value}
def adb [Inhabited α] {g m:Nat} {cur:Array Value} {e:TypeId} {fr:Nat × Nat} (h:w.heap[g]? = some (.cells cur e fr)):
 (sortWorld enc w g 0 m d os).heap[g]? = some (.cells (putCells enc 0 d cur) e fr):=by
 have hlt:=(b2m.1 h).1;unfold sortWorld;rw [heap_grow_old _ _ (by simpa using hlt)];unfold putRow mapBlock;simp only [heap_ahead,b5f,if_true,h];rfl
def vn [Inhabited α] {g m:Nat} {b:Nat} (hb:b < w.heap.size) (hne:b ≠ g):(sortWorld enc w g 0 m d os).heap[b]? = w.heap[b]?:=by
 unfold sortWorld;rw [heap_grow_old _ _ (by simpa using hb)];unfold putRow mapBlock;simp only [heap_ahead,b5f,if_neg (Ne.symm hne)]
def ado [Inhabited α] {g m:Nat}:Below 0 w (sortWorld enc w g 0 m d os) :=
 ⟨rfl,rfl,rfl,by unfold sortWorld;simp,fun k hk=>absurd hk (b2o k),by unfold sortWorld grow;simp⟩
def ahn [Inhabited α] {cur:Array Value} (h:d.size <= cur.size):(putCells enc 0 d cur).toList.take d.size = d.toList.map enc:=by
 apply b4s;intro k;rw [b3d,b32,b46,b46];by_cases hk:k < d.size
 · rw [if_pos hk]
   unfold putCells;rw [Array.getElem?_mapIdx,b3e b5h,b3e hk];simp only [b31,b30,b57];rw [if_pos ⟨b2n _,hk⟩,getElem!_pos d k hk]
 rw [if_neg hk,b4a b5h];rfl
def agy {P:Program} {ρ:Go.Shelf.Ren} {β:Type} [Inhabited β] (L:SlLaysF.n6 P ρ) (pc:β -> PV) (h1:∀ imm x v,ag imm (pc x) v -> v.oneCell' = true) (cf:β -> β -> Int) (hO:SWO (ltOf cf)) (hT:∀ x y,(ltOf cf) x y = false -> (ltOf cf) y x = false -> x = y)
 (g:Nat) (caps:Nat -> PV) (hg:∀ args w,(callFunc g args).run P w = .ok (.enter g args) w) (hc:∀ x y,aa P g [.one (pc x), .one (pc y)] (af [.one (.raw (.int .i64 (cf x y)))])) (id:Nat) (e:TypeId) (l:List β) (hsz:l.length <= 8589934592) :
 ci P (ρ.f 6) [.one (.ref id l.length), .one (.p (.fn g 0 caps))] [(id, .arr true 1 e l.length (lf (fun x _=>pc x) l))] (.tup [])
  [(id, .arr true 1 e l.length (lf (fun x _=>pc x) (l.mergeSort fun x y=>!(ltOf cf) y x)))] [id]:=by
 intro w c us hM hus
 match us,hus with
 | [u,v],⟨hu,hv,_⟩ =>
  obtain ⟨cs,rfl,hcl,_⟩:=hv;have hcs:cs = []:=b3z hcl;subst hcs;have hl1:lk [(id,a6.arr true 1 e l.length (lf (fun x _=>pc x) l))] id = some (.arr true 1 e l.length (lf (fun x _=>pc x) l)):=by simp [lk]
  have hu2:=(hu.2.2 _ _ _ _ hl1 rfl).2 rfl;subst hu2;have hob:=hM.objs id _ hl1;obtain ⟨h0,hmax,h5⟩:=hob;have hlen:(l.mergeSort fun x y=>!(ltOf cf) y x).length = l.length:=b5g _
  have hev:∀ f':Nat -> Nat -> PV,Evo c (lk [(id,a6.arr true 1 e l.length (lf (fun x _=>pc x) l))]) c (lk [(id,a6.arr true 1 e l.length f')]) id:=fun f' =>
   .inr (.inr ⟨_, .arr true 1 e l.length f',1,e,l.length,l.length,hl1,rfl,by simp [lk],rfl,b2j _,fun _=>rfl,fun _ _ _ _ _ _ _ h=>by cases h⟩)
  rcases b3t l.length with hz | hpos
  ·
   have hl:l = []:=b3z hz;subst hl
   have hform:∃ ad cap,c.own id = .slice ad 0 cap:=by
    rcases h5 with ⟨_,xs,h2,_⟩ | ⟨_,_,ad,cap,hv,_⟩
    · rcases h2.2 with ⟨hv,_⟩ | ⟨g,cap,cur,hv,_⟩
      · exact ⟨none,0,hv⟩
      exact ⟨_,cap,hv⟩
    exact ⟨ad,cap,hv⟩
   obtain ⟨ad,cap,hown⟩:=hform;have hms:([]:List β).mergeSort (fun x y=>!(ltOf cf) y x) = []:=by simp
   rw [hown,hms];refine (AnyF.slices_SortFunc_none { L with } ad cap (.func (.func g) #[] #[]) w).mono ?_;rintro e' w' ⟨rfl,rfl⟩
   exact ⟨_,c,rfl,⟨[],rfl,trivial⟩,hM,Below.refl _ _,fun _ _ _=>⟨rfl,rfl⟩,fun id0 ob b ho hb=>.inr ⟨id0,ob,ho,hb⟩,fun id0 hid=>by
    rw [b2u.1 hid]
    exact Evo.refl _ _ _⟩
  obtain ⟨h6,xs,h2,h4⟩:c.blk id = fh (c.own id) /\ ∃ xs,w.ownsRow 0 e 1 (c.own id) l.length xs /\ ∀ i j,i < l.length -> j < 1 -> ∃ x,xs[i * 1 + j]? = some x /\ ag c.imm (lf (fun x _=>pc x) l i j) x:=by
   rcases h5 with h5 | ⟨h6 | h6,_⟩
   · exact h5
   · cases h6
   omega
  obtain ⟨hxl,hrow⟩:=h2
  rcases hrow with ⟨_,hz⟩ | ⟨b,cap,cur,hown,hbase,hheap,hnc,hcm,hcs,htake⟩
  · omega
  have hblk:c.blk id b:=by rw [h6,hown];rfl
  have hlt:b < w.heap.size:=(b2m.1 hheap).1
  have hval:∀ i,i < l.length -> ∃ x,cur[i]? = some x /\ ag c.imm (pc (l.getD i default)) x:=fun i hi=>by
   obtain ⟨x,hx,hr⟩:=h4 i 0 hi b5h;rw [Nat.mul_one,b49,<- htake,b3d,if_pos b5h,b46] at hx;exact ⟨x,hx,hr⟩
  let A:={ p:β × Value // ag c.imm (pc p.1) p.2 }
  let enc:A -> Value:=fun p=>p.1.2
  let fst:A -> β:=fun p=>p.1.1
  let cf':A -> A -> Int:=fun p q=>cf (fst p) (fst q)
  have hO':SWO (ltOf cf'):=⟨fun x=>hO.irrefl _,fun x y z=>hO.trans _ _ _,fun x y z=>hO.ntrans _ _ _⟩
  obtain ⟨d,hds,hdv⟩:∃ d:Array A,d.size = l.length /\ ∀ i,(hi:i < d.size) -> cur[i]? = some (enc d[i]) /\ fst d[i] = l.getD i default:=by
   refine ⟨Array.ofFn (n:=l.length) fun i=>⟨(l.getD i default,(hval i i.2).choose),(hval i i.2).choose_spec.2⟩,by simp,fun i hi=>?_⟩;rw [Array.getElem_ofFn];exact ⟨(hval i (by simpa using hi)).choose_spec.1,rfl⟩
  have hd0:0 < d.size:=by omega
  haveI:Inhabited A:=⟨d[0]⟩;have hen:∀ x:A,(enc x).oneCell' = true:=fun x=>h1 _ _ _ x.2
  have hH:Holds enc w b 0 d:=fun j hj=>by
   rw [b30];refine ⟨?_,by simp [World.frozen?,hheap]⟩;rw [getElem!_pos d j hj];simp [World.cell?,hheap,(hdv j hj).1]
  have hcmp:CmpLays1 P g #[] enc cf' b 0 d.size w:=by
   intro m os dk hdk x y
   have hcimm:∀ b' ob,c.imm b' = some ob -> (sortWorld enc w b 0 m dk os).heap[b']? = some ob:=fun b' ob hb'=>by
    have hne:b' ≠ b:=fun he=>by
     have:=hM.sep id _ b hl1 hblk;rw [<- he,hb'] at this;cases this
    have hw:=hM.imm b' ob hb';rw [vn (b2m.1 hw).1 hne];exact hw
   have h:=hc (fst x) (fst y) (sortWorld enc w b 0 m dk os) c.imm [enc x,enc y] c.tab hcimm ⟨x.2,y.2,trivial⟩;refine h.mono ?_;rintro e' w' ⟨v,imm',rfl,hr,_,_,hb⟩;obtain ⟨q,os',hq⟩:=adw hb;exact ⟨by rw [hr.1],q,os',hq⟩
  have hS:=Any.slices_SortFunc L enc hen cf' hO' g #[] b 0 cap d w hg hcmp hH hlt b5h;rw [hds] at hS;rw [hown];refine Calls.mono hS ?_;rintro e' w' ⟨rfl,d',m,os,hperm,hsorted,rfl⟩;have hsz':d'.size = l.length:=by rw [hperm.1,hds]
  obtain ⟨S,hSl,hSp⟩:∃ S:List A,S = d'.toList /\ S.map fst = l.mergeSort fun x y=>!(ltOf cf) y x:=by
   refine ⟨_,rfl, ?_⟩
   have hp:(d'.toList.map fst).Perm l:=by
    obtain ⟨_,_,hp⟩:=hperm;have e1:d'.extract 0 l.length = d':=by rw [<- hsz'];exact Array.extract_size
    have e2:d.extract 0 l.length = d:=by rw [<- hds];exact Array.extract_size
    rw [e1,e2] at hp;refine (hp.map fst).trans ?_
    have:d.toList.map fst = l:=by
     refine gh (by simp [hds]) fun j hj=>?_;have hj:j < d.size:=by simpa using hj
     rw [<- (hdv j hj).2,b2i,b32,b46,b3e hj];rfl
    rw [this]
   refine List.Perm.eq_of_pairwise (le:=fun x y=>(!(ltOf cf) y x) = true) ?_ ?_ ?_ (hp.trans (List.mergeSort_perm _ _).symm)
   · intro a b _ _ h1 h2
     simp only [b3k] at h1 h2;exact hT a b h2 h1
   · rw [List.pairwise_map,b4b]
     intro i j hi hj hij;have hi':i < d'.size:=by simpa using hi
     have hj':j < d'.size:=by simpa using hj
     have:=hsorted i j (b2n _) hij b5h;rw [getElem!_pos d' j hj',getElem!_pos d' i hi'] at this;simp only [Array.getElem_toList,b3k];exact this
   refine List.pairwise_mergeSort ?_ ?_ _
   · intro a b c h1 h2
     simp only [b3k] at h1 h2 ⊢;exact hO.ntrans c b a h2 h1
   intro a b
   cases h:(ltOf cf) b a with
   | false=>simp
   | true=>simp [hO.asymmA h]
  obtain rfl:d' = S.toArray:=by rw [hSl]
  rw [<- hSp] at hlen ⊢;rw [b3v] at hlen
  refine ⟨_,c,rfl,⟨[],rfl,trivial⟩,⟨fun id0 ob ho=>?_,fun id0 id1 ob0 ob1 b' ho0 ho1 _ _=>(lx ho0).1.trans (lx ho1).1.symm,fun b' ob hb'=>?_,fun id0 ob b' ho hb'=>?_⟩,ado,
   fun b' hb' hno=>⟨vn hb' (fun he=>hno id _ hl1 (by rw [he];exact hblk)),rfl⟩,fun id0 ob b' ho hb'=>.inr ⟨id,_,hl1,by rw [<- (lx ho).1];exact hb'⟩,fun id0 hid=>by
    rw [b2u.1 hid]
    exact hev _⟩
  · obtain ⟨rfl,rfl⟩:=lx ho
    refine ⟨h0,hmax, .inl ⟨h6,S.map enc,⟨by simp [hlen], .inr ⟨b,cap,putCells enc 0 S.toArray cur,hown,hbase,adb hheap,hnc,hcm,by simpa [putCells] using hcs, ?_⟩⟩,fun i j hi hj=>?_⟩⟩
    · have:=ahn (enc:=enc) (d:=S.toArray) (cur:=cur) (by rw [b3f,hlen,hcs];omega)
      rw [b3f,hlen] at this;rw [Nat.mul_one];exact this
    obtain rfl:j = 0:=by omega
    have hi':i < S.length:=by rw [hlen];exact hi
    refine ⟨enc S[i], ?_, ?_⟩
    · rw [Nat.mul_one,b49,b32,b2h hi']
      rfl
    show ag c.imm (pc ((S.map fst).getD i default)) _;rw [b2i,b32,b2h hi'];exact S[i].2
  · have hne:b' ≠ b:=fun he=>by
     have:=hM.sep id _ b hl1 hblk;rw [<- he,hb'] at this;cases this
    have hw:=hM.imm b' ob hb';rw [vn (b2m.1 hw).1 hne];exact hw
  have:=(lx ho).1;subst this;exact hM.sep id0 _ b' hl1 hb'
 | [],h=>exact h.elim
 | [_],⟨_,h⟩=>exact h.elim
 | _ :: _ :: _ :: _,⟨_,_,h⟩=>exact h.elim
end
end
section
open Go.Proofs Go.RowKit Go.Sort
structure CpZ (l:List Rw) (k p q:Nat) (m:List Rw):Prop where
 len:m.length = l.length
 kq:k < q
 pq:p < q
 ql:q <= l.length
 pre:m.take p = jb (l.take q)
 high:∀ j,q - 1 <= j -> m.getD j default = l.getD j default
section
variable {k:Nat} {l:List Rw}
theorem CpZ.start (h1:1 <= k) (hk:k < l.length) (h:∀ j,0 < j -> j < k -> ¬ l.getD j default = l.getD (j - 1) default) (hd:l.getD k default = l.getD (k - 1) default):CpZ l k k (k + 1) l :=
 ⟨rfl,by omega,by omega,by omega,by rw [ge b5h hk,if_pos hd.symm,b3i,oi b5h h],fun _ _=>rfl⟩
theorem CpZ.skip {p q:Nat} {m:List Rw} (h:CpZ l k p q m) (hq:q < l.length) (he:m.getD q default = m.getD (q - 1) default):CpZ l k p (q + 1) m:=by
 have hk:=h.kq;refine ⟨h.len,by omega,by have:=h.pq;omega,hq, ?_,fun j hj=>h.high j b5h⟩;rw [h.high q b5h,h.high (q - 1) b5h] at he;rw [ge b5h hq,if_pos he.symm,b3i,h.pre]
theorem CpZ.keep {p q:Nat} {m:List Rw} (h:CpZ l k p q m) (hq:q < l.length) (he:¬ m.getD q default = m.getD (q - 1) default):CpZ l k (p + 1) (q + 1) (m.set p (m.getD q default)):=by
 have hk:=h.kq;have hp:=h.pq;have hl:=h.len;refine ⟨by simp [hl],by omega,by omega,hq, ?_,fun j hj=>by rw [getD_set_ne' b5h];exact h.high j b5h⟩;have e:=h.high q b5h;rw [e,h.high (q - 1) b5h] at he;rw [ge b5h hq,if_neg (fun e=>he e.symm),<- h.pre,bf (by simp [hl];omega),f4 b5h,e];congr 1;rw [List.take_set,b58 b5v]
def abj (hk:l.length <= k) (h:∀ j,0 < j -> j < k -> ¬ l.getD j default = l.getD (j - 1) default):CoP (.sl l.length 1 false (lf rC l)) (rl (jb l)):=by
 have:=oi (b2j l.length) fun j h1 h2=>h j h1 b5h;rw [b3w] at this;rw [this];exact CoP.refl _
variable {a:Nat}
def ans {m:List Rw} {p q n d:Nat} {cl:Bool} {z:List Value} (hC:CpZ l k p q m) (hq:¬ q < l.length) (ha:p <= a):CoP (.sl (fu (bo n (some (p:Int))) none) 1 cl (ns (nx (lf rC m) a d z) none)) (rl (jb l)):=by
 have e:=hC.pre;have h1:=hC.ql;have h2:=hC.len;have h3:=hC.pq;rw [show q = l.length by omega,b3w] at e;have el:(jb l).length = p:=by rw [<- e];simp;omega
 exact apo (by rw [el];rfl) rfl b5h (by rw [el,e])
def xe:∀ {l:List Rw} {p:Option Rw},l.Pairwise (fun a b=>ltZ b a = false) -> (∀ x,p = some x -> ∀ y ∈ l,ltZ y x = false) -> (ip p l).Pairwise (fun a b=>ltZ a b = true) /\ ∀ x,p = some x -> ∀ y ∈ ip p l,ltZ x y = true
 | [],p,_,_=>⟨by simp [ip],fun x _ y hy=>by simp [ip] at hy⟩
 | z :: l,p,h,hp=>by
  obtain ⟨h1,h2⟩:=b3h.1 h;simp only [ip];split
  · rename_i e
    subst e;exact xe h2 fun x hx y hy=>hp x hx y (b38 _ hy)
  rename_i hne
  obtain ⟨q1,q2⟩:=xe (p:=some z) h2 fun x hx y hy=>by
   simp only [b2g] at hx;subst hx;exact h1 y hy
  refine ⟨b3h.2 ⟨fun y hy=>q2 z rfl y hy,q1⟩,fun x hx y hy=>?_⟩
  have hxz:ltZ x z = true:=by
   have h3:=hp x hx z b3u
   rcases wj (a:=x) (b:=z) (fun e=>hne (by rw [hx,e])) with h4 | h4
   · exact h4
   rw [h3] at h4;cases h4
  rcases b2s.1 hy with rfl | hy
  · exact hxz
  exact jf hxz (q2 z rfl y hy)
variable {a' b':Nat}
def a0n {b:Nat} (h:l.getD a' default = l.getD b' default) (ha:a' = a) (hb:b' = b):l.getD a default = l.getD b default:=by subst ha hb;exact h
def a18 {b:Nat} (h:¬ l.getD a' default = l.getD b' default) (ha:a' = a) (hb:b' = b):¬ l.getD a default = l.getD b default:=by subst ha hb;exact h
def a5q {b:Nat} (h:decide (l.getD a' default = l.getD b' default) = true) (ha:a' = a) (hb:b' = b):l.getD a default = l.getD b default:=a0n (of_decide_eq_true h) ha hb
def a71 {b:Nat} (h:decide (l.getD a' default = l.getD b' default) = false) (ha:a' = a) (hb:b' = b):¬ l.getD a default = l.getD b default:=a18 (of_decide_eq_false h) ha hb
def qj {a b:Rw}:ltOf ln a b = ltZ a b:=by
 rw [Bool.eq_iff_iff];show decide (ln a b < 0) = true <-> _;rw [decide_eq_true_iff];exact xf
def aj1 {x y z:Rw} (h:ltZ x y = false) (k:ltZ y z = false):ltZ x z = false:=by
 rw [b33];intro e;by_cases hyz:y = z
 · subst hyz;rw [h] at e;cases e
 rcases wj hyz with h2 | h2
 · rw [k] at h2;cases h2
 rw [jf e h2] at h;cases h
def anr:SWO (ltOf ln) where
 irrefl x:=by rw [qj];exact ov x
 trans x y z h k:=by rw [qj] at *;exact jf h k
 ntrans x y z h k:=by rw [qj] at *;exact aj1 h k
def srZ (l:List Rw):List Rw:=l.mergeSort fun x y=>!ltZ y x
def apb {x:Rw}:x ∈ srZ l <-> x ∈ l:=by unfold srZ;exact List.mem_mergeSort
def ae4 (l:List Rw):(srZ l).length = l.length:=b5g _
def ale (l:List Rw):jb (srZ l) = au l:=by
 refine ab2 (xe ?_ fun x hx=>by cases hx).1 fun z=>by rw [a2s,apb]
 have h:=List.pairwise_mergeSort (le:=fun x y:Rw=>!ltZ y x) (fun a b c h k=>by
  simp only [b3k] at *
  exact aj1 k h) (fun a b=>by
  simp only [b3s,b3k];by_cases e:ltZ b a = true
  · right
    rw [b33];intro e2;have:=jf e e2;rw [ov] at this;cases this
  left
  exact b33.2 e) l
 refine h.imp fun {a b} hab=>?_;simpa using hab
def arj {r:Rw} (h:(l.any fun x=>decide (x = r)) = false):r ∉ l:=fun e=>by
 rw [b3x] at h;exact h r e (decide_eq_true rfl)
def ase:Go.Hx.goodFn b65 135:=⟨Tryz.f135,Tryz.func135,by kernel_rfl,by kernel_rfl⟩
def b5w {p:Prop} (h:p:=by kernel_rfl):p:=h
def av2 (id:Nat) (caps:Nat -> PV) (l:List Rw) (hsz:l.length <= 8589934592):ci b65 135 [.one (.ref id l.length), .one (.p (.fn 136 0 caps))] [(id, .arr true 1 97 l.length (lf rC l))] (.tup [])
 [(id, .arr true 1 97 l.length (lf rC (srZ l)))] [id]:=by
 have h:=agy Tryz.laysSortZ (fun r:Rw=>zl r) (fun imm x v hr=>by obtain ⟨ad,cap,h1,_⟩:=hr;rw [h1];rfl) ln anr (fun x y h k=>by
  rw [qj] at h k;apply Classical.byContradiction;intro hne
  rcases wj hne with h2 | h2
  · rw [h] at h2;cases h2
  rw [k] at h2;cases h2) 136 caps (enters_of Tryz.func136 b5w rfl) (fun x y=>aod x y) id 97 l hsz
 have e:(fun x y:Rw=>!(ltOf ln) y x) = fun x y=>!ltZ y x:=by
  funext x y;rw [qj]
 rw [e] at h;exact h
end
end
section
open Go.Proofs
section
variable {p:Prop}
def b5m (h:p:=by first | rfl | (dsimp only;omega)):p:=h
def b5q (h:p:=by first | rfl | (dsimp only; omega)):p:=h
def b5s (h:p:=by simp only [bo]; omega):p:=h
def b5t (h:p:=by simp only [bo];omega):p:=h
def at8 (l:List Rw):ci b65 137 [.one (.ref 900 l.length), .one (.p (.fn 89 0 fun _=>.any))] [(900, .arr true 1 97 l.length (lf rC l))] (.v (.one (.p (rl (jb l))))) [] []:=by
 refine hfx (nt:=66) Tryz.func137 ?_;refine dn ?_;refine afr 900 rfl fun hlen=>?_;refine dy ?_;refine hcd (fun h0=>?_) (fun h0=>?_)
 · refine w_5 ?_;refine cz 4 rfl rfl rfl ?_;refine hrr ?_;exact ⟨_,_,rfl,b5j,abj (k:=l.length) (b2j _) (fun j h1 h2=>by omega),trivial⟩
 refine w_7 ?_;refine ai (ι:=Nat) (ka 0 (ka 1 kn)) (kb 900 km) (fun k=>⟨[(5,some (vI k))],[]⟩) (fun k=>1 <= k /\ k <= l.length /\ ∀ j,0 < j -> j < k -> ¬ l.getD j default = l.getD (j - 1) default) (fun k=>l.length - k) (1) (⟨b2j _,by omega,fun j h1 h2=>by omega⟩) kk ?_;rintro k ⟨hk1,hk,hI⟩;refine w_8 ?_;refine hcd (fun h1=>?_) (fun h1=>?_)
 ·
  refine tk ?_;refine qcx abt (aln _ _) ?_;refine w_2 ?_;refine hcb (fun h2=>?_) (fun h2=>?_)
  ·
   refine j3 ?_;refine ai (ι:=Nat × Nat × List Rw) (ka 0 (ka 1 (ka 6 kn))) km (fun x=>⟨[(5,some (vI x.1)),(7,some (vI ((x.2.1:Int) - k)))],[(900,some (.arr true 1 97 l.length (lf rC x.2.2)))]⟩) (fun x=>CpZ l k x.1 x.2.1 x.2.2) (fun x=>l.length - x.2.1) ((k,k + 1,l)) (CpZ.start hk1 b5h hI (by first | exact a0n b5i rfl b5h | exact a5q b5i rfl b5h)) ⟨⟨zy,⟨_,rfl,(coi b5m)⟩,trivial⟩,uu⟩ ?_;rintro ⟨p,q,m⟩ hC;have hC0:=hC;obtain ⟨hml,hkq,hpq,hql,_,_⟩:=hC0;dsimp only at hC hml hkq hpq hql;refine w_8 ?_;refine hcd (fun h3=>?_) (fun h3=>?_)
   ·
    simp only [fu,bo,b41] at h3;refine tk ?_;refine qcx abt (aln _ _) ?_;refine w_3 ?_;refine hcv (fun h4=>?_) (fun h4=>?_)
    ·
     refine age ?_
     first | (refine lpz (p + 1, q + 1, m.set p (m.getD q default)) ⟨⟨⟨_, rfl, (coi b5q)⟩, ⟨_, rfl, (coi b5q)⟩, tt⟩, ⟨⟨_, rfl, (aek id hml.symm b5h (by dsimp only; omega) b5s)⟩, trivial⟩⟩ ?_; exact hC.keep b5h (by first | exact a18 b5i b5s b5s | exact a71 b5i b5s b5s))
           | (refine lpz (p,q + 1,m) ⟨⟨⟨_,rfl,(coi b5m)⟩,⟨_,rfl,(coi b5m)⟩,tt⟩,uu⟩ ?_;exact hC.skip b5h (by first | exact a0n b5i b5t b5t | exact a5q b5i b5t b5t))
    refine w_6 ?_
    first | (refine lpz (p + 1, q + 1, m.set p (m.getD q default)) ⟨⟨⟨_, rfl, (coi b5q)⟩, ⟨_, rfl, (coi b5q)⟩, tt⟩, ⟨⟨_, rfl, (aek id hml.symm b5h (by dsimp only; omega) b5s)⟩, trivial⟩⟩ ?_; exact hC.keep b5h (by first | exact a18 b5i b5s b5s | exact a71 b5i b5s b5s))
          | (refine lpz (p,q + 1,m) ⟨⟨⟨_,rfl,(coi b5m)⟩,⟨_,rfl,(coi b5m)⟩,tt⟩,uu⟩ ?_;exact hC.skip b5h (by first | exact a0n b5i b5t b5t | exact a5q b5i b5t b5t))
   simp only [fu,bo,b41] at h3;refine w_6 ?_;refine r9 0 true ?_;refine w_5 ?_;refine atw rfl rfl rfl rfl rfl ?_;refine w_2 ?_;refine hrr ?_;exact ⟨_,_,rfl,b5j,ans hC b5h (by simp [bo]),trivial⟩
  refine w_6 ?_;refine lpz (k + 1) kk ?_;refine ⟨by omega,by show k + 1 <= _;omega,fun j h1 h2=>?_⟩
  rcases b5c (Nat.le_of_lt_succ h2) with h | h
  · exact hI j h1 h
  subst h
  first | exact a18 b5i rfl b5h | exact a71 b5i rfl b5h
 refine w_6 ?_;refine cz 4 rfl rfl rfl ?_;refine hrr ?_;exact ⟨_,_,rfl,b5j,abj (k:=k) b5h hI,trivial⟩
end
end
section
open Go.Proofs
def acm:goodFn b65 94:=wgx Tryz.func94
def a6u (n:Int) (l:List Rw) (hl:l.length <= 8589934592):ci b65 94 [.agg [.p (.raw (.int .i64 n)), .ref 900 l.length]] [(900, .arr true 1 97 l.length (lf rC l))] (.v (.agg [.p (.raw (.int .i64 n)), .p (rl (au l))])) [] []:=by
 refine hfx (nt:=11) Tryz.func94 ?_;refine sx7 ?_;refine m9 0 ?_;refine m9 1 ?_;refine w_5 ?_;refine fc9 ase (av2 900 _ l hl) uu ?_;refine w_5 ?_;refine gl rfl rfl rfl rfl rfl rfl (wgx Tryz.func137) (at8 (srZ l)) (⟨congrArg (HV.ref 900) (ae4 l).symm,CoP.refl _,trivial⟩) ⟨⟨_,rfl,ae1 rfl (ae4 l).symm⟩,trivial⟩ rfl rfl ?_;refine w_8 ?_;refine hrr ?_;exact ⟨_,_,rfl,b5j,CoR.of_eq (by rw [<- ale];rfl),trivial⟩
end
section
abbrev nM (l:List Rw):Nat -> Nat:=fun i=>(l.getD i default).length
abbrev du (l:List Rw):Nat -> Nat -> Int:=fun i r=>(l.getD i default).getD r default
abbrev mg (M:Nat -> Nat -> Int):Nat -> Nat -> Nat -> PV:=fun i r _=>.raw (.int .i64 (M i r))
section
variable {e et:TypeId} {i k:Nat}
def aji {l:List Rw} {f:Nat -> Nat -> PV} (hk:k = (l.getD i default).length) (hf:f = lf zC (l.getD i default)):
 CoO (.nest e et 1 (i + 1) (oc (nM l) i k) (qc (mg (du l)) i f) none) (.nest e et 1 (i + 1) (nM l) (mg (du l)) none):=by
 subst hk hf
 have hm:∀ j,oc (nM l) i (l.getD i default).length j = nM l j:=fun j=>by
  by_cases h:j = i
  · subst h;rw [a6x]
  rw [x8 h]
 refine ⟨rfl,rfl,rfl,rfl,rfl,fun j _=>(hm j).symm,fun j r c hj hr hc=>CoP.of_eq ?_⟩;by_cases h:j = i
 · subst h
   rw [afb];rfl
 rw [acq h]
abbrev hiI (x y:Int):Int:=if x < y then y else x
abbrev loI (x y:Int):Int:=if y < x then y else x
def jn (M:Nat -> Nat -> Int) (hi lo:Int) (i k:Nat):Nat -> Nat -> Int:=fun i' r=>if (i' < i \/ (i' = i /\ r < k)) /\ M i' r = hi then lo else M i' r
def eqM (M:Nat -> Nat -> Int) (a b j:Nat):Nat -> Nat -> Int:=fun i r=>if M i r = hiI (M a j) (M b j) then loI (M a j) (M b j) else M i r
def eqMs (M:Nat -> Nat -> Int) (a b:Nat) (js:List Nat):Nat -> Nat -> Int:=js.foldl (fun M j=>eqM M a b j) M
def d9 (l:List Rw) (M:Nat -> Nat -> Int):List Rw:=(List.range l.length).map fun i=>(List.range (l.getD i default).length).map (M i)
def ld (l:List Rw) (M:Nat -> Nat -> Int):(d9 l M).length = l.length:=by unfold d9;simp
variable {M:Nat -> Nat -> Int}
def a7j {l:List Rw} (h:i < l.length):(d9 l M).getD i default = (List.range (l.getD i default).length).map (M i):=by
 unfold d9;rw [b2i,b32,b3j h];rfl
variable {hi lo:Int}
def aka:jn M hi lo 0 0 = M:=by
 funext i r;unfold jn;rw [if_neg b5h]
def aiv (h:jn M hi lo i k i k = hi):jn M hi lo i (k + 1) = fun i' r=>if i' = i /\ r = k then lo else jn M hi lo i k i' r:=by
 have h0:M i k = hi:=by
  unfold jn at h;rwa [if_neg b5h] at h
 funext i' r;unfold jn;by_cases e:i' = i /\ r = k
 · rw [if_pos e,if_pos ⟨.inr ⟨e.1,by omega⟩,by rw [e.1,e.2];exact h0⟩]
 rw [if_neg e];by_cases e2:(i' < i \/ (i' = i /\ r < k)) /\ M i' r = hi
 · rw [if_pos e2,if_pos ⟨e2.1.imp_right fun x=>⟨x.1,by omega⟩,e2.2⟩]
 rw [if_neg e2,if_neg fun e3=>e2 ⟨by omega,e3.2⟩]
def ahj (h:¬ jn M hi lo i k i k = hi):jn M hi lo i (k + 1) = jn M hi lo i k:=by
 have h0:¬ M i k = hi:=by
  unfold jn at h;rwa [if_neg b5h] at h
 funext i' r;unfold jn;by_cases e:i' = i /\ r = k
 · rw [if_neg (fun x=>h0 (by rw [<- e.1,<- e.2];exact x.2)),if_neg (fun x=>h0 (by rw [<- e.1,<- e.2];exact x.2))]
 by_cases e2:(i' < i \/ (i' = i /\ r < k)) /\ M i' r = hi
 · rw [if_pos e2,if_pos ⟨e2.1.imp_right fun x=>⟨x.1,by omega⟩,e2.2⟩]
 rw [if_neg e2,if_neg fun e3=>e2 ⟨by omega,e3.2⟩]
variable {M':Nat -> Nat -> Int} {m:Nat -> Nat} {n:Nat}
def af1 {i0 k0:Nat} {v:Int} (hM:M' = fun i' r=>if i' = i /\ r = k then v else M i' r) (hi:i0 = i) (hk:k0 = k):
 CoO (.nest e et 1 n m (lg (mg M) i0 k0 0 [.raw (.int .i64 v)]) none) (.nest e et 1 n m (mg M') none):=by
 subst hi hk hM;refine ⟨rfl,rfl,rfl,rfl,rfl,fun j _=>rfl,fun j r c hj hr hc=>CoP.of_eq ?_⟩;obtain rfl:c = 0:=by omega
 unfold lg;by_cases h:j = i0
 · rw [if_pos h]
   unfold da;by_cases h2:r = k0
   · rw [if_pos ⟨h2,by omega,by simp⟩]
     show _ = PV.raw (.int .i64 (if j = i0 /\ r = k0 then v else M j r));rw [if_pos ⟨h,h2⟩];rfl
   rw [if_neg (fun x=>h2 x.1)];show _ = PV.raw (.int .i64 (if j = i0 /\ r = k0 then v else M j r));rw [if_neg (fun x=>h2 x.2)]
 rw [if_neg h];show _ = PV.raw (.int .i64 (if j = i0 /\ r = k0 then v else M j r));rw [if_neg (fun x=>h x.1)]
def a2r (h:∀ i r,i < n -> r < m i -> M' i r = M i r):CoO (.nest e et 1 n m (mg M) none) (.nest e et 1 n m (mg M') none) :=
 ⟨rfl,rfl,rfl,rfl,rfl,fun _ _=>rfl,fun j r c hj hr hc=>CoP.of_eq (by show PV.raw (.int .i64 (M j r)) = PV.raw (.int .i64 (M' j r));rw [h j r hj hr])⟩
def ami (hk:¬ k < m i):∀ i' r,i' < n -> r < m i' -> jn M hi lo (i + 1) 0 i' r = jn M hi lo i k i' r:=fun i' r h1 h2=>by
 unfold jn;by_cases e2:(i' < i \/ (i' = i /\ r < k)) /\ M i' r = hi
 · rw [if_pos e2,if_pos ⟨by omega,e2.2⟩]
 rw [if_neg e2,if_neg fun e3=>e2 ⟨by
  rcases b56 i' i with h | h
  · exact .inl h
  right;obtain rfl:i' = i:=by omega
  exact ⟨rfl,by omega⟩,e3.2⟩]
def ab3 {a b j:Nat} (hn:¬ i < n):∀ i' r,i' < n -> r < m i' -> eqM M a b j i' r = jn M (hiI (M a j) (M b j)) (loI (M a j) (M b j)) i 0 i' r:=fun i' r h1 h2=>by
 unfold jn eqM;by_cases e2:M i' r = hiI (M a j) (M b j)
 · rw [if_pos e2,if_pos ⟨by omega,e2⟩]
 rw [if_neg e2,if_neg fun e3=>e2 e3.2]
def a32 {a b j:Nat} (h:M a j = M b j):eqM M a b j = M:=by
 funext i r;unfold eqM;have e1:hiI (M a j) (M b j) = M b j:=by unfold hiI;rw [if_neg b5h,h]
 have e2:loI (M a j) (M b j) = M b j:=by unfold loI;rw [if_neg b5h,h]
 rw [e1,e2];by_cases e:M i r = M b j
 · rw [if_pos e,e]
 rw [if_neg e]
def ue {a b:Nat} {js:List Nat} (h:i < js.length):eqMs M a b (js.take (i + 1)) = eqM (eqMs M a b (js.take i)) a b (js.getD i default):=by
 unfold eqMs;rw [bf h,b4t];rfl
def ahx (s:AS):(bc s).length <= 32:=b3m (List.length_filter_le _ _) b5k
def am6 {l:List Nat} {j:Nat} (h:j < l.length):l.getD j default ∈ l:=by
 rw [b2i,b2h h];exact b2q h
def aqx {l:List Rw} (hn:n = l.length):CoO (.arr true 1 e n (xj 1 (nM l) (mg M))) (.arr true 1 e (d9 l M).length (lf rC (d9 l M))):=by
 subst hn;refine ⟨fun h=>h,rfl,rfl,ld l M,fun i j hi hj=>?_⟩;show CoP (.sl (l.getD i default).length 1 false (mg M i)) (zl ((d9 l M).getD i default));rw [a7j hi];refine CoP.sl b5k (.inl rfl) (fun h=>h) fun r c hr hc=>CoP.of_eq ?_;show PV.raw (.int .i64 (M i r)) = PV.raw (.int .i64 (((List.range (l.getD i default).length).map (M i)).getD r default));rw [b2i,b32,b3j hr];rfl
end
end
section
open Go.Proofs
def al4 (n:Int) (l:List Rw) (hl:∀ i,i < l.length -> (l.getD i default).length <= 17592186044416) (hl2:l.length <= 5864062014805):ci b65 125 [.agg [.p (.raw (.int .i64 n)), .p (rl l)]] [] (.v (.agg [.p (.raw (.int .i64 n)), .ref 901 l.length])) [(901, .nest 97 3 1 l.length (nM l) (mg (du l)) none)] []:=by
 refine hfx (nt:=25) Tryz.func125 ?_;refine sx7 ?_;refine m9 0 ?_;refine m9 1 ?_;refine w_6 ?_;refine m9 2 ?_;refine w_2 ?_;refine a5o 2 1 901 97 3 1 (nM l) (mg (du l)) b5n rfl rfl rfl rfl ?_;refine w_9 ?_;refine c7 (ka 2 (ka 3 (ka 10 (ka 11 kn)))) (kb 1 km) (fun i=>⟨[(12,some (vI i))],[(2,some (.box [.p (.raw (.int .i64 n)), .ref 901 i])),(901,some (.nest 97 3 1 i (nM l) (mg (du l)) none))]⟩) l.length kk ?_;rintro i hi;refine w_5 ?_;refine hcd (fun h0=>?_) (fun h0=>?_)
 · refine j3 ?_;refine fc9 a6o ((a6f (l.getD i default).length false (lf zC (l.getD i default)) (hl i b5h)).swap 0 907) trivial ?_;refine m9 3 ?_;refine r9 4 true ?_;refine w_4 ?_;refine aik 901 907 rfl rfl ?_;refine w_4 ?_;exact lpx (i + 1) ⟨tt,⟨u9,⟨_,rfl,(aji rfl rfl)⟩,uu⟩⟩
 obtain rfl:i = l.length:=by omega
 refine w_6 ?_;refine hrr ?_;exact ⟨_,_,rfl,b5j,CoR.refl _,uu⟩
end
section
open Go.Proofs
def asc (n:Int) (l:List Rw) (s:AS) (a b:Nat) (hl:∀ i,i < l.length -> (l.getD i default).length <= 17592186044416) (hl2:l.length <= 8589934592) (ha:a < l.length) (hb:b < l.length) (hs:∀ j,j ∈ bc s -> ∀ i,i < l.length -> j < (l.getD i default).length):aa b65 130 [pT n l,pA s,pI (a:Int),pI (b:Int)] (af [pT n (au (d9 l (eqMs (du l) a b (bc s))))]):=by
 refine hpx (nt:=76) Tryz.func130 ?_;refine sx7 ?_;refine m9 0 ?_;refine m9 1 ?_;refine w_4 ?_;refine fc9 a6k (al4 n l hl b5h) trivial ?_;refine m9 2 ?_;refine w_6 ?_;refine qcx (wgx Tryz.func164) (azv s) ?_;refine w_4 ?_;refine c7 (ka 2 (ka 3 (ka 8 (ka 9 (ka 20 (ka 21 kn)))))) (kb 1 (kb 2 km)) (fun q=>⟨[(22,some (vI q))],[(901,some (.nest 97 3 1 l.length (fun i=>(l.getD i default).length) (mg (eqMs (du l) a b ((bc s).take q))) none))]⟩) ((bc s).length) kk ?_;rintro q hq;have hm32:=ahx s;refine w_5 ?_;refine hcd (fun h0=>?_) (fun h0=>?_)
 ·
  have hjm:((bc s).getD q default) ∈ bc s:=am6 b5h;have hja:=hs _ hjm a ha;have hjb:=hs _ hjm b hb;refine v2 ?_;refine rq rfl rfl rfl rfl rfl ?_ (hp:=(by (try simp only [b41,nM]);(repeat' apply And.intro) <;> first | trivial | rfl | omega | exact b2k rfl));refine w_7 ?_;refine rq rfl rfl rfl rfl rfl ?_ (hp:=(by (try simp only [b41,nM]);(repeat' apply And.intro) <;> first | trivial | rfl | omega | exact b2k rfl));refine su ?_;refine hcd (fun h1=>?_) (fun h1=>?_)
  ·
   refine w_5 ?_
   first | (refine lpz (q + 1) ⟨tt, ⟨⟨_, rfl, (by rw [ue b5h, a32 b5i]; exact CoO.refl _)⟩, uu⟩⟩ ?_; show q + 1 <= _; omega)
         | (refine lpz (q + 1) ⟨tt,⟨⟨_,rfl,(by rw [ue b5h];exact a2r (ab3 b5h))⟩,uu⟩⟩ ?_;show q + 1 <= _;omega)
  refine w_9 ?_;refine c7 (ka 2 (ka 3 (ka 8 (ka 9 (ka 12 (ka 13 (ka 20 (ka 21 (ka 22 (ka 46 (ka 47 kn))))))))))) (kb 1 (kb 2 km)) (fun i=>⟨[(48,some (vI i))],[(901,some (.nest 97 3 1 l.length (fun i=>(l.getD i default).length) (mg (jn (eqMs (du l) a b ((bc s).take q)) (hiI ((eqMs (du l) a b ((bc s).take q)) a ((bc s).getD q default)) ((eqMs (du l) a b ((bc s).take q)) b ((bc s).getD q default))) (loI ((eqMs (du l) a b ((bc s).take q)) a ((bc s).getD q default)) ((eqMs (du l) a b ((bc s).take q)) b ((bc s).getD q default))) i 0)) none))]⟩) l.length ⟨tt,⟨⟨_,rfl,(by rw [aka];exact CoO.refl _)⟩,trivial⟩⟩ ?_;rintro i hi;refine w_5 ?_;refine hcd (fun h2=>?_) (fun h2=>?_)
  ·
   have hli:=hl i b5h;refine vc ?_;refine c7 (ka 2 (ka 3 (ka 8 (ka 9 (ka 12 (ka 13 (ka 15 (ka 20 (ka 21 (ka 22 (ka 46 (ka 47 (ka 48 (ka 53 kn)))))))))))))) (kb 1 (kb 2 km)) (fun k=>⟨[(54,some (vI k))],[(901,some (.nest 97 3 1 l.length (fun i=>(l.getD i default).length) (mg (jn (eqMs (du l) a b ((bc s).take q)) (hiI ((eqMs (du l) a b ((bc s).take q)) a ((bc s).getD q default)) ((eqMs (du l) a b ((bc s).take q)) b ((bc s).getD q default))) (loI ((eqMs (du l) a b ((bc s).take q)) a ((bc s).getD q default)) ((eqMs (du l) a b ((bc s).take q)) b ((bc s).getD q default))) i k)) none))]⟩) ((l.getD i default).length) kk ?_;rintro k hk;refine w_5 ?_;refine hcd (fun h3=>?_) (fun h3=>?_)
   ·
    refine su ?_;(iterate 2 refine rq rfl rfl rfl rfl rfl ?_ (hp:=(by (try simp only [b41,nM]);(repeat' apply And.intro) <;> first | trivial | rfl | omega | exact b2k rfl)));refine w_5 ?_;refine hcd (fun h4=>?_) (fun h4=>?_)
    · refine w_6 ?_;refine rq rfl rfl rfl rfl rfl ?_ (hp:=(by (try simp only [b41,nM]);(repeat' apply And.intro) <;> first | trivial | rfl | omega | exact b2k rfl));refine rs rfl rfl rfl rfl rfl ?_ (hp:=(by (try simp only [b41,nM]);(repeat' apply And.intro) <;> first | trivial | rfl | omega | exact b2k rfl));refine w_5 ?_;exact lpx (k + 1) ⟨tt,⟨⟨_,rfl,(by first | exact af1 (aiv b5i) b5k b5k | (rw [ahj b5i];exact CoO.refl _))⟩,uu⟩⟩
    refine w_5 ?_;exact lpx (k + 1) ⟨tt,⟨⟨_,rfl,(by first | exact af1 (aiv b5i) b5k b5k | (rw [ahj b5i];exact CoO.refl _))⟩,uu⟩⟩
   refine w_5 ?_;exact lpx (i + 1) ⟨tt,⟨⟨_,rfl,(a2r (ami b5h))⟩,uu⟩⟩
  refine w_5 ?_
  first | (refine lpz (q + 1) ⟨tt, ⟨⟨_, rfl, (by rw [ue b5h, a32 b5i]; exact CoO.refl _)⟩, uu⟩⟩ ?_; show q + 1 <= _; omega)
        | (refine lpz (q + 1) ⟨tt,⟨⟨_,rfl,(by rw [ue b5h];exact a2r (ab3 b5h))⟩,uu⟩⟩ ?_;show q + 1 <= _;omega)
 obtain rfl:q = (bc s).length:=by omega
 refine w_2 ?_;refine aqs 901 rfl ?_;refine w_2 ?_;refine gl rfl rfl rfl rfl rfl rfl acm ((a6u n (d9 l (eqMs (du l) a b (bc s))) (by rw [ld];omega)).swap 900 901) (⟨⟨CoP.refl _,congrArg (HV.ref 901) (ld _ _).symm,trivial⟩,trivial⟩) ⟨⟨_,rfl,(by rw [b3w];exact aqx rfl)⟩,trivial⟩ rfl rfl ?_;refine v_2 ?_;exact CoL.refl _
end
section
def o5 (n:Int) (l:List Rw) (row:Rw):Int × List Rw × Int:=if 256 < (au (l ++ [row])).length then (0,[],3) else (n,au (l ++ [row]),0)
def c9 {s:Nat} {f:Nat -> Nat -> PV}:CoP (.sl 0 s true f) (rl []):=CoP.sl rfl (.inr rfl) (fun h=>by cases h) fun i j hi _=>absurd hi (b2o i)
def fdE (n:Int) (l:List Rw) (a b:Nat) (x:Fd):Int × List Rw × Int:=if jo (l.getD a default) (l.getD b default) x.lhs = true then (n,au (d9 l (eqMs (du l) a b (bc x.rhs))),0) else (0,[],1)
def mvE (n:Int) (l:List Rw) (a b:Nat) (x:Fd):Int × List Rw × Int:=if jo (l.getD a default) (l.getD b default) x.lhs = true then o5 n l (dw (l.getD a default) (l.getD b default) (x.lhs ||| x.rhs)) else (0,[],1)
def iw {n:Int} {l:List Rw} (h:tok n l = true):0 <= n /\ n <= 16 /\ l.length <= 256 /\ ∀ i,i < l.length -> (l.getD i default).length = n.toNat:=by
 unfold tok at h;rw [b2p,decide_eq_true_iff,decide_eq_true_iff] at h;obtain ⟨⟨h0,h1,h2⟩,h3⟩:=h;refine ⟨h0,h1,h2,fun i hi=>?_⟩;have:=h3 i hi;unfold kp at this;rw [b2p,b2p,decide_eq_true_iff] at this;omega
def a5u {n:Int} (h0:0 <= n) (h1:n <= 16) {x:Fd} (h:inU n x = true) {j:Nat} (hj:j ∈ bc x.rhs):j < n.toNat:=by
 obtain ⟨_,h3⟩:=(ar9 h0 h1).1 h;obtain ⟨h4,h5⟩:=zr.1 hj;have h6:x.rhs >>> n.toNat = 0:=(xb (n:=n.toNat) b5h).1 (by unfold b5 at h3;rwa [b3n b5h] at h3)
 rcases b56 j n.toNat with h | h
 · exact h
 rw [aup.1 h6 j h4 h] at h5;cases h5
end
section
open Go.Proofs
def az2 (n:Int) (l:List Rw) (row:Rw) (hl:∀ i,i < l.length -> (l.getD i default).length <= 17592186044416) (hl2:l.length <= 4294967296):aa b65 131 [pT n l,pZ row] (af [pT (o5 n l row).1 (o5 n l row).2.1,pI (o5 n l row).2.2]):=by
 refine hpx (nt:=23) Tryz.func131 ?_;refine sx7 ?_;refine m9 0 ?_;refine m9 1 ?_;refine w_5 ?_;refine fc9 a6k (aee n l hl b5h) trivial ?_;refine m9 2 ?_;refine w_7 ?_;refine m9 3 ?_;refine r9 4 true ?_;refine w_6 ?_;refine gl rfl rfl rfl rfl rfl rfl acm ((a6u n (l ++ [row]) b5v).swap 900 901) (⟨⟨CoP.refl _,congrArg (HV.ref 901) b5k,trivial⟩,trivial⟩) ⟨⟨_,rfl,ou rfl (CoP.refl _)⟩,trivial⟩ rfl rfl ?_;refine dy ?_;refine hcd (fun h0=>?_) (fun h0=>?_)
 · refine w_6 ?_;refine hrr ?_;have he:o5 n l row = (0,[],3):=if_pos b5h;exact f9 rfl rfl (by rw [he];exact ⟨CoC.agg ⟨CoP.refl _,c9,trivial⟩,CoC.refl _,trivial⟩)
 refine w_7 ?_;refine hrr ?_;have he:o5 n l row = (n,au (l ++ [row]),0):=if_neg b5h;exact f9 rfl rfl (by rw [he];exact CoL.refl _)
def acf:goodFn b65 91:=wgx Tryz.func91
def af8 (n:Int) (l:List Rw) (p m:List Fd) (i a b:Nat) (hT:tok n l = true) (ha:a < l.length) (hb:b < l.length) (hi:i < p.length) (hu:inU n (p.getD i default) = true):aa b65 91 [pT n l,pP (fdl p),pP (fdl m), .agg [.raw (.bool false), .raw (.int .i64 (i:Int)), .raw (.int .i64 (a:Int)), .raw (.int .i64 (b:Int))]] (af [pT (fdE n l a b (p.getD i default)).1 (fdE n l a b (p.getD i default)).2.1,pI (fdE n l a b (p.getD i default)).2.2]):=by
 refine hpx (nt:=75) Tryz.func91 ?_;refine dn ?_;obtain ⟨hn0,hn16,hl256,hrow⟩:=iw hT;have hra:=hrow a ha;have hrb:=hrow b hb;have hbig:∀ i,i < l.length -> (l.getD i default).length <= 17592186044416:=fun i hi=>by rw [hrow i hi];omega
 refine gy ?_;refine m9 0 ?_;refine m9 1 ?_;refine m9 2 ?_;refine aw0 ?_;refine w_7 ?_;refine qcx w3 (yj (l.getD a default) (l.getD b default) (p.getD i default).lhs b5h b5h) ?_;refine w_2 ?_;refine hcv (fun h0=>?_) (fun h0=>?_)
 · refine w_6 ?_;refine hrr ?_;have he:fdE n l a b (p.getD i default) = (0,[],1):=if_neg b5r;exact f9 rfl rfl (by rw [he];exact ⟨CoC.agg ⟨CoP.refl _,c9,trivial⟩,CoC.refl _,trivial⟩)
 refine z7 ?_;refine qcx (wgx Tryz.func130) (asc n l (p.getD i default).rhs a b hbig b5h ha hb (fun j hj i hi=>by rw [hrow i hi];exact a5u hn0 hn16 hu hj)) ?_;refine w_4 ?_;refine hrr ?_;have he:fdE n l a b (p.getD i default) = (n,au (d9 l (eqMs (du l) a b (bc (p.getD i default).rhs))),0):=if_pos b5r;exact f9 rfl rfl (by rw [he];exact CoL.refl _)
def af5 (n:Int) (l:List Rw) (p m:List Fd) (i a b:Nat) (hT:tok n l = true) (ha:a < l.length) (hb:b < l.length) (hi:i < m.length):aa b65 91 [pT n l,pP (fdl p),pP (fdl m), .agg [.raw (.bool true), .raw (.int .i64 (i:Int)), .raw (.int .i64 (a:Int)), .raw (.int .i64 (b:Int))]] (af [pT (mvE n l a b (m.getD i default)).1 (mvE n l a b (m.getD i default)).2.1,pI (mvE n l a b (m.getD i default)).2.2]):=by
 refine hpx (nt:=75) Tryz.func91 ?_;refine dn ?_;obtain ⟨hn0,hn16,hl256,hrow⟩:=iw hT;have hra:=hrow a ha;have hrb:=hrow b hb;have hbig:∀ i,i < l.length -> (l.getD i default).length <= 17592186044416:=fun i hi=>by rw [hrow i hi];omega
 refine gy ?_;refine m9 0 ?_;refine m9 1 ?_;refine m9 2 ?_;refine aw0 ?_;refine w_4 ?_;refine m9 3 ?_;refine w_9 ?_;refine qcx w3 (yj (l.getD a default) (l.getD b default) (m.getD i default).lhs b5h b5h) ?_;refine w_2 ?_;refine hcv (fun h0=>?_) (fun h0=>?_)
 · refine w_6 ?_;refine hrr ?_;have he:mvE n l a b (m.getD i default) = (0,[],1):=if_neg b5r;exact f9 rfl rfl (by rw [he];exact ⟨CoC.agg ⟨CoP.refl _,c9,trivial⟩,CoC.refl _,trivial⟩)
 refine j5 ?_;refine rc rfl rfl rfl rfl rfl rfl (wgx Tryz.func132) (ahw (l.getD a default) (l.getD b default) ((m.getD i default).lhs ||| (m.getD i default).rhs) b5h b5h) (⟨CoC.refl _,CoC.refl _,cci (by rw [bOr];rfl),trivial⟩) rfl rfl ?_;refine qcx (wgx Tryz.func131) (az2 n l (dw (l.getD a default) (l.getD b default) ((m.getD i default).lhs ||| (m.getD i default).rhs)) hbig b5h) ?_;refine w_6 ?_;refine hrr ?_;have he:mvE n l a b (m.getD i default) = o5 n l (dw (l.getD a default) (l.getD b default) ((m.getD i default).lhs ||| (m.getD i default).rhs)):=if_pos b5r;exact f9 rfl rfl (by rw [he];exact CoL.refl _)
end
section
def jd (P:Nat -> Nat -> Nat -> Bool) (I L:Nat):Option (Nat × Nat × Nat) :=
 (List.range I).findSome? fun i=>(List.range L).findSome? fun a=>((List.range L).find? fun b=>P i a b).map fun b=>(i,a,b)
def a69 {α:Type} {f:Nat -> Option α}:∀ {n k:Nat} {x:α},k < n -> f k = some x -> (∀ j,j < k -> f j = none) -> (List.range n).findSome? f = some x
 | n + 1,k,x,hk,h,hb=>by
  rw [List.range_succ,List.findSome?_append];by_cases e:k < n
  · rw [a69 e h hb];rfl
  obtain rfl:k = n:=by omega
  have:(List.range k).findSome? f = none:=by
   rw [b51];intro j hj;exact hb j (b36.1 hj)
  rw [this];simp [h]
def a5h {α:Type} {f:Nat -> Option α} {n:Nat} (h:∀ j,j < n -> f j = none):(List.range n).findSome? f = none:=by
 rw [b51];intro j hj;exact h j (b36.1 hj)
def a0x {p:Nat -> Bool} {n:Nat} (h:∀ j,j < n -> p j = false):(List.range n).find? p = none:=by
 rw [List.find?_eq_none];intro j hj;rw [h j (b36.1 hj)];decide
def ar0 {p:Nat -> Bool} {n k:Nat} (hk:k < n) (h:p k = true) (hb:∀ j,j < k -> p j = false):(List.range n).find? p = some k:=by
 induction n with
 | zero=>omega
 | succ n ih =>
  rw [List.range_succ,List.find?_append];by_cases e:k < n
  · rw [ih e];rfl
  obtain rfl:k = n:=by omega
  rw [a0x hb];simp [h]
section
variable {P:Nat -> Nat -> Nat -> Bool}
def a1p {I L i a b:Nat} (hi:i < I) (ha:a < L) (hb:b < L) (h:P i a b = true) (h1:∀ i',i' < i -> ∀ a',a' < L -> ∀ b',b' < L -> P i' a' b' = false) (h2:∀ a',a' < a -> ∀ b',b' < L -> P i a' b' = false) (h3:∀ b',b' < b -> P i a b' = false):
 jd P I L = some (i,a,b):=by
 refine a69 hi ?_ fun j hj=>a5h fun a' ha'=>by rw [a0x fun b' hb'=>h1 j hj a' ha' b' hb'];rfl
 refine a69 ha ?_ fun a' ha'=>by rw [a0x fun b' hb'=>h2 a' ha' b' hb'];rfl
 rw [ar0 hb h h3];rfl
def a1j {I L:Nat} (h:∀ i',i' < I -> ∀ a',a' < L -> ∀ b',b' < L -> P i' a' b' = false):jd P I L = none :=
 a5h fun i hi=>a5h fun a ha=>by rw [a0x fun b hb=>h i hi a ha b hb];rfl
def f0 (l:List Rw) (x:Fd) (a b:Nat):Bool:=jo (l.getD a default) (l.getD b default) x.lhs && !jo (l.getD a default) (l.getD b default) x.rhs
def ez (l:List Rw) (x:Fd) (a b:Nat):Bool:=jo (l.getD a default) (l.getD b default) x.lhs && !(l.any fun r=>decide (r = dw (l.getD a default) (l.getD b default) (x.lhs ||| x.rhs)))
end
section
variable {l:List Rw} {x:Fd} {a b:Nat}
def asb (h:jo (l.getD a default) (l.getD b default) x.lhs = true) (h2:jo (l.getD a default) (l.getD b default) x.rhs = false):f0 l x a b = true:=by unfold f0;rw [h,h2];rfl
def aa2 (h:jo (l.getD a default) (l.getD b default) x.lhs = false):f0 l x a b = false:=by unfold f0;rw [h];rfl
def a2c (h:jo (l.getD a default) (l.getD b default) x.rhs = true):f0 l x a b = false:=by unfold f0;rw [h];simp
def arc (h:jo (l.getD a default) (l.getD b default) x.lhs = true) (h2:(l.any fun r=>decide (r = dw (l.getD a default) (l.getD b default) (x.lhs ||| x.rhs))) = false):ez l x a b = true:=by unfold ez;rw [h,h2];rfl
def aas (h:jo (l.getD a default) (l.getD b default) x.lhs = false):ez l x a b = false:=by unfold ez;rw [h];rfl
def a2w (h:(l.any fun r=>decide (r = dw (l.getD a default) (l.getD b default) (x.lhs ||| x.rhs))) = true):ez l x a b = false:=by unfold ez;rw [h];simp
end
abbrev St:=Bool × Nat × Nat × Nat
abbrev St.pc (s:St):PC:=.agg [.raw (.bool s.1), .raw (.int .i64 (s.2.1:Int)), .raw (.int .i64 (s.2.2.1:Int)), .raw (.int .i64 (s.2.2.2:Int))]
def dj (l:List Rw) (p m:List Fd):Option St :=
 match jd (fun i a b=>f0 l (p.getD i default) a b) p.length l.length with
 | some x=>some (false,x)
 | none=>(jd (fun i a b=>ez l (m.getD i default) a b) m.length l.length).map fun x=>(true,x)
def aqn {l:List Rw} {p m:List Fd} {x:Nat × Nat × Nat} (h:jd (fun i a b=>f0 l (p.getD i default) a b) p.length l.length = some x):dj l p m = some (false,x):=by unfold dj;rw [h]
def ar3 {l:List Rw} {p m:List Fd} {x:Nat × Nat × Nat} (h0:jd (fun i a b=>f0 l (p.getD i default) a b) p.length l.length = none) (h:jd (fun i a b=>ez l (m.getD i default) a b) m.length l.length = some x):dj l p m = some (true,x):=by unfold dj;rw [h0,h];rfl
def as0 {l:List Rw} {p m:List Fd} (h0:jd (fun i a b=>f0 l (p.getD i default) a b) p.length l.length = none) (h:jd (fun i a b=>ez l (m.getD i default) a b) m.length l.length = none):dj l p m = none:=by unfold dj;rw [h0,h];rfl
end
section
open Go.Proofs
def auk (n:Int) (l:List Rw) (p m:List Fd) (hT:tok n l = true):aa b65 126 [pT n l,pP (fdl p),pP (fdl m)] (af [St.pc ((dj l p m).getD (false,0,0,0)),pB (dj l p m).isSome]):=by
 refine hpx (nt:=132) Tryz.func126 ?_;refine dn ?_;obtain ⟨hn0,hn16,hl256,hrow⟩:=iw hT;refine df 1 rfl fun hn1=>?_;refine df 2 rfl fun hn2=>?_;refine gy ?_;refine m9 0 ?_;refine m9 1 ?_;refine dy ?_;refine ai (ι:=Nat) (ka 2 (ka 3 (ka 6 (ka 16 (ka 17 kn))))) (kb 0 (kb 1 km)) (fun i=>⟨[(18,some (vI i))],[]⟩) (fun i=>i <= p.length /\ (∀ i',i' < i -> ∀ a',a' < l.length -> ∀ b',b' < l.length -> f0 l (p.getD i' default) a' b' = false)) (fun i=>p.length - i) (0) (⟨b2n _,bh⟩) kk ?_;rintro i ⟨hi,hI⟩;refine w_5 ?_;refine hcd (fun h0=>?_) (fun h0=>?_)
 ·
  refine w_8 ?_;refine m9 2 ?_;refine j5 ?_;refine ai (ι:=Nat) (ka 2 (ka 3 (ka 6 (ka 8 (ka 9 (ka 16 (ka 17 (ka 18 (ka 25 kn))))))))) (kb 0 (kb 1 (kb 2 km))) (fun a=>⟨[(26,some (vI a))],[]⟩) (fun a=>a <= l.length /\ (∀ a',a' < a -> ∀ b',b' < l.length -> f0 l (p.getD i default) a' b' = false)) (fun a=>l.length - a) (0) (⟨b2n _,bh⟩) kk ?_;rintro a ⟨ha,hA⟩;refine w_5 ?_;refine hcd (fun h1=>?_) (fun h1=>?_)
  ·
   refine vc ?_;refine ai (ι:=Nat) (ka 2 (ka 3 (ka 6 (ka 8 (ka 9 (ka 10 (ka 16 (ka 17 (ka 18 (ka 25 (ka 26 (ka 31 kn)))))))))))) (kb 0 (kb 1 (kb 2 km))) (fun b=>⟨[(32,some (vI b))],[]⟩) (fun b=>b <= l.length /\ (∀ b',b' < b -> f0 l (p.getD i default) a b' = false)) (fun b=>l.length - b) (0) (⟨b2n _,bh⟩) kk ?_;rintro b ⟨hb,hB⟩;refine w_5 ?_;refine hcd (fun h2=>?_) (fun h2=>?_)
   ·
    refine ali ?_;refine qcx w3 (yj (l.getD a default) (l.getD b default) (p.getD i default).lhs (by rw [hrow _ b5h,hrow _ b5h]) (by rw [hrow _ b5h];omega)) ?_;refine qy ?_;refine ab rfl rfl (fun r3=>?_) (fun r3=>?_)
    ·
     have h3:=r3;(iterate 12 refine qy ?_ (hg:=(gtt r3)));refine qcx w3 (yj (l.getD a default) (l.getD b default) (p.getD i default).rhs (by rw [hrow _ b5h,hrow _ b5h]) (by rw [hrow _ b5h];omega)) ?_ (hg:=(gtt r3));refine qy ?_ (hg:=(gtt r3));refine w_3 ?_;refine aj _ rfl (fun r4=>?_) (fun r4=>?_)
     · have h4:=ec (b4 r3 r4);refine w_9 ?_;refine hrr ?_;have he:=aqn (m:=m) (a1p (P:=fun i a b=>f0 l (p.getD i default) a b) (i:=i) (a:=a) (b:=b) b5h b5h b5h (asb b5i b5i) hI hA hB);exact f9 rfl rfl (by rw [he];exact CoL.refl _)
     have h4:=eg (b4 r3 r4);refine w_5 ?_;refine lpz (b + 1) kk ?_;exact ⟨by show b + 1 <= _;omega,ax hB (by first | exact aa2 b5i | exact a2c b5i)⟩
    have h3:=r3;(iterate 14 refine k9 (gft r3) ?_);refine w_9 ?_;refine lpz (b + 1) kk ?_
    exact ⟨by show b + 1 <= _;omega,ax hB (by first | exact aa2 b5i | exact a2c b5i)⟩
   refine w_5 ?_;refine lpz (a + 1) kk ?_;exact ⟨by show a + 1 <= _;omega,ax hA (fun b' hb'=>hB b' b5h)⟩
  refine w_5 ?_;refine lpz (i + 1) kk ?_;exact ⟨by show i + 1 <= _;omega,ax hI (fun a' ha'=>hA a' b5h)⟩
 obtain rfl:i = p.length:=by omega
 have hno:=a1j (P:=fun i a b=>f0 l (p.getD i default) a b) (I:=p.length) (L:=l.length) hI;refine w_9 ?_;refine ai (ι:=Nat) (ka 3 (ka 6 (ka 71 (ka 72 kn)))) (kb 0 (kb 1 km)) (fun k=>⟨[(73,some (vI k))],[]⟩) (fun k=>k <= m.length /\ (∀ i',i' < k -> ∀ a',a' < l.length -> ∀ b',b' < l.length -> ez l (m.getD i' default) a' b' = false)) (fun k=>m.length - k) (0) (⟨b2n _,bh⟩) kk ?_;rintro k ⟨hk,hK⟩;refine w_5 ?_;refine hcd (fun h5=>?_) (fun h5=>?_)
 ·
  refine w_8 ?_;refine m9 3 ?_;refine j5 ?_;refine ai (ι:=Nat) (ka 3 (ka 6 (ka 12 (ka 13 (ka 71 (ka 72 (ka 73 (ka 80 kn)))))))) (kb 0 (kb 1 (kb 3 km))) (fun c=>⟨[(81,some (vI c))],[]⟩) (fun c=>c <= l.length /\ (∀ a',a' < c -> ∀ b',b' < l.length -> ez l (m.getD k default) a' b' = false)) (fun c=>l.length - c) (0) (⟨b2n _,bh⟩) kk ?_;rintro c ⟨hc,hC⟩;refine w_5 ?_;refine hcd (fun h6=>?_) (fun h6=>?_)
  ·
   refine vc ?_;refine ai (ι:=Nat) (ka 3 (ka 6 (ka 12 (ka 13 (ka 14 (ka 71 (ka 72 (ka 73 (ka 80 (ka 81 (ka 86 kn))))))))))) (kb 0 (kb 1 (kb 3 km))) (fun d=>⟨[(87,some (vI d))],[]⟩) (fun d=>d <= l.length /\ (∀ b',b' < d -> ez l (m.getD k default) c b' = false)) (fun d=>l.length - d) (0) (⟨b2n _,bh⟩) kk ?_;rintro d ⟨hd,hD⟩;refine w_5 ?_;refine hcd (fun h7=>?_) (fun h7=>?_)
   ·
    refine ali ?_;refine qcx w3 (yj (l.getD c default) (l.getD d default) (m.getD k default).lhs (by rw [hrow _ b5h,hrow _ b5h]) (by rw [hrow _ b5h];omega)) ?_;refine qy ?_;refine ab rfl rfl (fun r8=>?_) (fun r8=>?_)
    ·
     have h8:=r8;(iterate 16 refine qy ?_ (hg:=(gtt r8)));refine rc rfl rfl rfl rfl rfl rfl (wgx Tryz.func132) (ahw (l.getD c default) (l.getD d default) ((m.getD k default).lhs ||| (m.getD k default).rhs) (by rw [hrow _ b5h,hrow _ b5h]) (by rw [hrow _ b5h];omega)) (⟨CoC.refl _,CoC.refl _,cci (by rw [bOr];rfl),trivial⟩) rfl (gtt r8) ?_;refine qcx zw (a4d n l (dw (l.getD c default) (l.getD d default) ((m.getD k default).lhs ||| (m.getD k default).rhs))) ?_ (hg:=(gtt r8));refine qy ?_ (hg:=(gtt r8));refine w_3 ?_;refine aj _ rfl (fun r9=>?_) (fun r9=>?_)
     · have h9:=ec (b4 r8 r9);refine w_9 ?_;refine hrr ?_;have he:=ar3 hno (a1p (P:=fun i a b=>ez l (m.getD i default) a b) (i:=k) (a:=c) (b:=d) b5h b5h b5h (arc b5i b5i) hK hC hD);exact f9 rfl rfl (by rw [he];exact CoL.refl _)
     have h9:=eg (b4 r8 r9);refine w_5 ?_;refine lpz (d + 1) kk ?_;exact ⟨by show d + 1 <= _;omega,ax hD (by first | exact aas b5i | exact a2w b5i)⟩
    have h8:=r8;(iterate 19 refine k9 (gft r8) ?_);refine w_9 ?_;refine lpz (d + 1) kk ?_
    exact ⟨by show d + 1 <= _;omega,ax hD (by first | exact aas b5i | exact a2w b5i)⟩
   refine w_5 ?_;refine lpz (c + 1) kk ?_;exact ⟨by show c + 1 <= _;omega,ax hC (fun b' hb'=>hD b' b5h)⟩
  refine w_5 ?_;refine lpz (k + 1) kk ?_;exact ⟨by show k + 1 <= _;omega,ax hK (fun a' ha'=>hC a' b5h)⟩
 refine w_7 ?_;refine hrr ?_;have he:=as0 hno (a1j (P:=fun i a b=>ez l (m.getD i default) a b) (I:=m.length) (L:=l.length) fun j hj=>hK j b5h);exact f9 rfl rfl (by rw [he];exact CoL.refl _)
end
end Go.Hx

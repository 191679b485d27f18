/- A part of the proof: SrW Cs10 V8 Cs11 Gr V9 Cs12 V10 Cs13. -/
import Derived.Shelf.SlSortCmp.NoneTotal
import Derived.Test.YtkkenjdfbojdlaaGreatDoorIx13
import Derived.Test.YtkkenjdfbojdlaaGreatDoorIx14
import Derived.Test.YtkkenjdfbojdlaaGreatDoorIx16
import Derived.Test.YtkkenjdfbojdlaaGreatDoorIx17
set_option linter.all false
set_option maxRecDepth 100000
set_option maxHeartbeats 1000000
namespace Go.Hx
section
open Go.Proofs Go.RowKit Go.Sort
section
variable {w:World}
def atu {w':World} (h:Below w.heap.size w w'):∃ q os,w' = grow (w.drewN q) os:=by
 refine ⟨w'.drawn - w.drawn,w'.heap.extract w.heap.size w'.heap.size, ?_⟩;have hd:=h.drawn;obtain ⟨h1,h2,h3,h4,h5,_⟩:=h
 cases w with
 | mk hp tp dr os out =>
 cases w' with
 | mk hp' tp' dr' os' out' =>
 dsimp only at *;subst h1 h2 h3;unfold grow World.drewN;simp only [World.mk.injEq,true_and,and_true];refine ⟨?_,by omega⟩;apply Array.ext_getElem?;intro k;rw [Array.getElem?_append];by_cases hk:k < hp.size
 · rw [if_pos hk,h5 k hk]
 rw [if_neg hk,Array.getElem?_extract];by_cases hk2:k < hp'.size
 · rw [if_pos bqx]
   congr 1;omega
 rw [if_neg bqx,bp1 bqx]
variable {os:Array Obj} {α:Type} {d:Array α} {enc:α -> Value}
def av7 [Inhabited α] {g m:Nat} {cur:Array Value} {e:TypeId} {fr:Nat × Nat} (h:w.heap[g]? = some (.cells cur e fr)):
 (sortWorld enc w g 0 m d os).heap[g]? = some (.cells (putCells enc 0 d cur) e fr):=by
 have hlt:=(bmr.1 h).1;unfold sortWorld;rw [heap_grow_old _ _ (by simpa using hlt)];unfold putRow mapBlock;simp only [heap_ahead,bpb,if_true,h];rfl
def a5g [Inhabited α] {g m:Nat} {b:Nat} (hb:b < w.heap.size) (hne:b ≠ g):(sortWorld enc w g 0 m d os).heap[b]? = w.heap[b]?:=by
 unfold sortWorld;rw [heap_grow_old _ _ (by simpa using hb)];unfold putRow mapBlock;simp only [heap_ahead,bpb,if_neg (Ne.symm hne)]
def au6 [Inhabited α] {g m:Nat}:Below 0 w (sortWorld enc w g 0 m d os) :=
 ⟨rfl,rfl,rfl,by unfold sortWorld;simp,fun k hk=>absurd hk (bmq k),by unfold sortWorld grow;simp⟩
def b47 [Inhabited α] {cur:Array Value} (h:d.size <= cur.size):(putCells enc 0 d cur).toList.take d.size = d.toList.map enc:=by
 apply bpa;intro k;rw [bnl,bnc,bpc,bpc];by_cases hk:k < d.size
 · rw [if_pos hk]
   unfold putCells;rw [Array.getElem?_mapIdx,bnm bqx,bnm hk];simp only [bnh,bnk,bpz];rw [if_pos ⟨bms _,hk⟩,getElem!_pos d k hk]
 rw [if_neg hk,bp1 bqx];rfl
def awu {P:Program} {ρ:Go.Shelf.Ren} [Inhabited α] (L:SlLaysF.n6 P ρ) (enc:α -> Value) (h1:∀ x,(enc x).oneCell' = true) (cf:α -> α -> Int) (hO:SWO (ltOf cf)) (hT:∀ x y,(ltOf cf) x y = false -> (ltOf cf) y x = false -> x = y) (g:Nat) (caps:Nat -> PV) (hg:∀ args w,(callFunc g args).run P w = .ok (.enter g args) w) (hc:∀ x y,a6 P g [.one (.raw (enc x)), .one (.raw (enc y))] (a8 [.one (.raw (.int .i64 (cf x y)))])) (id:Nat) (e:TypeId) (l:List α) (hsz:l.length <= 8589934592):
 cb P (ρ.f 6) [.one (.ref id l.length), .one (.p (.fn g 0 caps))] [(id, .arr true 1 e l.length (lf (fun x _=>.raw (enc x)) l))] (.tup [])
  [(id, .arr true 1 e l.length (lf (fun x _=>.raw (enc x)) (l.mergeSort fun x y=>!(ltOf cf) y x)))] [id]:=by
 intro w c us hM hus
 match us,hus with
 | [u,v],⟨hu,hv,_⟩ =>
  obtain ⟨cs,rfl,hcl,_⟩:=hv;have hcs:cs = []:=boe hcl;subst hcs;have hl1:lk [(id,aa.arr true 1 e l.length (lf (fun x _=>.raw (enc x)) l))] id = some (.arr true 1 e l.length (lf (fun x _=>.raw (enc x)) l)):=by simp [lk]
  have hu2:=(hu.2.2 _ _ _ _ hl1 rfl).2 rfl;subst hu2;have hob:=hM.objs id _ hl1;obtain ⟨h0,hmax,h5⟩:=hob;have hlen:(l.mergeSort fun x y=>!(ltOf cf) y x).length = l.length:=bqu _
  have hev:∀ f':Nat -> Nat -> PV,Evo c (lk [(id,aa.arr true 1 e l.length (lf (fun x _=>.raw (enc x)) l))]) c (lk [(id,aa.arr true 1 e l.length f')]) id:=fun f' =>
   .inr (.inr ⟨_, .arr true 1 e l.length f',1,e,l.length,l.length,hl1,rfl,by simp [lk],rfl,bmp _,fun _=>rfl,fun _ _ _ _ _ _ _ h=>by cases h⟩)
  rcases bon l.length with hz | hpos
  ·
   have hl:l = []:=boe hz;subst hl
   have hform:∃ ad cap,c.own id = .slice ad 0 cap:=by
    rcases h5 with ⟨_,xs,h2,_⟩ | ⟨_,_,ad,cap,hv,_⟩
    · rcases h2.2 with ⟨hv,_⟩ | ⟨g,cap,cur,hv,_⟩
      · exact ⟨none,0,hv⟩
      exact ⟨_,cap,hv⟩
    exact ⟨ad,cap,hv⟩
   obtain ⟨ad,cap,hown⟩:=hform;have hms:([]:List α).mergeSort (fun x y=>!(ltOf cf) y x) = []:=by simp
   rw [hown,hms];refine (AnyF.slices_SortFunc_none { L with } ad cap (.func (.func g) #[] #[]) w).mono ?_;rintro e' w' ⟨rfl,rfl⟩
   exact ⟨_,c,rfl,⟨[],rfl,trivial⟩,hM,Below.refl _ _,fun _ _ _=>⟨rfl,rfl⟩,fun id0 ob b ho hb=>.inr ⟨id0,ob,ho,hb⟩,fun id0 hid=>by
    rw [bn2.1 hid]
    exact Evo.refl _ _ _⟩
  obtain ⟨h6,xs,h2,h4⟩:c.blk id = je (c.own id) /\ ∃ xs,w.ownsRow 0 e 1 (c.own id) l.length xs /\ ∀ i j,i < l.length -> j < 1 -> ∃ x,xs[i * 1 + j]? = some x /\ ay c.imm (lf (fun x _=>.raw (enc x)) l i j) x:=by
   rcases h5 with h5 | ⟨h6 | h6,_⟩
   · exact h5
   · cases h6
   omega
  obtain ⟨hxl,hrow⟩:=h2
  rcases hrow with ⟨_,hz⟩ | ⟨b,cap,cur,hown,hbase,hheap,hnc,hcm,hcs,htake⟩
  · omega
  have hblk:c.blk id b:=by rw [h6,hown];rfl
  have hlt:b < w.heap.size:=(bmr.1 hheap).1
  have hcell:∀ j,(hj:j < l.length) -> cur[j]? = some (enc l[j]):=fun j hj=>by
   obtain ⟨x,hx,hr⟩:=h4 j 0 hj bqx;rw [bqr,bp5,<- htake,bnl,if_pos bqx,bpc] at hx;rw [hx];have hr:x = enc (l.getD j default) /\ _:=hr;rw [hr.1,bmm,bml hj];rfl
  have hH:Holds enc w b 0 l.toArray:=fun j hj=>by
   have hj:j < l.length:=by simpa using hj
   rw [bnk];refine ⟨?_,by simp [World.frozen?,hheap]⟩;have:l.toArray[j]! = l[j]:=by rw [getElem!_pos l.toArray j (by simpa using hj)];simp
   rw [this];simp [World.cell?,hheap,hcell j hj]
  have hcmp:CmpLays1 P g #[] enc cf b 0 l.toArray.size w:=by
   intro m os dk hdk x y
   have hcimm:∀ b' ob,c.imm b' = some ob -> (sortWorld enc w b 0 m dk os).heap[b']? = some ob:=fun b' ob hb'=>by
    have hne:b' ≠ b:=fun he=>by
     have:=hM.sep id _ b hl1 hblk;rw [<- he,hb'] at this;cases this
    have hw:=hM.imm b' ob hb';rw [a5g (bmr.1 hw).1 hne];exact hw
   have h:=hc x y (sortWorld enc w b 0 m dk os) c.imm [enc x,enc y] c.tab hcimm ⟨⟨rfl,h1 x⟩,⟨rfl,h1 y⟩,trivial⟩;refine h.mono ?_;rintro e' w' ⟨v,imm',rfl,hr,_,_,hb⟩;obtain ⟨q,os',hq⟩:=atu hb;exact ⟨by rw [hr.1],q,os',hq⟩
  have hS:=Any.slices_SortFunc_total L enc h1 cf hO g #[] b 0 cap l.toArray w hg hcmp hH hlt (by rw [bnz];omega) hT;rw [hown];refine Calls.mono hS ?_;rintro e' w' ⟨rfl,m,os,rfl⟩;generalize hSd:(l.mergeSort fun x y=>!(ltOf cf) y x) = S at *
  refine ⟨_,c,rfl,⟨[],rfl,trivial⟩,⟨fun id0 ob ho=>?_,fun id0 id1 ob0 ob1 b' ho0 ho1 _ _=>(j3 ho0).1.trans (j3 ho1).1.symm,fun b' ob hb'=>?_,fun id0 ob b' ho hb'=>?_⟩,au6,
   fun b' hb' hno=>⟨a5g hb' (fun he=>hno id _ hl1 (by rw [he];exact hblk)),rfl⟩,fun id0 ob b' ho hb'=>.inr ⟨id,_,hl1,by rw [<- (j3 ho).1];exact hb'⟩,fun id0 hid=>by
    rw [bn2.1 hid]
    exact hev _⟩
  · obtain ⟨rfl,rfl⟩:=j3 ho
    refine ⟨h0,hmax, .inl ⟨h6,S.map enc,⟨by simp [hlen], .inr ⟨b,cap,putCells enc 0 S.toArray cur,hown,hbase,av7 hheap,hnc,hcm,by simpa [putCells] using hcs, ?_⟩⟩,fun i j hi hj=>?_⟩⟩
    · have:=b47 (enc:=enc) (d:=S.toArray) (cur:=cur) (by rw [bnz,hlen,hcs];omega)
      rw [bnz,hlen] at this;rw [bqr];exact this
    obtain rfl:j = 0:=by omega
    have hi':i < S.length:=by rw [hlen];exact hi
    refine ⟨enc S[i], ?_, ?_⟩
    · rw [bqr,bp5,bnc,bml hi']
      rfl
    show ay c.imm (.raw (enc (S.getD i default))) _;rw [bmm,bml hi'];exact ⟨rfl,h1 _⟩
  · have hne:b' ≠ b:=fun he=>by
     have:=hM.sep id _ b hl1 hblk;rw [<- he,hb'] at this;cases this
    have hw:=hM.imm b' ob hb';rw [a5g (bmr.1 hw).1 hne];exact hw
  have:=(j3 ho).1;subst this;exact hM.sep id0 _ b' hl1 hb'
 | [],h=>exact h.elim
 | [_],⟨_,h⟩=>exact h.elim
 | _ :: _ :: _ :: _,⟨_,_,h⟩=>exact h.elim
def a2p {a b:AS}:ltOf a5h a b = bef a b:=b3i
def b2b:SWO (ltOf a5h) where
 irrefl x:=by rw [a2p];exact a2v x
 trans x y z h k:=by rw [a2p] at *;exact ul h k
 ntrans x y z h k:=by
  rw [a2p] at *;rw [bmx,ne_eq,nn] at *;omega
def srt (l:List AS):List AS:=l.mergeSort fun x y=>!bef y x
def ark:goodFn brj 214:=⟨Tryz.f214,Tryz.func214,by kernel_rfl,by kernel_rfl⟩
def b4d (id:Nat) (caps:Nat -> PV) (l:List AS) (hsz:l.length <= 8589934592):cb brj 214 [.one (.ref id l.length), .one (.p (.fn 215 0 caps))] [(id, .arr true 1 46 l.length (lf sC l))] (.tup [])
 [(id, .arr true 1 46 l.length (lf sC (srt l)))] [id]:=by
 have h:=awu Tryz.laysSort (fun s:AS=>.int .u32 (asI s)) (fun _=>rfl) a5h b2b (fun x y h k=>by
  rw [a2p] at h k;apply Classical.byContradiction;intro hne
  rcases a95 hne with h2 | h2
  · rw [h] at h2;cases h2
  rw [k] at h2;cases h2) 215 caps (enters_of Tryz.func215 (by kernel_rfl) rfl) (fun x y=>b28 x y) id 46 l hsz
 have e:(fun x y:AS=>!(ltOf a5h) y x) = fun x y=>!bef y x:=by
  funext x y;rw [a2p]
 rw [e] at h;exact h
def b8i {l:List AS} {x:AS}:x ∈ srt l <-> x ∈ l:=by unfold srt;exact List.mem_mergeSort
def a90 (l:List AS):(srt l).length = l.length:=bqu _
def a86:∀ {l:List AS} {p:Option AS},l.Pairwise (fun a b=>bef b a = false) -> (∀ x,p = some x -> ∀ y ∈ l,bef y x = false) -> (ll p l).Pairwise (fun a b=>bef a b = true) /\ ∀ x,p = some x -> ∀ y ∈ ll p l,bef x y = true
 | [],p,_,_=>⟨by simp [ll],fun x _ y hy=>by simp [ll] at hy⟩
 | z :: l,p,h,hp=>by
  obtain ⟨h1,h2⟩:=bnu.1 h;simp only [ll];split
  · rename_i e
    subst e;exact a86 h2 fun x hx y hy=>hp x hx y (bnq _ hy)
  rename_i hne
  obtain ⟨q1,q2⟩:=a86 (p:=some z) h2 fun x hx y hy=>by
   simp only [bmk] at hx;subst hx;exact h1 y hy
  refine ⟨bnu.2 ⟨fun y hy=>q2 z rfl y hy,q1⟩,fun x hx y hy=>?_⟩
  have hxz:bef x z = true:=by
   have h3:=hp x hx z bnt
   rcases a95 (a:=x) (b:=z) (fun e=>hne (by rw [hx,e])) with h4 | h4
   · exact h4
   rw [h3] at h4;cases h4
  rcases bn0.1 hy with rfl | hy
  · exact hxz
  exact ul hxz (q2 z rfl y hy)
def a43 (l:List AS):jg (srt l) = ord l:=by
 refine ao1 (a86 ?_ fun x hx=>by cases hx).1 fun z=>by rw [alz,b8i]
 have h:=List.pairwise_mergeSort (le:=fun x y:AS=>!bef y x) (fun a b c h k=>by
  simp only [bnj] at *;rw [bmx,ne_eq,nn] at *
  omega) (fun a b=>by
  simp only [bob,bnj];rw [bmx,bmx,ne_eq,ne_eq,nn,nn]
  omega) l
 refine h.imp fun {a b} hab=>?_;simpa using hab
end
end
section
abbrev vB (b:Bool):HR:=bp (.raw (.bool b))
abbrev bx (a:PV):PV:=.vp 1 fun j=>[a].getD j .any
def pn (W:AS -> AS -> Bool) (l:List AS) (x:AS):Bool:=l.any fun b=>decide (x ≠ b) && W x b
def vd (W:AS -> AS -> Bool) (l:List AS):List AS:=(ord l).filter fun x=>!pn W (ord l) x
def o8 (a b:AS):Bool:=decide (sub a b)
def ek (l:List AS):List AS:=vd o8 l
def um (l:List AS):(ord l).Nodup:=(ip l).imp fun {a b} h e=>by
 subst e;rw [a2v] at h;cases h
def okT (l:List AS) (i k:Nat):Bool:=(List.range k).all fun j=>decide (j = i) || !o8 (l.getD i default) (l.getD j default)
def b1l (l:List AS) (i k:Nat):okT l i (k + 1) = (okT l i k && (decide (k = i) || !o8 (l.getD i default) (l.getD k default))):=by
 unfold okT;rw [bod,List.all_append];simp
def okT_succ' (l:List AS) (i k:Nat):okT l i (k + 1) = (okT l i k && (decide ((k:Int) = i) || !o8 (l.getD i default) (l.getD k default))):=by
 rw [b1l,decide_eq_decide.2 (show (k:Int) = i <-> k = i by omega)]
def as1 {l:List AS} {i:Nat} (hn:l.Nodup) (hi:i < l.length):okT l i l.length = !pn o8 l (l.getD i default):=by
 rw [bom];unfold okT pn;rw [bnr,bnj,bof];constructor
 · intro h b hb hc
   obtain ⟨j,hj,rfl⟩:=bng hb;have:=h j (bn3.2 hj);simp only [bmw,decide_eq_true_eq,bob,bnj,bmm,bml hj,bml hi,bnf] at this hc
   rcases this with h1 | h1
   · subst h1;exact hc.1 rfl
   rw [hc.2] at h1;cases h1
 intro h j hj;have hj:=bn3.1 hj;have:=h l[j] (bnb hj);simp only [bmm,bml hj,bml hi,bnf,bob,decide_eq_true_eq,bnj,bmw] at this ⊢;by_cases e:j = i
 · exact .inl e
 right;rw [bmx];intro hs;refine this ⟨fun he=>e ?_,hs⟩;exact ((List.getElem_inj hn).1 he).symm
def rr (l:List AS) (i:Nat):List AS:=((ord l).take i).filter fun x=>!pn o8 (ord l) x
def a8w {l:List AS} {i:Nat} (hi:i < (ord l).length) (h:okT (ord l) i (ord l).length = true):rr l (i + 1) = rr l i ++ [(ord l).getD i default]:=by
 rw [as1 (um l) hi] at h;unfold rr;rw [aq hi,bnv];simp only [bns,h,if_true,boh]
def a92 {l:List AS} {i:Nat} (hi:i < (ord l).length) (h:okT (ord l) i (ord l).length = false):rr l (i + 1) = rr l i:=by
 rw [as1 (um l) hi] at h;unfold rr;rw [aq hi,bnv];simp only [bns,h,bo1,if_false,boh,bnn]
def axc (l:List AS) (i:Nat):(rr l i).length <= i:=by
 unfold rr;exact bmy (boj _ _) (by rw [bmv];omega)
def axm (l:List AS):rr l (ord l).length = ek l:=by
 unfold rr ek vd;rw [bmt]
end
section
open Go.Proofs
def zk:goodFn brj 169:=wgx Tryz.func169
def a7k (l:List AS) (hl:l.length <= 8589934592):a6 brj 169 [pP (asl l)] (a8 [pP (asl (ord l))]):=by
 refine hpx (nt:=10) Tryz.func169 ?_;refine w_7 ?_;refine fc9 a6c (a3f l.length false (lf sC l) bqx) trivial ?_;refine w_5 ?_;refine fc9 ark (b4d 0 _ l hl) uu ?_;refine w_4 ?_;refine fj rfl rfl rfl rfl rfl rfl (wgx Tryz.func216) ((b03 (srt l)).swap 900 0) (⟨congrArg (HV.ref 0) (a90 l).symm,trivial⟩) ⟨⟨_,rfl,dg rfl (a90 l).symm⟩,trivial⟩ rfl rfl ?_;refine v_2 ?_;exact ⟨CoC.one (CoP.of_eq (by rw [a43])),trivial⟩
def bav (b x:AS) (g k:Nat) (caps:Nat -> PV) (W:AS -> AS -> Bool) (hg:goodFn brj g) (hW:∀ x y,a6 brj g (pA x :: pA y :: it caps k 0) (a8 [pB (W x y)])):a6 brj 186 [pA b,pP (bx (asC x)),pP (bx (.fn g k caps))] (a8 [pB (decide (x ≠ b) && W x b)]):=by
 refine hpx (nt:=14) Tryz.func186 ?_;refine bz ?_;refine ai rfl rfl (fun r0=>?_) (fun r0=>?_)
 ·
  have h0:=tz2 (cu r0);(iterate 3 refine qy ?_ (hg:=(gtt r0)));refine rc rfl rfl rfl rfl rfl rfl hg (hW x b) (CoL.refl _) rfl (gtt r0) ?_;refine w_3 ?_
  exact hx8 rfl rfl rfl (⟨ccb (by simp_all [c7]),trivial⟩)
 have h0:=tz1 (ct r0);(iterate 4 refine k9 (gft r0) ?_);refine rq rfl rfl rfl rfl rfl ?_ (hp:=r0);refine w_2 ?_
 exact hx8 rfl rfl rfl (⟨ccb (by simp_all [c7]),trivial⟩)
def bel (x:AS) (l:List AS) (g k:Nat) (caps:Nat -> PV) (W:AS -> AS -> Bool) (hg:goodFn brj g) (hW:∀ x y,a6 brj g (pA x :: pA y :: it caps k 0) (a8 [pB (W x y)])):a6 brj 185 [pA x,pP (bx (asl l)),pP (bx (.fn g k caps))] (a8 [pB (pn W l x)]):=by
 refine hpx (nt:=8) Tryz.func185 ?_;refine sx7 ?_;refine m9 0 ?_;refine w_3 ?_;refine d8 3 rfl rfl rfl ?_;refine w_3 ?_;refine qcx ago (aum l 186 2 (fun i=>[bx (asC x),bx (.fn g k caps)].getD i .any) (fun b=>decide (x ≠ b) && W x b) (wgx Tryz.func186) (fun b=>bav b x g k caps W hg hW)) ?_;refine v_2 ?_;exact CoL.refl _
def b58 (l:List AS) (hl:l.length <= 8589934592) (g k:Nat) (caps:Nat -> PV) (W:AS -> AS -> Bool) (hg:goodFn brj g) (hW:∀ x y,a6 brj g (pA x :: pA y :: it caps k 0) (a8 [pB (W x y)])):a6 brj 137 [pP (asl l),pP (.fn g k caps)] (a8 [pP (asl (vd W l))]):=by
 refine hpx (nt:=12) Tryz.func137 ?_;refine sx7 ?_;refine m9 2 ?_;refine w_5 ?_;refine qcx zk (a7k l hl) ?_;refine m9 3 ?_;refine w_3 ?_;refine d8 5 rfl rfl rfl ?_;refine d8 3 rfl rfl rfl ?_;refine w_2 ?_;refine fc9 a6c (a3f (ord l).length false (lf sC (ord l)) (bmy (ke l) bqx)) trivial ?_;refine qy ?_;refine fc9 afc ((atx (ord l) 185 2 (fun i=>[bx (asl (ord l)),bx (.fn g k caps)].getD i .any) (pn W (ord l)) (wgx Tryz.func185) (fun x=>bel x (ord l) g k caps W hg hW)).swap 900 0) uu ?_;refine v_2 ?_;exact CoL.refl _
def bip (a b:AS):a6 brj 138 [pA a,pA b] (a8 [pB (o8 a b)]):=by
 refine hpx (nt:=9) Tryz.func138 ?_;refine en ?_;exact hx8 rfl rfl rfl (⟨ccb (decide_eq_decide.2 ig),trivial⟩)
def acs:goodFn brj 75:=wgx Tryz.func75
def a4o (l:List AS) (hl:l.length <= 8589934592):a6 brj 75 [pP (asl l)] (a8 [pP (asl (ek l))]):=by
 refine hpx (nt:=5) Tryz.func75 ?_;refine w_7 ?_;refine qcx (wgx Tryz.func137) (b58 l hl 138 0 _ o8 (wgx Tryz.func138) (fun a b=>bip a b)) ?_;refine v_2 ?_;exact CoL.refl _
def akq:goodFn brj 85:=wgx Tryz.func85
def a81 (l:List AS) (hl:l.length <= 8589934592):a6 brj 85 [pP (asl l)] (a8 [pP (asl (ek l))]):=by
 refine hpx (nt:=49) Tryz.func85 ?_;refine cq ?_;refine qcx a9r (a8l l hl) ?_;refine w_8 ?_;have hol:=ke l;refine bw 3 900 true 1 46 (lf sC []) br2 rfl (CoP.sl rfl (.inr rfl) (fun h=>h) (fun i j hi _=>absurd hi (bmq i))) (.inr rfl) rfl ?_;refine b7 (ka 4 kn) km (fun i=>⟨[(3,some (.v (.one (.ref 900 (rr l i).length)))),(5,some (vI i))],[(900,some (.arr true 1 46 (rr l i).length (lf sC (rr l i))))]⟩) ((ord l).length) kk ?_;rintro i hi;have hlen:=axc l i;refine w_8 ?_;refine hcd (fun h0=>?_) (fun h0=>?_)
 ·
  refine jd ?_;refine b7 (ka 3 (ka 4 (ka 5 kn))) (kb 900 km) (fun k=>⟨[(6,some (vB (okT (ord l) i k))),(7,some (vI k))],[]⟩) ((ord l).length) ⟨⟨⟨_,rfl,(cob rfl)⟩,tt⟩,trivial⟩ ?_;rintro k hk;refine w_8 ?_;refine hcd (fun h1=>?_) (fun h1=>?_)
  ·
   refine w_6 ?_;refine ai rfl rfl (fun r2=>?_) (fun r2=>?_)
   ·
    have h2:=r2;(iterate 4 refine qy ?_ (hg:=(gtt r2)));refine ai rfl rfl (fun r3=>?_) (fun r3=>?_)
    ·
     have h3:=tz1 r3;(iterate 10 refine k9 (gtf r3) ?_);refine rq rfl rfl rfl rfl (gtt r2) ?_ (hp:=r3);refine w_9 ?_
     exact lpx (k + 1) ⟨⟨⟨_,rfl,(cob (by rw [okT_succ'];simp_all only [o8];simp))⟩,tt⟩,uu⟩
    have h3:=tz2 r3;(iterate 8 refine qy ?_ (hg:=(gff r3)));refine qcx mf (su _ _) ?_ (hg:=(gff r3));refine qy ?_ (hg:=(gff r3));refine qy ?_ (hg:=(gtt r2));refine w_9 ?_
    exact lpx (k + 1) ⟨⟨⟨_,rfl,(cob (by rw [okT_succ'];simp_all only [o8];simp))⟩,tt⟩,uu⟩
   have h2:=r2;(iterate 4 refine k9 (gft r2) ?_);(iterate 10 refine k9 rfl ?_);refine k9 (gft r2) ?_;refine rq rfl rfl rfl rfl rfl ?_ (hp:=r2);refine w_8 ?_
   exact lpx (k + 1) ⟨⟨⟨_,rfl,(cob (by rw [okT_succ'];simp_all only [o8];simp))⟩,tt⟩,uu⟩
  obtain rfl:k = (ord l).length:=by omega
  refine w_5 ?_;refine hcb (fun h4=>?_) (fun h4=>?_)
  ·
   refine w_6 ?_;refine m9 0 ?_;refine r9 1 true ?_;refine w_7 ?_
   first | (refine ⟨i + 1, ?_, ?_, ?_⟩
            · show i + 1 <= _;omega
            · first | omega | (dsimp only;omega)
            exact ⟨⟨⟨_,rfl,(bf (a8w bqx bqy))⟩,tt⟩,⟨⟨_,rfl,(bg (a8w bqx bqy) (CoP.refl _))⟩,trivial⟩⟩)
         | (refine ⟨i + 1, ?_, ?_, ?_⟩
            · show i + 1 <= _;omega
            · first | omega | (dsimp only;omega)
            exact ⟨⟨⟨_,rfl,(bj (a92 bqx bqy))⟩,tt⟩,⟨⟨_,rfl,(bh (a92 bqx bqy))⟩,trivial⟩⟩)
  refine w_6 ?_
  first | (refine ⟨i + 1, ?_, ?_, ?_⟩
           · show i + 1 <= _;omega
           · first | omega | (dsimp only;omega)
           exact ⟨⟨⟨_,rfl,(bf (a8w bqx bqy))⟩,tt⟩,⟨⟨_,rfl,(bg (a8w bqx bqy) (CoP.refl _))⟩,trivial⟩⟩)
        | (refine ⟨i + 1, ?_, ?_, ?_⟩
           · show i + 1 <= _;omega
           · first | omega | (dsimp only;omega)
           exact ⟨⟨⟨_,rfl,(bj (a92 bqx bqy))⟩,tt⟩,⟨⟨_,rfl,(bh (a92 bqx bqy))⟩,trivial⟩⟩)
 obtain rfl:i = (ord l).length:=by omega
 refine w_6 ?_;refine al 2 rfl rfl rfl ?_;exact hx8 rfl rfl rfl (⟨CoC.one (CoP.of_eq (by rw [<- axm];rfl)),trivial⟩)
end
section
def ec (l:List Fd):List Fd:=l.foldl (fun o x=>if x ∈ o then o else o ++ [x]) []
section
variable {i:Nat} {l:List Fd}
def adm (hi:i < l.length):ec (l.take (i + 1)) = if l.getD i default ∈ ec (l.take i) then ec (l.take i) else ec (l.take i) ++ [l.getD i default]:=by
 unfold ec;rw [aq hi,bo0];rfl
def a59 {s:Fd}:(l.any fun x=>decide (x = s)) = decide (s ∈ l):=by
 rw [bom,bno,decide_eq_true_iff];constructor
 · rintro ⟨x,hx,h⟩
   exact of_decide_eq_true h ▸ hx
 intro h;exact ⟨s,h,decide_eq_true rfl⟩
def tx (hi:i < l.length) (h:((ec (l.take i)).any fun x=>decide (x = l.getD i default)) = false):ec (l.take (i + 1)) = ec (l.take i) ++ [l.getD i default]:=by
 rw [a59] at h;rw [adm hi,if_neg (of_decide_eq_false h)]
def ub (hi:i < l.length) (h:((ec (l.take i)).any fun x=>decide (x = l.getD i default)) = true):ec (l.take (i + 1)) = ec (l.take i):=by
 rw [a59] at h;rw [adm hi,if_pos (of_decide_eq_true h)]
def a6s:∀ (l o:List Fd),(l.foldl (fun o x=>if x ∈ o then o else o ++ [x]) o).length <= o.length + l.length /\ ∀ z,z ∈ l.foldl (fun o x=>if x ∈ o then o else o ++ [x]) o <-> z ∈ o \/ z ∈ l
 | [],o=>⟨by simp,fun z=>by simp⟩
 | x :: l,o=>by
  obtain ⟨h1,h2⟩:=a6s l (if x ∈ o then o else o ++ [x]);simp only [bor];refine ⟨?_,fun z=>?_⟩
  · refine bmy h1 ?_
    split <;> simp <;> omega
  rw [h2 z,bn0];split
  · rename_i hx
    constructor
    · rintro (h | h) <;> simp [h]
    rintro (h | rfl | h)
    · exact .inl h
    · exact .inl hx
    exact .inr h
  rw [bn1,bn2];constructor
  · rintro ((h | h) | h) <;> simp [h]
  rintro (h | h | h) <;> simp [h]
def a1l (l:List Fd):(ec l).length <= l.length:=by
 have:=(a6s l []).1;simpa [ec] using this
def xy {z:Fd}:z ∈ ec l <-> z ∈ l:=by
 have:=(a6s l []).2 z;simpa [ec] using this
def a8h (l:List Fd) (i k:Nat):Bool:=(l.take k).any fun x=>decide (x = l.getD i default)
def aes {k:Nat} (hk:k < l.length):a8h l i (k + 1) = (a8h l i k || decide (l.getD k default = l.getD i default)):=by
 unfold a8h;rw [aq hk,List.any_append];simp
def adj:a8h l i i = ((ec (l.take i)).any fun x=>decide (x = l.getD i default)):=by
 unfold a8h;rw [a59,a59];exact decide_eq_decide.2 xy.symm
def vh (f:Fd):List Fd:=(ak (f.rhs &&& ~~~f.lhs)).map fun a=>(⟨f.lhs,(1:AS) <<< a⟩:Fd)
def fy (l:List Fd):List Fd:=(l.map vh).flatten
def ol (l:List Fd) (i k:Nat):List Fd:=fy (l.take i) ++ (vh (l.getD i default)).take k
def a4h (f:Fd):(vh f).length = (ak (f.rhs &&& ~~~f.lhs)).length:=by unfold vh;rw [bn6]
def o6 (s:AS):(ak s).length <= 32:=by rw [<- uq];exact aec s
def aa9 (l:List Fd) (i:Nat):ol l i 0 = fy (l.take i):=by unfold ol;rw [List.take_zero,bnn]
def aa5 {k:Nat} {m:List Nat} (hm:m = ak ((l.getD i default).rhs &&& ~~~(l.getD i default).lhs)) (hk:k < m.length):ol l i (k + 1) = ol l i k ++ [⟨(l.getD i default).lhs,(1:AS) <<< m.getD k default⟩]:=by
 subst hm;unfold ol;generalize l.getD i default = x at *;rw [List.take_add_one,bnx];congr 1;congr 1;unfold vh;rw [bnc,bml hk,bmm,bml hk];rfl
def aeg (hi:i < l.length) {k:Nat} (hk:k = (ak ((l.getD i default).rhs &&& ~~~(l.getD i default).lhs)).length):ol l i k = fy (l.take (i + 1)):=by
 subst hk;unfold ol fy;rw [<- a4h,bmt,aq hi,bou,List.flatten_append];simp
def v8 (l:List Fd):(fy l).length <= 32 * l.length:=by
 induction l with
 | nil=>simp [fy]
 | cons x l ih =>
  have h:fy (x :: l) = vh x ++ fy l:=by simp [fy]
  have h2:=a4h x;have h3:=o6 (x.rhs &&& ~~~x.lhs);rw [h,bmo,bn9];omega
def atm {k:Nat} (hi:i <= l.length):(ol l i k).length <= 32 * l.length + 32:=by
 have h1:=v8 (l.take i);have h2:=o6 ((l.getD i default).rhs &&& ~~~(l.getD i default).lhs);rw [bmv] at h1;unfold ol;rw [bmo,bmv,a4h];omega
def exB (l:List Fd) (x:Fd) (a:Nat):Bool:=imp l ⟨x.lhs &&& ~~~((1:AS) <<< a),x.rhs⟩
def w3 (s:AS) (a:Nat):az .andNot .u32 (asI s) (IntKind.wrap .u32 (1 * 2 ^ (min a 32))) = asI (s &&& ~~~((1:AS) <<< a)):=by
 rw [show IntKind.wrap .u32 (1 * 2 ^ (min a 32)) = asI ((1:AS) <<< a) from akl 1 a,gl]
def afk (a:Nat):IntKind.wrap .u32 (1 * 2 ^ (min a 32)) = asI ((1:AS) <<< a):=akl 1 a
def gc (l:List Fd) (i:Nat):List Fd:=l.take i ++ l.drop (i + 1)
def acb (l:List Fd) (i:Nat):Bool:=imp (gc l i) (l.getD i default)
def go (hi:i < l.length):(gc l i).length = l.length - 1:=by unfold gc;rw [bmo,bmv,bog];omega
end
end
section
open Go.Proofs Go.Lib Go.RowKit
set_option maxHeartbeats 4000000 in
set_option maxRecDepth 100000 in
def amg (k:Nat) (hk:0 < k) (hbig:k * 8 <= 140737488355328) (w:World) (ad:Option Addr) :
 Calls brj 278 #[.slice ad 0 0, .int .i64 k] w fun e w'=>∃ G ROW,e = .returned (.slice (some ⟨w.heap.size,0,none⟩) 0 G) /\ G <= maxLen /\ w' = w.drew.alloc (.cells ROW 48) /\ ROW.size = G * 2:=by
 obtain ⟨i0,z,hi0,hz0,hzs,hzb,hzc⟩:∃ i0 z,brj.info? 48 = some i0 /\ i0.zero = some z /\ i0.size = 2 /\ i0.bytes = 8 /\ z.cells.size = 2:=by
  have h:(brj.info? 48).map (fun i=>(i.zero.map (fun z=>z.cells.size),i.size,i.bytes)) = some (some 2,2,8):=by kernel_rfl
  cases hq:brj.info? 48 with
  | none=>rw [hq] at h;cases h
  | some i0 =>
   rw [hq] at h
   cases hz:i0.zero with
   | none=>simp [hz] at h
   | some z=>simp [hz] at h;exact ⟨i0,z,rfl,hz,h.2.1,h.2.2,h.1⟩
 have hc:0 + k <= maxLen:=by unfold maxLen;omega
 have hold:(Builtin.firstCells i0.size 0 (.slice ad 0 0)).run brj w.drew = .ok (([]:List Value)).toArray w.drew:=by
  cases ad with
  | none=>exact run_firstCells_none w.drew _ _ _ _
  | some a=>exact run_firstCells_some w.drew _ 0 a 0 0 [] br1 (fun j v hj=>by simp at hj)
 obtain ⟨G,hG⟩:∃ G,G = grownCap w (0 + k) 0 48:=⟨_,rfl⟩;have hGn:0 + k <= G:=by rw [hG];exact grownCap_ge w _ _ _
 have hGm:G <= maxLen:=by rw [hG];exact grownCap_le_maxLen w (0 + k) 0 48 hc
 obtain ⟨ROW,hROW⟩:∃ ROW:Array Value,ROW = ([]:List Value).toArray ++ Builtin.zeroCells z.cells k ++ Builtin.zeroCells z.cells (G - (0 + k)):=⟨_,rfl⟩
 have hrz:(Builtin.append_ #[26,3] 26 #[.slice ad 0 0, .int .i64 (k:Int)]).run brj w = .ok (.slice (some ⟨w.heap.size,0,none⟩) k G) (w.drew.alloc (.cells ROW 48)):=by
  have h:=Lib.run_append_grow_zeros w 26 3 26 48 i0 z .i64 .i64 Tryz.underlying26 Tryz.underlying3 hi0 hz0 ad 0 0 [] hold k hk bqx bqx (by unfold maxLen at hc;omega) (by rw [hzb];omega) (by rw [hzb,bnk];exact growslice_fits bqx hbig);rw [<- hG,<- hROW] at h;rw [h];simp
 have hRs:ROW.size = G * 2:=by
  rw [hROW];simp only [bpe,bnz,bo6,size_zeroCells,hzc];omega
 have mixed:=xr;have hcM:G <= 9223372036854775807:=by unfold maxLen at hGm;omega
 have hk0:¬ ((k:Int) < 0):=by omega
 have hk1:(0:Int) < (k:Int):=by omega
 have hw1:IntKind.i64.wrap (k:Int) = (k:Int):=by rw [IntKind.wrap_i64];omega
 clear hG hROW hold
 rcases ad with _ | ⟨ab,ao,asp⟩
 all_goals go_enter Tryz.func278,Tryz.ntmps278
 all_goals go_wp2_with (at_builtin;refine Lib.wpList_append_run _ rfl _ _ _ _ rfl _ _ rfl rfl _ _ hrz ?_)
 all_goals go_ret
 all_goals first | exact ⟨G,ROW,rfl,hGm,rfl,hRs⟩ | exact ⟨G,rfl,hGm,ROW,rfl,hRs⟩
def aln (w:World) (ad:Option Addr):Calls brj 278 #[.slice ad 0 0, .int .i64 0] w fun e w'=>e = .returned (.slice ad 0 0) /\ w' = w:=by
 have mixed:=xr
 go_enter Tryz.func278,Tryz.ntmps278
 go_wp2
 go_ret
 exact ⟨rfl,rfl⟩
def bht (k a:Nat) (hk:k <= 68719476736) (F:Nat -> Nat -> PV) :
 cb brj 278 [.one (.p (li (.slice none 0 0))), .one (.p (.raw (.int .i64 k)))] [] (.v (.one (.ref a 0))) [(a, .arr true 2 48 0 F)] []:=by
 refine b29 bqx fun w ad=>?_
 rcases bon k with rfl | hk0
 · refine (aln w ad).mono ?_
   rintro e w' ⟨rfl,rfl⟩;exact ⟨_,rfl,Below.refl _ _, .inl rfl⟩
 refine (amg k hk0 bqx w ad).mono ?_;rintro e w' ⟨G,ROW,rfl,hG,rfl,hR⟩;refine ⟨_,rfl,⟨rfl,rfl,rfl, ?_,fun q hq=>bgp w.drew _ hq,bpp _⟩, .inr ⟨⟨by simp, .inr ⟨_,G,ROW,rfl,bms _,heap_alloc_new w.drew _,bms _,hG,hR,by simp⟩⟩,fun g hg=>?_⟩⟩
 · show _ <= (w.heap.push _).size
   rw [Array.size_push];omega
 have:w.heap.size = g:=by simpa [d4] using hg
 omega
end
section
open Go.Proofs
def b01 (l:List Fd) (hl:l.length <= 16777216):cb brj 231 [.one (.p (fdl l))] [] (.v (.one (.ref 900 (ec l).length))) [(900, .arr true 2 48 (ec l).length (lf Fd.c (ec l)))] []:=by
 refine hfx (nt:=22) Tryz.func231 ?_;refine bz ?_;refine ca 0 rfl fun hn=>?_;refine w_6 ?_;refine bw 3 900 true 2 48 (lf Fd.c []) br2 rfl (CoP.sl rfl (.inr rfl) (fun h=>h) (fun i j hi _=>absurd hi (bmq i))) (.inr rfl) rfl ?_;refine b7 (ka 6 (ka 7 kn)) km (fun i=>⟨[(3,some (.v (.one (.ref 900 (ec (l.take i)).length)))),(8,some (vI i))],[(900,some (.arr true 2 48 (ec (l.take i)).length (lf Fd.c (ec (l.take i)))))]⟩) l.length kk ?_;rintro i hi;have hlen:=a1l (l.take i);rw [bmv] at hlen;refine w_5 ?_;refine hcd (fun h0=>?_) (fun h0=>?_)
 ·
  refine w_7 ?_;refine m9 0 ?_;refine w_6 ?_;refine qcx (wgx Tryz.func253) (bk4 (ec (l.take i)) (l.getD i default)) ?_;refine w_2 ?_;refine aj _ rfl (fun r1=>?_) (fun r1=>?_)
  ·
   have h1:=cu r1;have hc:=cu r1;refine w_3 ?_;refine m9 1 ?_;refine r9 2 true ?_;refine w_6 ?_
   first | (refine ⟨i + 1, ?_, ?_, ?_⟩
            · show i + 1 <= _;omega
            · first | omega | (dsimp only;omega)
            exact ⟨⟨⟨_,rfl,(bf (tx bqx hc))⟩,tt⟩,⟨⟨_,rfl,(jp (tx bqx hc) (CoP.refl _) (CoP.refl _))⟩,trivial⟩⟩)
         | (refine ⟨i + 1, ?_, ?_, ?_⟩
            · show i + 1 <= _;omega
            · first | omega | (dsimp only;omega)
            exact ⟨⟨⟨_,rfl,(bj (ub bqx hc))⟩,tt⟩,⟨⟨_,rfl,(bh (ub bqx hc))⟩,trivial⟩⟩)
  have h1:=ct r1;have hc:=ct r1;refine w_5 ?_
  first | (refine ⟨i + 1, ?_, ?_, ?_⟩
           · show i + 1 <= _;omega
           · first | omega | (dsimp only;omega)
           exact ⟨⟨⟨_,rfl,(bf (tx bqx hc))⟩,tt⟩,⟨⟨_,rfl,(jp (tx bqx hc) (CoP.refl _) (CoP.refl _))⟩,trivial⟩⟩)
        | (refine ⟨i + 1, ?_, ?_, ?_⟩
           · show i + 1 <= _;omega
           · first | omega | (dsimp only;omega)
           exact ⟨⟨⟨_,rfl,(bj (ub bqx hc))⟩,tt⟩,⟨⟨_,rfl,(bh (ub bqx hc))⟩,trivial⟩⟩)
 obtain rfl:i = l.length:=by omega
 refine w_6 ?_;refine hrr ?_;exact ⟨_,_,rfl,bqz,CoR.of_eq brb,⟨⟨_,rfl,dg (by rw [bmt]) (by rw [bmt])⟩,trivial⟩⟩
def bja (l:List Fd) (hl:l.length <= 16777216):a6 brj 231 [pP (fdl l)] (a8 [pP (fdl (ec l))]) :=
 cb.pure (args:=[pP (fdl l)]) (l:=[.one (.ref 900 (ec l).length)]) (b01 l hl) rfl ⟨rfl,trivial⟩
def are (l:List Fd) (hl:l.length <= 16777216):cb brj 195 [.one (.p (fdl l))] [] (.v (.one (.ref 900 (ec l).length))) [(900, .arr true 2 48 (ec l).length (lf Fd.c (ec l)))] []:=by
 refine hfx (nt:=40) Tryz.func195 ?_;refine bz ?_;refine ca 0 rfl fun hn=>?_;refine w_4 ?_;refine bw 3 900 true 2 48 (lf Fd.c []) br2 rfl (CoP.sl rfl (.inr rfl) (fun h=>h) (fun i j hi _=>absurd hi (bmq i))) (.inr rfl) rfl ?_;refine b7 (ka 0 kn) km (fun i=>⟨[(3,some (.v (.one (.ref 900 (ec (l.take i)).length)))),(4,some (vI i))],[(900,some (.arr true 2 48 (ec (l.take i)).length (lf Fd.c (ec (l.take i)))))]⟩) l.length kk ?_;rintro i hi;have hlen:=a1l (l.take i);rw [bmv] at hlen;refine w_8 ?_;refine hcd (fun h0=>?_) (fun h0=>?_)
 ·
  refine jd ?_;refine b7 (ka 0 (ka 3 (ka 4 kn))) (kb 900 km) (fun k=>⟨[(5,some (vB (a8h l i k))),(6,some (vI k))],[]⟩) i ⟨⟨⟨_,rfl,(cob rfl)⟩,tt⟩,trivial⟩ ?_;rintro k hk;refine w_7 ?_;refine hcd (fun h1=>?_) (fun h1=>?_)
  ·
   refine w_6 ?_;refine ai rfl rfl (fun r2=>?_) (fun r2=>?_)
   ·
    have h2:=r2;(iterate 9 refine k9 (gtf r2) ?_);refine rq rfl rfl rfl rfl rfl ?_ (hp:=r2);refine w_8 ?_
    exact lpx (k + 1) ⟨⟨⟨_,rfl,(cob (by rw [aes bqx];simp_all [Fd.eq_iff,c7]))⟩,tt⟩,uu⟩
   have h2:=r2;(iterate 9 refine qy ?_ (hg:=(gff r2)));refine w_9 ?_
   exact lpx (k + 1) ⟨⟨⟨_,rfl,(cob (by rw [aes bqx];simp_all [Fd.eq_iff,c7]))⟩,tt⟩,uu⟩
  obtain rfl:i = k:=by omega
  refine w_6 ?_;refine aj _ rfl (fun r3=>?_) (fun r3=>?_)
  ·
   have h3:=cu r3;have hc:=(adj (l:=l) (i:=i)).symm.trans (cu r3);refine w_6 ?_;refine m9 0 ?_;refine r9 1 true ?_;refine w_7 ?_
   first | (refine ⟨i + 1, ?_, ?_, ?_⟩
            · show i + 1 <= _;omega
            · first | omega | (dsimp only;omega)
            exact ⟨⟨⟨_,rfl,(bf (tx bqx hc))⟩,tt⟩,⟨⟨_,rfl,(jp (tx bqx hc) (CoP.refl _) (CoP.refl _))⟩,trivial⟩⟩)
         | (refine ⟨i + 1, ?_, ?_, ?_⟩
            · show i + 1 <= _;omega
            · first | omega | (dsimp only;omega)
            exact ⟨⟨⟨_,rfl,(bj (ub bqx hc))⟩,tt⟩,⟨⟨_,rfl,(bh (ub bqx hc))⟩,trivial⟩⟩)
  have h3:=ct r3;have hc:=(adj (l:=l) (i:=i)).symm.trans (ct r3);refine w_6 ?_
  first | (refine ⟨i + 1, ?_, ?_, ?_⟩
           · show i + 1 <= _;omega
           · first | omega | (dsimp only;omega)
           exact ⟨⟨⟨_,rfl,(bf (tx bqx hc))⟩,tt⟩,⟨⟨_,rfl,(jp (tx bqx hc) (CoP.refl _) (CoP.refl _))⟩,trivial⟩⟩)
        | (refine ⟨i + 1, ?_, ?_, ?_⟩
           · show i + 1 <= _;omega
           · first | omega | (dsimp only;omega)
           exact ⟨⟨⟨_,rfl,(bj (ub bqx hc))⟩,tt⟩,⟨⟨_,rfl,(bh (ub bqx hc))⟩,trivial⟩⟩)
 obtain rfl:i = l.length:=by omega
 refine w_6 ?_;refine hrr ?_;exact ⟨_,_,rfl,bqz,CoR.of_eq brb,⟨⟨_,rfl,dg (by rw [bmt]) (by rw [bmt])⟩,trivial⟩⟩
def bdt (l:List Fd) (hl:l.length <= 16777216):a6 brj 195 [pP (fdl l)] (a8 [pP (fdl (ec l))]) :=
 cb.pure (args:=[pP (fdl l)]) (l:=[.one (.ref 900 (ec l).length)]) (are l hl) rfl ⟨rfl,trivial⟩
end
section
def b13 {α:Type} [Inhabited α] {s n k':Nat} {k:Int} {cl:Bool} {c:α -> Nat -> PV} {l:List α} (h:k.toNat = k') (hk:k' <= l.length) :
 CoP (.sl (d5 (ar n (some k)) none) s cl (pl (lf c l) none)) (psl s c (l.take k')):=by
 subst h;exact as5 hk
def b1a {α:Type} [Inhabited α] {s n k':Nat} {k:Int} {cl:Bool} {c:α -> Nat -> PV} {l:List α} (hn:n = l.length) (h:k.toNat = k'):CoP (.sl (d5 n (some k)) s cl (pl (lf c l) (some k))) (psl s c (l.drop k')):=by
 subst h hn;exact bat
def ao9 {l:List Fd} {i:Nat}:[l.take i,l.drop (i + 1)].flatten = gc l i:=by simp [gc]
def b7l {l:List Fd} {i:Nat} (hi:i < l.length) (hl:l.length <= 16777216):[l.take i,l.drop (i + 1)].flatten.length <= 16777216:=by
 rw [ao9,go hi];omega
def b5d {x:Fd} {b:Int} {s:AS} (h:b = asI s):CoC (.agg [.raw (.int .u32 b), .raw (.int .u32 (asI x.rhs))]) (Fd.pc ⟨s,x.rhs⟩):=by
 subst h;exact CoC.refl _
def bc7 {l:List Fd} {i:Nat} (hi:i < l.length) {f0:Nat -> Nat -> PV}:CoP (.sl (0 + d5 (ar l.length (some (i:Int))) none + d5 (ar l.length none) (some ((i:Int) + 1))) 2 false
 (fm (0 + d5 (ar l.length (some (i:Int))) none) (fm 0 f0 (pl (lf Fd.c l) none)) (pl (lf Fd.c l) (some ((i:Int) + 1))))) (fdl (gc l i)):=by
 have e1:d5 (ar l.length (some (i:Int))) none = i:=by simp [d5,ar]
 have e2:d5 (ar l.length none) (some ((i:Int) + 1)) = l.length - (i + 1):=by simp only [d5,ar];omega
 rw [e1,e2];refine CoP.sl (by rw [go hi];omega) (.inl rfl) (fun h=>by cases h) fun a j ha hj=>CoP.of_eq ?_;unfold fm gc;rw [bnk];by_cases h:a < i
 · rw [if_pos h,if_neg bqx,bpz]
   simp only [lf,bmm];rw [boc (by rw [bmv];omega),bnl,if_pos h];rfl
 rw [if_neg h];simp only [lf,bmm];rw [bo8 (by rw [bmv];omega),bmv,boy,bok bqx];show Fd.c ((l[((i:Int) + 1).toNat + (a - i)]?).getD default) j = _;congr 4
end
section
open Go.Proofs
def rwC (l:List Fd):Nat -> PV
 | 0=>fdl l
 | _=>.any
abbrev bjy (ls:List (List Fd)):PV:=psl 1 rwC ls
def b9r (ls:List (List Fd)) (h:ls.flatten.length <= 16777216):a6 brj 254 [pP (bjy ls)] (a8 [pP (fdl ls.flatten)]):=by
 refine hpx (nt:=36) Tryz.func254 ?_;refine bz ?_;refine ca 0 rfl (fun hn=>?_);refine w_6 ?_;refine b7 (ka 0 (ka 9 (ka 10 kn))) km (fun i=>⟨[(3,some (vI (ls.take i).flatten.length)),(11,some (vI i))],[]⟩) ls.length kk ?_;rintro i hi;refine w_5 ?_;refine hcd (fun h0=>?_) (fun h0=>?_)
 ·
  have hts:(ls.take (i + 1)).flatten.length = (ls.take i).flatten.length + (ls.getD ((i:Nat):Int).toNat default).length:=by rw [tsf _ _ bqx,bmo];rfl
  have hfl:(ls.take i).flatten.length + (ls.getD ((i:Nat):Int).toNat default).length <= ls.flatten.length:=a6n ls i bqx;refine am5 ?_;refine hcd (fun h1=>?_) (fun h1=>?_)
  · exfalso;omega
  refine w_5 ?_;refine lpz (i + 1) kk ?_;show i + 1 <= _;omega
 obtain rfl:i = ls.length:=by omega
 have hfe:(ls.take ls.length).flatten.length = ls.flatten.length:=by rw [bmt]
 refine w_4 ?_;refine fc9 (wgx Tryz.func278) (bht (ls.take ls.length).flatten.length 900 bqx (lf Fd.c [])) trivial ?_;refine bz ?_;refine b7 (ka 25 (ka 26 kn)) km (fun i=>⟨[(6,some (.v (.one (.ref 900 (ls.take i).flatten.length)))),(27,some (vI i))],[(900,some (.arr true 2 48 (ls.take i).flatten.length (lf Fd.c (ls.take i).flatten)))]⟩) ls.length kk ?_;rintro i hi;refine w_5 ?_;refine hcd (fun h2=>?_) (fun h2=>?_)
 ·
  have hts:(ls.take (i + 1)).flatten.length = (ls.take i).flatten.length + (ls.getD ((i:Nat):Int).toNat default).length:=by rw [tsf _ _ bqx,bmo];rfl
  have hfl:(ls.take i).flatten.length + (ls.getD ((i:Nat):Int).toNat default).length <= ls.flatten.length:=a6n ls i bqx;refine en ?_;refine r9 0 true ?_;refine w_6 ?_;refine lpz (i + 1) ⟨⟨⟨_,rfl,(CoR.of_eq (by rw [hts]))⟩,tt⟩,⟨⟨_,rfl,(by rw [tsf _ _ bqx];exact ad4 _ (fun h=>h) rfl (fun i j hi hj=>CoP.refl _))⟩,trivial⟩⟩ ?_;show i + 1 <= _;omega
 obtain rfl:i = ls.length:=by omega
 refine w_6 ?_;refine hrr ?_;rw [show ls.flatten = (ls.take ls.length).flatten by rw [bmt]];exact f9 rfl rfl (CoL.refl _)
def at1 (l:List Fd) (i:Nat) (hi:i < l.length) (hl:l.length <= 16777216):a6 brj 233 [pP (fdl l),pI i] (a8 [pP (fdl (gc l i))]):=by
 refine hpx (nt:=14) Tryz.func233 ?_;refine w_5 ?_;have hll:=b7l hi hl;refine w_8 ?_;refine m9 0 ?_;refine fc9 (wgx Tryz.func254) (a6.eat (hcs:=[.one (.ref 0 2)]) (o1:=[(0, .arr true 1 26 2 (lf rwC [l.take i,l.drop (i + 1)]))]) (b9r [l.take i,l.drop (i + 1)] hll) rfl (by (repeat' apply And.intro) <;> first | trivial | rfl) (CoL.refl _)) ⟨⟨_,rfl,⟨fun h=>h,rfl,rfl,rfl,fun i j hi hj=>(by have hi:i < 2:=hi;have hj:j < 1:=hj;obtain rfl:j = 0:=bqx;rcases (show i = 0 \/ i = 1 by omega) with rfl | rfl;exact b13 rfl bqx;exact b1a rfl bqx)⟩⟩,trivial⟩ ?_;refine v_3 ?_;exact ⟨CoC.one (CoP.of_eq (by rw [ao9])),trivial⟩
def bdy (l:List Fd) (i:Nat) (hi:i < l.length) (hl:l.length <= 16777216):a6 brj 232 [pP (fdl l),pI i] (a8 [pB (acb l i)]):=by
 refine hpx (nt:=13) Tryz.func232 ?_;refine w_8 ?_;refine qcx (wgx Tryz.func233) (at1 l i hi hl) ?_;refine w_4 ?_;refine qcx (wgx Tryz.func252) (bfn (gc l i) (l.getD i default)) ?_;refine v_3 ?_;exact CoL.refl _
def bf4 (l:List Fd) (x:Fd) (a:Nat):a6 brj 230 [pP (fdl l),x.pc,pI a] (a8 [pB (exB l x a)]):=by
 refine hpx (nt:=17) Tryz.func230 ?_;refine sx7 ?_;refine m9 0 ?_;refine jd ?_;refine rc rfl rfl rfl rfl rfl rfl (wgx Tryz.func252) (bfn l ⟨x.lhs &&& ~~~((1:AS) <<< a),x.rhs⟩) (⟨CoC.refl _,b5d (w3 _ _),trivial⟩) rfl rfl ?_;refine v_3 ?_;exact CoL.refl _
def amj (l:List Fd) (i:Nat) (hi:i < l.length) (hl:l.length <= 16777216):a6 brj 197 [pP (fdl l),pI i] (a8 [pP (fdl (gc l i))]):=by
 refine hpx (nt:=15) Tryz.func197 ?_;refine w_6 ?_;refine m9 0 ?_;refine w_3 ?_;refine r9 1 true ?_;refine w_4 ?_;refine r9 2 true ?_;refine w_3 ?_;refine al 4 rfl rfl rfl ?_;exact hx8 rfl rfl rfl (⟨CoC.one (bc7 hi),trivial⟩)
def b93 (l:List Fd) (i:Nat) (hi:i < l.length) (hl:l.length <= 16777216):a6 brj 196 [pP (fdl l),pI i] (a8 [pB (acb l i)]):=by
 refine hpx (nt:=13) Tryz.func196 ?_;refine w_8 ?_;refine qcx (wgx Tryz.func197) (amj l i hi hl) ?_;refine w_4 ?_;refine qcx (wgx Tryz.func236) (b5n (gc l i) (l.getD i default)) ?_;refine v_3 ?_;exact CoL.refl _
def bbp (l:List Fd) (i a:Nat) (hi:i < l.length):a6 brj 194 [pP (fdl l),pI i,pI a] (a8 [pB (d9 (l.getD i default).lhs a && exB l (l.getD i default) a)]):=by
 refine hpx (nt:=32) Tryz.func194 ?_;refine en ?_;refine qcx oq (a2g _ _) ?_;refine qy ?_;refine ai rfl rfl (fun r0=>?_) (fun r0=>?_)
 · have h0:=r0;(iterate 15 refine qy ?_ (hg:=(gtt r0)));refine rc rfl rfl rfl rfl rfl rfl (wgx Tryz.func236) (b5n l ⟨(l.getD i default).lhs &&& ~~~((1:AS) <<< a),(l.getD i default).rhs⟩) (⟨CoC.refl _,b5d (w3 _ _),trivial⟩) rfl (gtt r0) ?_;refine v_4 ?_;exact ⟨ccb (by simp_all [exB]),trivial⟩
 have h0:=r0;(iterate 16 refine k9 (gft r0) ?_);refine rq rfl rfl rfl rfl rfl ?_ (hp:=r0);refine w_3 ?_
 exact hx8 rfl rfl rfl (⟨ccb (by simp_all [exB]),trivial⟩)
end
section
def lb (l:List Fd) (i k:Nat):List Fd:=fy (l.take i) ++ (eo ((l.getD i default).rhs &&& ~~~(l.getD i default).lhs) k).map fun a=>(⟨(l.getD i default).lhs,(1:AS) <<< a⟩:Fd)
def aaf (l:List Fd) (i:Nat):lb l i 0 = fy (l.take i):=by unfold lb eo;simp
section
variable {i k:Nat} {l:List Fd}
def a42 (hk:k < 32) (h:d9 ((l.getD i default).rhs &&& ~~~(l.getD i default).lhs) k = true):lb l i (k + 1) = lb l i k ++ [⟨(l.getD i default).lhs,(1:AS) <<< k⟩]:=by
 unfold lb;rw [nk hk h,bou,bnx];rfl
def a4u (hk:k < 32) (h:d9 ((l.getD i default).rhs &&& ~~~(l.getD i default).lhs) k = false):lb l i (k + 1) = lb l i k:=by
 unfold lb;rw [qu hk h]
def adn (hi:i < l.length):lb l i 32 = fy (l.take (i + 1)):=by
 unfold lb fy;rw [aq hi,bou,List.flatten_append];simp [vh,ak,eo]
def ava (hk:k <= 32):(lb l i k).length <= 32 * l.length + 32:=by
 have h1:=v8 (l.take i);have h2:=ahw ((l.getD i default).rhs &&& ~~~(l.getD i default).lhs) k;rw [bmv] at h1;unfold lb;rw [bmo,bn6];omega
def ans (x:Fd) (a:Nat):Fd:=⟨x.lhs &&& ~~~((1:AS) <<< a),x.rhs⟩
def im (i:Nat) (l:List Fd) (a:Nat):List Fd:=if d9 (l.getD i default).lhs a && exB l (l.getD i default) a then l.set i (ans (l.getD i default) a) else l
def s5 (l:List Fd) (i k:Nat):List Fd:=((ak (l.getD i default).lhs).take k).foldl (im i) l
def a4g (l:List Fd) (i:Nat):List Fd:=(ak (l.getD i default).lhs).foldl (im i) l
def gu (l:List Fd) (i:Nat):List Fd:=(List.range i).foldl a4g l
variable {a:Nat}
def ac9:(im i l a).length = l.length:=by
 unfold im;split
 · rw [bp0]
 rfl
def a15:∀ (m:List Nat) (l:List Fd),(m.foldl (im i) l).length = l.length
 | [],l=>rfl
 | a :: m,l=>by rw [bor,a15 m,ac9]
def an2:(s5 l i k).length = l.length:=a15 _ _
def b3b:(a4g l i).length = l.length:=a15 _ _
def j6:∀ {i:Nat},(gu l i).length = l.length
 | 0=>rfl
 | i + 1=>by
  unfold gu;rw [bod,bo0];show (a4g ((List.range i).foldl a4g l) i).length = _;rw [b3b];exact j6 (i:=i)
def a1a (l:List Fd) (i:Nat):gu l (i + 1) = a4g (gu l i) i:=by
 unfold gu;rw [bod,bo0];rfl
def az8 (l:List Fd) (i:Nat):s5 l i 0 = l:=by unfold s5;rw [List.take_zero];rfl
def b20 (hk:k = (ak (l.getD i default).lhs).length):s5 l i k = a4g l i:=by
 unfold s5 a4g;rw [hk,bmt]
def a1s (hk:k < (ak (l.getD i default).lhs).length):s5 l i (k + 1) = im i (s5 l i k) ((ak (l.getD i default).lhs).getD k default):=by
 unfold s5;rw [aq hk,bo0];rfl
def aie {x:Fd} (hi:i < l.length):(l.set i x).getD i default = x:=by simp [List.getD,hi]
def anl {b:Nat} (hi:i < l.length) (hb:b < 32) (hne:b ≠ a):((im i l a).getD i default).lhs.getLsbD b = (l.getD i default).lhs.getLsbD b:=by
 unfold im;split
 · rw [aie hi]
   show ((l.getD i default).lhs &&& ~~~((1:AS) <<< a)).getLsbD b = _;rw [bn4,boo,rp _ _ hb];simp [hb,hne]
 rfl
def aik {b:Nat} (hb:b < 32):∀ (m:List Nat) (l:List Fd),i < l.length -> (∀ a ∈ m,b ≠ a) -> ((m.foldl (im i) l).getD i default).lhs.getLsbD b = (l.getD i default).lhs.getLsbD b
 | [],l,_,_=>rfl
 | a :: m,l,hi,h=>by
  rw [bor,aik hb m _ (by rw [ac9];exact hi) fun c hc=>h c (bnq _ hc),anl hi hb (h a bnt)]
def aul (s:AS):(ak s).Pairwise (· < ·):=List.Pairwise.filter _ List.pairwise_lt_range
def aoo {m:List Nat} (hk:k < m.length):m.getD k default = m[k]:=by simp [List.getD,hk]
def awf {m:List Nat} (hk:k < m.length):m.getD k default ∈ m:=by rw [aoo hk];exact bnb hk
def b2z (hi:i < l.length) (hk:k < (ak (l.getD i default).lhs).length):d9 ((s5 l i k).getD i default).lhs (((ak (l.getD i default).lhs).getD k default:Nat):Int) = true:=by
 have hm:(ak (l.getD i default).lhs).getD k default ∈ ak (l.getD i default).lhs:=awf hk;obtain ⟨h1,h2⟩:=jc.1 hm;rw [gm h1];unfold s5;rw [aik h1 _ _ hi,h2];intro a ha;obtain ⟨j,hj,rfl⟩:=bng ha;rw [bmv] at hj;rw [List.getElem_take,aoo hk];have:=boq.1 (aul (l.getD i default).lhs) j k bqx hk bqx;exact Nat.ne_of_gt this
def aye (h:d9 (l.getD i default).lhs a = true) (h2:exB l (l.getD i default) a = true):im i l a = l.set i (ans (l.getD i default) a):=by unfold im;rw [h,h2];rfl
def awm (h2:exB l (l.getD i default) a = false):im i l a = l:=by unfold im;rw [h2];simp
def aqf (h2:(d9 (l.getD i default).lhs a && exB l (l.getD i default) a) = false):im i l a = l:=by unfold im;rw [h2];rfl
def ar0 (h2:(d9 (l.getD i default).lhs a && exB l (l.getD i default) a) = true):im i l a = l.set i (ans (l.getD i default) a):=by unfold im;rw [h2];rfl
def avr (h:d9 (l.getD i default).lhs a = false):im i l a = l:=by unfold im;rw [h];rfl
def a99 {wr wr':Bool} {n:Nat} {e:TypeId} {l':List Fd} {v:Int} (hl:l' = l.set i (ans (l.getD i default) a)) (hv:v = asI ((l.getD i default).lhs &&& ~~~((1:AS) <<< a))) (hk:k = i) (hi:i < l.length) (hn:n = l.length) (hw:wr' = true -> wr = true:=by exact fun h=>h):
 CoO (.arr wr 2 e n (eu (lf Fd.c l) k 0 [.raw (.int .u32 v)])) (.arr wr' 2 e n (lf Fd.c l')):=by
 subst hl hv hk hn;refine ⟨hw,rfl,rfl,rfl,fun r j hr hj=>CoP.of_eq ?_⟩;unfold eu lf;by_cases h:r = k
 · subst h
   rw [aie hi]
   rcases (by omega:j = 0 \/ j = 1) with rfl | rfl
   · rw [if_pos ⟨rfl,bmp _,by simp⟩]
     rfl
   rw [if_neg br1];rfl
 rw [if_neg bqx,getD_set_ne' h]
def a8r {n:Nat} {cl:Bool} (h:n = l.length):CoP (.sl n 2 cl (lf Fd.c l)) (fdl l):=CoP.sl h.symm (.inl rfl) (fun h=>by cases h) fun _ _ _ _=>CoP.refl _
def pj:Nat -> List Fd -> Nat -> List Fd
 | 0,l,_=>l
 | f + 1,l,i=>if i < l.length then (if acb l i then pj f (gc l i) i else pj f l (i + 1)) else l
def a9n (hi:i < l.length) (h:acb l i = true):pj (l.length - i) l i = pj ((gc l i).length - i) (gc l i) i:=by
 rw [go hi,show l.length - i = (l.length - 1 - i) + 1 by omega];show (if i < l.length then (if acb l i then _ else _) else l) = _;rw [if_pos hi,h];rfl
def a8v (hi:i < l.length) (h:acb l i = false):pj (l.length - i) l i = pj (l.length - (i + 1)) l (i + 1):=by
 rw [show l.length - i = (l.length - (i + 1)) + 1 by omega];show (if i < l.length then (if acb l i then _ else _) else l) = _;rw [if_pos hi,h];rfl
def ai4 (hi:¬ i < l.length):pj (l.length - i) l i = l:=by rw [show l.length - i = 0 by omega];rfl
def spl (l:List Fd):List Fd:=ec (fy l)
def xz (l:List Fd):List Fd:=ec (gu (spl l) (spl l).length)
def a74 (l:List Fd):List Fd:=pj (xz l).length (xz l) 0
def ag3 (l:List Fd):(spl l).length <= 32 * l.length:=bmy (a1l _) (v8 l)
def a5m (l:List Fd):(xz l).length <= 32 * l.length:=bmy (a1l _) (by rw [j6];exact ag3 l)
def a6p:∀ (m:List Nat) (l:List Fd),i < l.length -> (∀ a ∈ m,a < 32) -> m.Pairwise (· < ·) -> m.foldl (im i) l = (m.filter fun a=>(l.getD i default).lhs.getLsbD a).foldl (im i) l
 | [],_,_,_,_=>rfl
 | a :: m,l,hi,h32,hp=>by
  obtain ⟨p1,p2⟩:=bnu.1 hp;have ha:=h32 a bnt;rw [bor,a6p m _ (by rw [ac9];exact hi) (fun b hb=>h32 b (bnq _ hb)) p2]
  have e:m.filter (fun b=>((im i l a).getD i default).lhs.getLsbD b) = m.filter fun b=>(l.getD i default).lhs.getLsbD b:=by
   apply List.filter_congr;intro b hb;exact anl hi (h32 b (bnq _ hb)) (Nat.ne_of_gt (p1 b hb))
  rw [e,bns]
  cases hba:(l.getD i default).lhs.getLsbD a with
  | true=>rfl
  | false =>
   rw [avr (by rw [gm ha];exact hba)];rfl
def au1 {n:Nat} (hi:i < l.length) (hn:n <= 32) (h:sub (l.getD i default).lhs (jt n)):(List.range n).foldl (im i) l = a4g l i:=by
 rw [a6p _ _ hi (fun a ha=>by have:=bn3.1 ha;omega) List.pairwise_lt_range];unfold a4g ak;congr 1;obtain ⟨d,hd⟩:∃ d,32 = n + d:=⟨32 - n,by omega⟩
 have key:∀ (s:AS),sub s (jt n) -> (List.range n).filter (fun a=>s.getLsbD a) = (List.range (n + d)).filter fun a=>s.getLsbD a:=fun s hs=>by
  rw [List.range_add,bnv]
  have:(List.map (fun x=>n + x) (List.range d)).filter (fun a=>s.getLsbD a) = []:=by
   rw [bpw];intro a ha hb;obtain ⟨x,hx,rfl⟩:=bne.1 ha;have hx:=bn3.1 hx;have:=ap.1 hs (n + x) bqx hb;rw [o3 _ _ bqx,decide_eq_true_eq] at this;omega
  rw [this,bnn]
 rw [key _ h,<- hd]
def vn (t:AS) (l:List Fd):Prop:=∀ x ∈ l,sub x.lhs t
def bb3 {t:AS} (h:vn t l):vn t (im i l a):=by
 unfold im;split
 · rename_i hc
   intro x hx
   rcases List.mem_or_eq_of_mem_set hx with hx | rfl
   · exact h x hx
   by_cases hi:i < l.length
   · have:=h (l.getD i default) (by rw [bmm,bml hi];exact bnb hi)
     refine fq (ap.2 fun k hk hb=>?_) this;have hb:((l.getD i default).lhs &&& ~~~((1:AS) <<< a)).getLsbD k = true:=hb;rw [bn4,bmw] at hb;exact hb.1
   rw [bps bqx] at hx;exact h _ hx
 exact h
def akd {t:AS}:∀ (m:List Nat) (l:List Fd),vn t l -> vn t (m.foldl (im i) l)
 | [],_,h=>h
 | a :: m,l,h=>akd m _ (bb3 h)
def agb {t:AS} (h:vn t l):∀ i,vn t (gu l i)
 | 0=>h
 | i + 1=>by rw [a1a];exact akd _ _ (agb h i)
def azu {t:AS} (h:vn t l):vn t (spl l):=by
 intro x hx;have hx:=xy.1 hx;unfold fy at hx;obtain ⟨ys,hys,hxy⟩:=List.mem_flatten.1 hx;obtain ⟨f,hf,rfl⟩:=bne.1 hys;unfold vh at hxy;obtain ⟨a,_,rfl⟩:=bne.1 hxy;exact h f hf
def aky {n:Int} (h:b5 n l = 0):vn (a7 n) l:=by
 obtain ⟨h0,h1,_,h3⟩:=ep h;intro x hx;exact ((ou h0 h1).1 (bnr.1 h3 x hx)).1
end
end
end Go.Hx

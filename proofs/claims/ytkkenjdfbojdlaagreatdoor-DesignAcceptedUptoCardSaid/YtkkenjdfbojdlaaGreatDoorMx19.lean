/- A part of the proof: SrW Cs10 V8 Cs11 Gr V9 Cs12 V10 Cs13 V11 Cs14 V12. -/
import Derived.Shelf.SlSortCmp.NoneTotal
import Derived.Test.YtkkenjdfbojdlaaGreatDoorMx17
import Derived.Test.YtkkenjdfbojdlaaGreatDoorMx18
set_option linter.all false
set_option maxRecDepth 100000
set_option maxHeartbeats 1000000
namespace Go.Hx
section
open Go.Proofs Go.RowKit Go.Sort
section
variable {w:World}
def avp {w':World} (h:Below w.heap.size w w'):∃ q os,w' = grow (w.drewN q) os:=by
 refine ⟨w'.drawn - w.drawn,w'.heap.extract w.heap.size w'.heap.size, ?_⟩;have hd:=h.drawn;obtain ⟨h1,h2,h3,h4,h5,_⟩:=h
 cases w with
 | mk hp tp dr os out =>
 cases w' with
 | mk hp' tp' dr' os' out' =>
 dsimp only at *;subst h1 h2 h3;unfold grow World.drewN;simp only [World.mk.injEq,true_and,and_true];refine ⟨?_,by omega⟩;apply Array.ext_getElem?;intro k;rw [Array.getElem?_append];by_cases hk:k < hp.size
 · rw [if_pos hk,h5 k hk]
 rw [if_neg hk,Array.getElem?_extract];by_cases hk2:k < hp'.size
 · rw [if_pos bsq]
   congr 1;omega
 rw [if_neg bsq,bql bsq]
variable {os:Array Obj} {α:Type} {d:Array α} {enc:α -> Value}
def avb [Inhabited α] {g m:Nat} {cur:Array Value} {e:TypeId} {fr:Nat × Nat} (h:w.heap[g]? = some (.cells cur e fr)):
 (sortWorld enc w g 0 m d os).heap[g]? = some (.cells (putCells enc 0 d cur) e fr):=by
 have hlt:=(boa.1 h).1;unfold sortWorld;rw [heap_grow_old _ _ (by simpa using hlt)];unfold putRow mapBlock;simp only [heap_ahead,bqy,if_true,h];rfl
def a62 [Inhabited α] {g m:Nat} {b:Nat} (hb:b < w.heap.size) (hne:b ≠ g):(sortWorld enc w g 0 m d os).heap[b]? = w.heap[b]?:=by
 unfold sortWorld;rw [heap_grow_old _ _ (by simpa using hb)];unfold putRow mapBlock;simp only [heap_ahead,bqy,if_neg (Ne.symm hne)]
def awa [Inhabited α] {g m:Nat}:Below 0 w (sortWorld enc w g 0 m d os) :=
 ⟨rfl,rfl,rfl,by unfold sortWorld;simp,fun k hk=>absurd hk (bod k),by unfold sortWorld grow;simp⟩
def b4s [Inhabited α] {cur:Array Value} (h:d.size <= cur.size):(putCells enc 0 d cur).toList.take d.size = d.toList.map enc:=by
 apply bqw;intro k;rw [bpf,boy,bqz,bqz];by_cases hk:k < d.size
 · rw [if_pos hk]
   unfold putCells;rw [Array.getElem?_mapIdx,bpa bsq,bpa hk];simp only [bp5,bpc,bs3];rw [if_pos ⟨boe _,hk⟩,getElem!_pos d k hk]
 rw [if_neg hk,bql bsq];rfl
def az1 {P:Program} {ρ:Go.Shelf.Ren} [Inhabited α] (L:SlLaysF.n6 P ρ) (enc:α -> Value) (h1:∀ x,(enc x).oneCell' = true) (cf:α -> α -> Int) (hO:SWO (ltOf cf)) (hT:∀ x y,(ltOf cf) x y = false -> (ltOf cf) y x = false -> x = y) (g:Nat) (caps:Nat -> PV) (hg:∀ args w,(callFunc g args).run P w = .ok (.enter g args) w) (hc:∀ x y,a7 P g [.one (.raw (enc x)), .one (.raw (enc y))] (aa [.one (.raw (.int .i64 (cf x y)))])) (id:Nat) (e:TypeId) (l:List α) (hsz:l.length <= 8589934592):
 dq P (ρ.f 6) [.one (.ref id l.length), .one (.p (.fn g 0 caps))] [(id, .arr true 1 e l.length (lf (fun x _=>.raw (enc x)) l))] (.tup [])
  [(id, .arr true 1 e l.length (lf (fun x _=>.raw (enc x)) (l.mergeSort fun x y=>!(ltOf cf) y x)))] [id]:=by
 intro w c us hM hus
 match us,hus with
 | [u,v],⟨hu,hv,_⟩ =>
  obtain ⟨cs,rfl,hcl,_⟩:=hv;have hcs:cs = []:=bq2 hcl;subst hcs;have hl1:lk [(id,a8.arr true 1 e l.length (lf (fun x _=>.raw (enc x)) l))] id = some (.arr true 1 e l.length (lf (fun x _=>.raw (enc x)) l)):=by simp [lk]
  have hu2:=(hu.2.2 _ _ _ _ hl1 rfl).2 rfl;subst hu2;have hob:=hM.objs id _ hl1;obtain ⟨h0,hmax,h5⟩:=hob;have hlen:(l.mergeSort fun x y=>!(ltOf cf) y x).length = l.length:=bsn _
  have hev:∀ f':Nat -> Nat -> PV,Evo c (lk [(id,a8.arr true 1 e l.length (lf (fun x _=>.raw (enc x)) l))]) c (lk [(id,a8.arr true 1 e l.length f')]) id:=fun f' =>
   .inr (.inr ⟨_, .arr true 1 e l.length f',1,e,l.length,l.length,hl1,rfl,by simp [lk],rfl,bo9 _,fun _=>rfl,fun _ _ _ _ _ _ _ h=>by cases h⟩)
  rcases bqa l.length with hz | hpos
  ·
   have hl:l = []:=bq2 hz;subst hl
   have hform:∃ ad cap,c.own id = .slice ad 0 cap:=by
    rcases h5 with ⟨_,xs,h2,_⟩ | ⟨_,_,ad,cap,hv,_⟩
    · rcases h2.2 with ⟨hv,_⟩ | ⟨g,cap,cur,hv,_⟩
      · exact ⟨none,0,hv⟩
      exact ⟨_,cap,hv⟩
    exact ⟨ad,cap,hv⟩
   obtain ⟨ad,cap,hown⟩:=hform;have hms:([]:List α).mergeSort (fun x y=>!(ltOf cf) y x) = []:=by simp
   rw [hown,hms];refine (AnyF.slices_SortFunc_none { L with } ad cap (.func (.func g) #[] #[]) w).mono ?_;rintro e' w' ⟨rfl,rfl⟩
   exact ⟨_,c,rfl,⟨[],rfl,trivial⟩,hM,Below.refl _ _,fun _ _ _=>⟨rfl,rfl⟩,fun id0 ob b ho hb=>.inr ⟨id0,ob,ho,hb⟩,fun id0 hid=>by
    rw [bom.1 hid]
    exact Evo.refl _ _ _⟩
  obtain ⟨h6,xs,h2,h4⟩:c.blk id = jp (c.own id) /\ ∃ xs,w.ownsRow 0 e 1 (c.own id) l.length xs /\ ∀ i j,i < l.length -> j < 1 -> ∃ x,xs[i * 1 + j]? = some x /\ ay c.imm (lf (fun x _=>.raw (enc x)) l i j) x:=by
   rcases h5 with h5 | ⟨h6 | h6,_⟩
   · exact h5
   · cases h6
   omega
  obtain ⟨hxl,hrow⟩:=h2
  rcases hrow with ⟨_,hz⟩ | ⟨b,cap,cur,hown,hbase,hheap,hnc,hcm,hcs,htake⟩
  · omega
  have hblk:c.blk id b:=by rw [h6,hown];rfl
  have hlt:b < w.heap.size:=(boa.1 hheap).1
  have hcell:∀ j,(hj:j < l.length) -> cur[j]? = some (enc l[j]):=fun j hj=>by
   obtain ⟨x,hx,hr⟩:=h4 j 0 hj bsq;rw [bsi,bqo,<- htake,bpf,if_pos bsq,bqz] at hx;rw [hx];have hr:x = enc (l.getD j default) /\ _:=hr;rw [hr.1,bo7,bo6 hj];rfl
  have hH:Holds enc w b 0 l.toArray:=fun j hj=>by
   have hj:j < l.length:=by simpa using hj
   rw [bpc];refine ⟨?_,by simp [World.frozen?,hheap]⟩;have:l.toArray[j]! = l[j]:=by rw [getElem!_pos l.toArray j (by simpa using hj)];simp
   rw [this];simp [World.cell?,hheap,hcell j hj]
  have hcmp:CmpLays1 P g #[] enc cf b 0 l.toArray.size w:=by
   intro m os dk hdk x y
   have hcimm:∀ b' ob,c.imm b' = some ob -> (sortWorld enc w b 0 m dk os).heap[b']? = some ob:=fun b' ob hb'=>by
    have hne:b' ≠ b:=fun he=>by
     have:=hM.sep id _ b hl1 hblk;rw [<- he,hb'] at this;cases this
    have hw:=hM.imm b' ob hb';rw [a62 (boa.1 hw).1 hne];exact hw
   have h:=hc x y (sortWorld enc w b 0 m dk os) c.imm [enc x,enc y] c.tab hcimm ⟨⟨rfl,h1 x⟩,⟨rfl,h1 y⟩,trivial⟩;refine h.mono ?_;rintro e' w' ⟨v,imm',rfl,hr,_,_,hb⟩;obtain ⟨q,os',hq⟩:=avp hb;exact ⟨by rw [hr.1],q,os',hq⟩
  have hS:=Any.slices_SortFunc_total L enc h1 cf hO g #[] b 0 cap l.toArray w hg hcmp hH hlt (by rw [bpn];omega) hT;rw [hown];refine Calls.mono hS ?_;rintro e' w' ⟨rfl,m,os,rfl⟩;generalize hSd:(l.mergeSort fun x y=>!(ltOf cf) y x) = S at *
  refine ⟨_,c,rfl,⟨[],rfl,trivial⟩,⟨fun id0 ob ho=>?_,fun id0 id1 ob0 ob1 b' ho0 ho1 _ _=>(jg ho0).1.trans (jg ho1).1.symm,fun b' ob hb'=>?_,fun id0 ob b' ho hb'=>?_⟩,awa,
   fun b' hb' hno=>⟨a62 hb' (fun he=>hno id _ hl1 (by rw [he];exact hblk)),rfl⟩,fun id0 ob b' ho hb'=>.inr ⟨id,_,hl1,by rw [<- (jg ho).1];exact hb'⟩,fun id0 hid=>by
    rw [bom.1 hid]
    exact hev _⟩
  · obtain ⟨rfl,rfl⟩:=jg ho
    refine ⟨h0,hmax, .inl ⟨h6,S.map enc,⟨by simp [hlen], .inr ⟨b,cap,putCells enc 0 S.toArray cur,hown,hbase,avb hheap,hnc,hcm,by simpa [putCells] using hcs, ?_⟩⟩,fun i j hi hj=>?_⟩⟩
    · have:=b4s (enc:=enc) (d:=S.toArray) (cur:=cur) (by rw [bpn,hlen,hcs];omega)
      rw [bpn,hlen] at this;rw [bsi];exact this
    obtain rfl:j = 0:=by omega
    have hi':i < S.length:=by rw [hlen];exact hi
    refine ⟨enc S[i], ?_, ?_⟩
    · rw [bsi,bqo,boy,bo6 hi']
      rfl
    show ay c.imm (.raw (enc (S.getD i default))) _;rw [bo7,bo6 hi'];exact ⟨rfl,h1 _⟩
  · have hne:b' ≠ b:=fun he=>by
     have:=hM.sep id _ b hl1 hblk;rw [<- he,hb'] at this;cases this
    have hw:=hM.imm b' ob hb';rw [a62 (boa.1 hw).1 hne];exact hw
  have:=(jg ho).1;subst this;exact hM.sep id0 _ b' hl1 hb'
 | [],h=>exact h.elim
 | [_],⟨_,h⟩=>exact h.elim
 | _ :: _ :: _ :: _,⟨_,_,h⟩=>exact h.elim
def a3l {a b:AS}:ltOf a5o a b = bef a b:=b2v
def b50:SWO (ltOf a5o) where
 irrefl x:=by rw [a3l];exact a3s x
 trans x y z h k:=by rw [a3l] at *;exact vb h k
 ntrans x y z h k:=by
  rw [a3l] at *;rw [bol,ne_eq,p8] at *;omega
def srt (l:List AS):List AS:=l.mergeSort fun x y=>!bef y x
def arh:goodFn btb 214:=⟨Tryz.f214,Tryz.func214,by kernel_rfl,by kernel_rfl⟩
def b7n (id:Nat) (caps:Nat -> PV) (l:List AS) (hsz:l.length <= 8589934592):dq btb 214 [.one (.ref id l.length), .one (.p (.fn 215 0 caps))] [(id, .arr true 1 46 l.length (lf sC l))] (.tup [])
 [(id, .arr true 1 46 l.length (lf sC (srt l)))] [id]:=by
 have h:=az1 Tryz.laysSort (fun s:AS=>.int .u32 (asI s)) (fun _=>rfl) a5o b50 (fun x y h k=>by
  rw [a3l] at h k;apply Classical.byContradiction;intro hne
  rcases aan hne with h2 | h2
  · rw [h] at h2;cases h2
  rw [k] at h2;cases h2) 215 caps (enters_of Tryz.func215 (by kernel_rfl) rfl) (fun x y=>b3t x y) id 46 l hsz
 have e:(fun x y:AS=>!(ltOf a5o) y x) = fun x y=>!bef y x:=by
  funext x y;rw [a3l]
 rw [e] at h;exact h
def bdm {l:List AS} {x:AS}:x ∈ srt l <-> x ∈ l:=by unfold srt;exact List.mem_mergeSort
def a9h (l:List AS):(srt l).length = l.length:=bsn _
def a7n:∀ {l:List AS} {p:Option AS},l.Pairwise (fun a b=>bef b a = false) -> (∀ x,p = some x -> ∀ y ∈ l,bef y x = false) -> (mc p l).Pairwise (fun a b=>bef a b = true) /\ ∀ x,p = some x -> ∀ y ∈ mc p l,bef x y = true
 | [],p,_,_=>⟨by simp [mc],fun x _ y hy=>by simp [mc] at hy⟩
 | z :: l,p,h,hp=>by
  obtain ⟨h1,h2⟩:=bpi.1 h;simp only [mc];split
  · rename_i e
    subst e;exact a7n h2 fun x hx y hy=>hp x hx y (bpg _ hy)
  rename_i hne
  obtain ⟨q1,q2⟩:=a7n (p:=some z) h2 fun x hx y hy=>by
   simp only [bo5] at hx;subst hx;exact h1 y hy
  refine ⟨bpi.2 ⟨fun y hy=>q2 z rfl y hy,q1⟩,fun x hx y hy=>?_⟩
  have hxz:bef x z = true:=by
   have h3:=hp x hx z bp9
   rcases aan (a:=x) (b:=z) (fun e=>hne (by rw [hx,e])) with h4 | h4
   · exact h4
   rw [h3] at h4;cases h4
  rcases bok.1 hy with rfl | hy
  · exact hxz
  exact vb hxz (q2 z rfl y hy)
def a5f (l:List AS):jo (srt l) = ord l:=by
 refine apx (a7n ?_ fun x hx=>by cases hx).1 fun z=>by rw [ani,bdm]
 have h:=List.pairwise_mergeSort (le:=fun x y:AS=>!bef y x) (fun a b c h k=>by
  simp only [boz] at *;rw [bol,ne_eq,p8] at *
  omega) (fun a b=>by
  simp only [bph,boz];rw [bol,bol,ne_eq,ne_eq,p8,p8]
  omega) l
 refine h.imp fun {a b} hab=>?_;simpa using hab
end
end
section
abbrev vB (b:Bool):HR:=bn (.raw (.bool b))
abbrev bx (a:PV):PV:=.vp 1 fun j=>[a].getD j .any
def ws (W:AS -> AS -> Bool) (l:List AS) (x:AS):Bool:=l.any fun b=>decide (x ≠ b) && W x b
def wt (W:AS -> AS -> Bool) (l:List AS):List AS:=(ord l).filter fun x=>!ws W (ord l) x
def xw (a b:AS):Bool:=decide (sub a b)
def ef (l:List AS):List AS:=wt xw l
def yw (l:List AS):(ord l).Nodup:=(ja l).imp fun {a b} h e=>by
 subst e;rw [a3s] at h;cases h
def okT (l:List AS) (i k:Nat):Bool:=(List.range k).all fun j=>decide (j = i) || !xw (l.getD i default) (l.getD j default)
def bnj (l:List AS) (i:Nat):List AS:=((ord l).take i).filter fun x=>!ws xw (ord l) x
end
section
open Go.Proofs
def a0l:goodFn btb 169:=wgx Tryz.func169
def a94 (l:List AS) (hl:l.length <= 8589934592):a7 btb 169 [pP (asl l)] (aa [pP (asl (ord l))]):=by
 refine hpx (nt:=10) Tryz.func169 ?_;refine w_7 ?_;refine fc9 a78 (a42 l.length false (lf sC l) bsq) trivial ?_;refine w_5 ?_;refine fc9 arh (b7n 0 _ l hl) uu ?_;refine w_4 ?_;refine ik rfl rfl rfl rfl rfl rfl (wgx Tryz.func216) ((b29 (srt l)).swap 900 0) (⟨congrArg (HV.ref 0) (a9h l).symm,trivial⟩) ⟨⟨_,rfl,fw rfl (a9h l).symm⟩,trivial⟩ rfl rfl ?_;refine v_2 ?_;exact ⟨CoC.one (CoP.of_eq (by rw [a5f])),trivial⟩
def bbu (b x:AS) (g k:Nat) (caps:Nat -> PV) (W:AS -> AS -> Bool) (hg:goodFn btb g) (hW:∀ x y,a7 btb g (pA x :: pA y :: j2 caps k 0) (aa [pB (W x y)])):a7 btb 186 [pA b,pP (bx (asC x)),pP (bx (.fn g k caps))] (aa [pB (decide (x ≠ b) && W x b)]):=by
 refine hpx (nt:=14) Tryz.func186 ?_;refine d5 ?_;refine ai rfl rfl (fun r0=>?_) (fun r0=>?_)
 ·
  have h0:=tz2 (ci r0);(iterate 3 refine qy ?_ (hg:=(gtt r0)));refine rc rfl rfl rfl rfl rfl rfl hg (hW x b) (CoL.refl _) rfl (gtt r0) ?_;refine w_3 ?_
  exact hx8 rfl rfl rfl (⟨ccb (by simp_all [ck]),trivial⟩)
 have h0:=tz1 (cj r0);(iterate 4 refine k9 (gft r0) ?_);refine w_3 ?_
 exact hx8 rfl rfl rfl (⟨ccb (by simp_all [ck]),trivial⟩)
def bgs (x:AS) (l:List AS) (g k:Nat) (caps:Nat -> PV) (W:AS -> AS -> Bool) (hg:goodFn btb g) (hW:∀ x y,a7 btb g (pA x :: pA y :: j2 caps k 0) (aa [pB (W x y)])):a7 btb 185 [pA x,pP (bx (asl l)),pP (bx (.fn g k caps))] (aa [pB (ws W l x)]):=by
 refine hpx (nt:=8) Tryz.func185 ?_;refine sx7 ?_;refine m9 0 ?_;refine w_3 ?_;refine dc 3 rfl rfl rfl ?_;refine w_3 ?_;refine qcx agj (awf l 186 2 (fun i=>[bx (asC x),bx (.fn g k caps)].getD i .any) (fun b=>decide (x ≠ b) && W x b) (wgx Tryz.func186) (fun b=>bbu b x g k caps W hg hW)) ?_;refine v_2 ?_;exact CoL.refl _
def b6g (l:List AS) (hl:l.length <= 8589934592) (g k:Nat) (caps:Nat -> PV) (W:AS -> AS -> Bool) (hg:goodFn btb g) (hW:∀ x y,a7 btb g (pA x :: pA y :: j2 caps k 0) (aa [pB (W x y)])):a7 btb 137 [pP (asl l),pP (.fn g k caps)] (aa [pP (asl (wt W l))]):=by
 refine hpx (nt:=12) Tryz.func137 ?_;refine sx7 ?_;refine m9 2 ?_;refine w_5 ?_;refine qcx a0l (a94 l hl) ?_;refine m9 3 ?_;refine w_3 ?_;refine dc 5 rfl rfl rfl ?_;refine dc 3 rfl rfl rfl ?_;refine w_2 ?_;refine fc9 a78 (a42 (ord l).length false (lf sC (ord l)) (bon (n3 l) bsq)) trivial ?_;refine qy ?_;refine fc9 ah1 ((av0 (ord l) 185 2 (fun i=>[bx (asl (ord l)),bx (.fn g k caps)].getD i .any) (ws W (ord l)) (wgx Tryz.func185) (fun x=>bgs x (ord l) g k caps W hg hW)).swap 900 0) uu ?_;refine v_2 ?_;exact CoL.refl _
def bjm (a b:AS):a7 btb 138 [pA a,pA b] (aa [pB (xw a b)]):=by
 refine hpx (nt:=9) Tryz.func138 ?_;refine i6 ?_;exact hx8 rfl rfl rfl (⟨ccb (decide_eq_decide.2 k6),trivial⟩)
def aet:goodFn btb 75:=wgx Tryz.func75
def a6i (l:List AS) (hl:l.length <= 8589934592):a7 btb 75 [pP (asl l)] (aa [pP (asl (ef l))]):=by
 refine hpx (nt:=5) Tryz.func75 ?_;refine w_7 ?_;refine qcx (wgx Tryz.func137) (b6g l hl 138 0 _ xw (wgx Tryz.func138) (fun a b=>bjm a b)) ?_;refine v_2 ?_;exact CoL.refl _
end
section
def io (l:List Fd):List Fd:=l.foldl (fun o x=>if x ∈ o then o else o ++ [x]) []
section
variable {i:Nat} {l:List Fd}
def adm (hi:i < l.length):io (l.take (i + 1)) = if l.getD i default ∈ io (l.take i) then io (l.take i) else io (l.take i) ++ [l.getD i default]:=by
 unfold io;rw [aw hi,bpk];rfl
def amw {s:Fd}:(l.any fun x=>decide (x = s)) = decide (s ∈ l):=by
 rw [bqf,bp4,decide_eq_true_iff];constructor
 · rintro ⟨x,hx,h⟩
   exact of_decide_eq_true h ▸ hx
 intro h;exact ⟨s,h,decide_eq_true rfl⟩
def aaf (hi:i < l.length) (h:((io (l.take i)).any fun x=>decide (x = l.getD i default)) = false):io (l.take (i + 1)) = io (l.take i) ++ [l.getD i default]:=by
 rw [amw] at h;rw [adm hi,if_neg (of_decide_eq_false h)]
def aad (hi:i < l.length) (h:((io (l.take i)).any fun x=>decide (x = l.getD i default)) = true):io (l.take (i + 1)) = io (l.take i):=by
 rw [amw] at h;rw [adm hi,if_pos (of_decide_eq_true h)]
def a71:∀ (l o:List Fd),(l.foldl (fun o x=>if x ∈ o then o else o ++ [x]) o).length <= o.length + l.length /\ ∀ z,z ∈ l.foldl (fun o x=>if x ∈ o then o else o ++ [x]) o <-> z ∈ o \/ z ∈ l
 | [],o=>⟨by simp,fun z=>by simp⟩
 | x :: l,o=>by
  obtain ⟨h1,h2⟩:=a71 l (if x ∈ o then o else o ++ [x]);simp only [bq6];refine ⟨?_,fun z=>?_⟩
  · refine bon h1 ?_
    split <;> simp <;> omega
  rw [h2 z,bok];split
  · rename_i hx
    constructor
    · rintro (h | h) <;> simp [h]
    rintro (h | rfl | h)
    · exact .inl h
    · exact .inl hx
    exact .inr h
  rw [boj,bom];constructor
  · rintro ((h | h) | h) <;> simp [h]
  rintro (h | h | h) <;> simp [h]
def a7u (l:List Fd):(io l).length <= l.length:=by
 have:=(a71 l []).1;simpa [io] using this
def lz {z:Fd}:z ∈ io l <-> z ∈ l:=by
 have:=(a71 l []).2 z;simpa [io] using this
def bne (l:List Fd) (i k:Nat):Bool:=(l.take k).any fun x=>decide (x = l.getD i default)
def qh (f:Fd):List Fd:=(al (f.rhs &&& ~~~f.lhs)).map fun a=>(⟨f.lhs,(1:AS) <<< a⟩:Fd)
def gt (l:List Fd):List Fd:=(l.map qh).flatten
def qd (l:List Fd) (i k:Nat):List Fd:=gt (l.take i) ++ (qh (l.getD i default)).take k
def a6o (f:Fd):(qh f).length = (al (f.rhs &&& ~~~f.lhs)).length:=by unfold qh;rw [bp2]
def qc (s:AS):(al s).length <= 32:=by rw [<- vc];exact aer s
def abk (l:List Fd) (i:Nat):qd l i 0 = gt (l.take i):=by unfold qd;rw [List.take_zero,bpd]
def ab2 {k:Nat} {m:List Nat} (hm:m = al ((l.getD i default).rhs &&& ~~~(l.getD i default).lhs)) (hk:k < m.length):qd l i (k + 1) = qd l i k ++ [⟨(l.getD i default).lhs,(1:AS) <<< m.getD k default⟩]:=by
 subst hm;unfold qd;generalize l.getD i default = x at *;rw [List.take_add_one,bpo];congr 1;congr 1;unfold qh;rw [boy,bo6 hk,bo7,bo6 hk];rfl
def adw (hi:i < l.length) {k:Nat} (hk:k = (al ((l.getD i default).rhs &&& ~~~(l.getD i default).lhs)).length):qd l i k = gt (l.take (i + 1)):=by
 subst hk;unfold qd gt;rw [<- a6o,bog,aw hi,bqi,List.flatten_append];simp
def a6s (l:List Fd):(gt l).length <= 32 * l.length:=by
 induction l with
 | nil=>simp [gt]
 | cons x l ih =>
  have h:gt (x :: l) = qh x ++ gt l:=by simp [gt]
  have h2:=a6o x;have h3:=qc (x.rhs &&& ~~~x.lhs);rw [h,bob,bov];omega
def avj {k:Nat} (hi:i <= l.length):(qd l i k).length <= 32 * l.length + 32:=by
 have h1:=a6s (l.take i);have h2:=qc ((l.getD i default).rhs &&& ~~~(l.getD i default).lhs);rw [boi] at h1;unfold qd;rw [bob,boi,a6o];omega
def exB (l:List Fd) (x:Fd) (a:Nat):Bool:=imp l ⟨x.lhs &&& ~~~((1:AS) <<< a),x.rhs⟩
def aal (s:AS) (a:Nat):ap .andNot .u32 (asI s) (IntKind.wrap .u32 (1 * 2 ^ (min a 32))) = asI (s &&& ~~~((1:AS) <<< a)):=by
 rw [show IntKind.wrap .u32 (1 * 2 ^ (min a 32)) = asI ((1:AS) <<< a) from al1 1 a,it]
def b8u (a:Nat):IntKind.wrap .u32 (1 * 2 ^ (min a 32)) = asI ((1:AS) <<< a):=al1 1 a
def dm (l:List Fd) (i:Nat):List Fd:=l.take i ++ l.drop (i + 1)
def uq (l:List Fd) (i:Nat):Bool:=imp (dm l i) (l.getD i default)
def lv (hi:i < l.length):(dm l i).length = l.length - 1:=by unfold dm;rw [bob,boi,bpy];omega
end
end
section
open Go.Proofs Go.Lib Go.RowKit
set_option maxHeartbeats 4000000 in
set_option maxRecDepth 100000 in
def amn (k:Nat) (hk:0 < k) (hbig:k * 8 <= 140737488355328) (w:World) (ad:Option Addr) :
 Calls btb 278 #[.slice ad 0 0, .int .i64 k] w fun e w'=>∃ G ROW,e = .returned (.slice (some ⟨w.heap.size,0,none⟩) 0 G) /\ G <= maxLen /\ w' = w.drew.alloc (.cells ROW 48) /\ ROW.size = G * 2:=by
 obtain ⟨i0,z,hi0,hz0,hzs,hzb,hzc⟩:∃ i0 z,btb.info? 48 = some i0 /\ i0.zero = some z /\ i0.size = 2 /\ i0.bytes = 8 /\ z.cells.size = 2:=by
  have h:(btb.info? 48).map (fun i=>(i.zero.map (fun z=>z.cells.size),i.size,i.bytes)) = some (some 2,2,8):=by kernel_rfl
  cases hq:btb.info? 48 with
  | none=>rw [hq] at h;cases h
  | some i0 =>
   rw [hq] at h
   cases hz:i0.zero with
   | none=>simp [hz] at h
   | some z=>simp [hz] at h;exact ⟨i0,z,rfl,hz,h.2.1,h.2.2,h.1⟩
 have hc:0 + k <= maxLen:=by unfold maxLen;omega
 have hold:(Builtin.firstCells i0.size 0 (.slice ad 0 0)).run btb w.drew = .ok (([]:List Value)).toArray w.drew:=by
  cases ad with
  | none=>exact run_firstCells_none w.drew _ _ _ _
  | some a=>exact run_firstCells_some w.drew _ 0 a 0 0 [] bst (fun j v hj=>by simp at hj)
 obtain ⟨G,hG⟩:∃ G,G = grownCap w (0 + k) 0 48:=⟨_,rfl⟩;have hGn:0 + k <= G:=by rw [hG];exact grownCap_ge w _ _ _
 have hGm:G <= maxLen:=by rw [hG];exact grownCap_le_maxLen w (0 + k) 0 48 hc
 obtain ⟨ROW,hROW⟩:∃ ROW:Array Value,ROW = ([]:List Value).toArray ++ Builtin.zeroCells z.cells k ++ Builtin.zeroCells z.cells (G - (0 + k)):=⟨_,rfl⟩
 have hrz:(Builtin.append_ #[26,3] 26 #[.slice ad 0 0, .int .i64 (k:Int)]).run btb w = .ok (.slice (some ⟨w.heap.size,0,none⟩) k G) (w.drew.alloc (.cells ROW 48)):=by
  have h:=Lib.run_append_grow_zeros w 26 3 26 48 i0 z .i64 .i64 Tryz.underlying26 Tryz.underlying3 hi0 hz0 ad 0 0 [] hold k hk bsq bsq (by unfold maxLen at hc;omega) (by rw [hzb];omega) (by rw [hzb,bpc];exact growslice_fits bsq hbig);rw [<- hG,<- hROW] at h;rw [h];simp
 have hRs:ROW.size = G * 2:=by
  rw [hROW];simp only [br3,bpn,bps,size_zeroCells,hzc];omega
 have mixed:=zg;have hcM:G <= 9223372036854775807:=by unfold maxLen at hGm;omega
 have hk0:¬ ((k:Int) < 0):=by omega
 have hk1:(0:Int) < (k:Int):=by omega
 have hw1:IntKind.i64.wrap (k:Int) = (k:Int):=by rw [IntKind.wrap_i64];omega
 clear hG hROW hold
 rcases ad with _ | ⟨ab,ao,asp⟩
 all_goals go_enter Tryz.func278,Tryz.ntmps278
 all_goals go_wp2_with (at_builtin;refine Lib.wpList_append_run _ rfl _ _ _ _ rfl _ _ rfl rfl _ _ hrz ?_)
 all_goals go_ret
 all_goals first | exact ⟨G,ROW,rfl,hGm,rfl,hRs⟩ | exact ⟨G,rfl,hGm,ROW,rfl,hRs⟩
def al3 (w:World) (ad:Option Addr):Calls btb 278 #[.slice ad 0 0, .int .i64 0] w fun e w'=>e = .returned (.slice ad 0 0) /\ w' = w:=by
 have mixed:=zg
 go_enter Tryz.func278,Tryz.ntmps278
 go_wp2
 go_ret
 exact ⟨rfl,rfl⟩
def bkx (k a:Nat) (hk:k <= 68719476736) (F:Nat -> Nat -> PV) :
 dq btb 278 [.one (.p (me (.slice none 0 0))), .one (.p (.raw (.int .i64 k)))] [] (.v (.one (.ref a 0))) [(a, .arr true 2 48 0 F)] []:=by
 refine b3a bsq fun w ad=>?_
 rcases bqa k with rfl | hk0
 · refine (al3 w ad).mono ?_
   rintro e w' ⟨rfl,rfl⟩;exact ⟨_,rfl,Below.refl _ _, .inl rfl⟩
 refine (amn k hk0 bsq w ad).mono ?_;rintro e w' ⟨G,ROW,rfl,hG,rfl,hR⟩;refine ⟨_,rfl,⟨rfl,rfl,rfl, ?_,fun q hq=>bfu w.drew _ hq,br5 _⟩, .inr ⟨⟨by simp, .inr ⟨_,G,ROW,rfl,boe _,heap_alloc_new w.drew _,boe _,hG,hR,by simp⟩⟩,fun g hg=>?_⟩⟩
 · show _ <= (w.heap.push _).size
   rw [Array.size_push];omega
 have:w.heap.size = g:=by simpa [da] using hg
 omega
end
section
open Go.Proofs
def axc (l:List Fd) (hl:l.length <= 16777216):dq btb 231 [.one (.p (fdl l))] [] (.v (.one (.ref 900 (io l).length))) [(900, .arr true 2 48 (io l).length (lf Fd.c (io l)))] []:=by
 refine hfx (nt:=22) Tryz.func231 ?_;refine d5 ?_;refine cq 0 rfl fun hn=>?_;refine w_6 ?_;refine ct 3 900 true 2 48 (lf Fd.c []) bsu rfl (CoP.sl rfl (.inr rfl) (fun h=>h) (fun i j hi _=>absurd hi (bod i))) (.inr rfl) rfl ?_;refine bp (ka 6 (ka 7 kn)) km (fun i=>⟨[(3,some (.v (.one (.ref 900 (io (l.take i)).length)))),(8,some (vI i))],[(900,some (.arr true 2 48 (io (l.take i)).length (lf Fd.c (io (l.take i)))))]⟩) l.length kk ?_;rintro i hi;have hlen:=a7u (l.take i);rw [boi] at hlen;refine w_5 ?_;refine hcd (fun h0=>?_) (fun h0=>?_)
 ·
  refine w_7 ?_;refine m9 0 ?_;refine w_6 ?_;refine qcx (wgx Tryz.func253) (bm0 (io (l.take i)) (l.getD i default)) ?_;refine w_2 ?_;refine am _ rfl (fun r1=>?_) (fun r1=>?_)
  ·
   have h1:=ci r1;have hc:=ci r1;refine w_3 ?_;refine m9 1 ?_;refine r9 2 true ?_;refine w_6 ?_
   first | (refine lpz (i + 1) ⟨⟨⟨_, rfl, (c8 (aaf bsq hc))⟩, tt⟩, ⟨⟨_, rfl, (v6 (aaf bsq hc) (CoP.refl _) (CoP.refl _))⟩, trivial⟩⟩ ?_; show i + 1 <= _; omega)
         | (refine lpz (i + 1) ⟨⟨⟨_,rfl,(ce (aad bsq hc))⟩,tt⟩,⟨⟨_,rfl,(bv (aad bsq hc))⟩,trivial⟩⟩ ?_;show i + 1 <= _;omega)
  have h1:=cj r1;have hc:=cj r1;refine w_5 ?_
  first | (refine lpz (i + 1) ⟨⟨⟨_, rfl, (c8 (aaf bsq hc))⟩, tt⟩, ⟨⟨_, rfl, (v6 (aaf bsq hc) (CoP.refl _) (CoP.refl _))⟩, trivial⟩⟩ ?_; show i + 1 <= _; omega)
        | (refine lpz (i + 1) ⟨⟨⟨_,rfl,(ce (aad bsq hc))⟩,tt⟩,⟨⟨_,rfl,(bv (aad bsq hc))⟩,trivial⟩⟩ ?_;show i + 1 <= _;omega)
 obtain rfl:i = l.length:=by omega
 refine w_6 ?_;refine hrr ?_;exact ⟨_,_,rfl,bss,CoR.of_eq (by rw [bog];rfl),⟨⟨_,rfl,fw (by rw [bog]) (by rw [bog])⟩,trivial⟩⟩
def bjr (l:List Fd) (hl:l.length <= 16777216):a7 btb 231 [pP (fdl l)] (aa [pP (fdl (io l))]) :=
 dq.pure (args:=[pP (fdl l)]) (l:=[.one (.ref 900 (io l).length)]) (axc l hl) rfl ⟨rfl,trivial⟩
end
section
def b2o {α:Type} [Inhabited α] {s n k':Nat} {k:Int} {cl:Bool} {c:α -> Nat -> PV} {l:List α} (h:k.toNat = k') (hk:k' <= l.length) :
 CoP (.sl (ek (az n (some k)) none) s cl (uj (lf c l) none)) (psl s c (l.take k')):=by
 subst h;exact ard hk
def b3h {α:Type} [Inhabited α] {s n k':Nat} {k:Int} {cl:Bool} {c:α -> Nat -> PV} {l:List α} (hn:n = l.length) (h:k.toNat = k'):CoP (.sl (ek n (some k)) s cl (uj (lf c l) (some k))) (psl s c (l.drop k')):=by
 subst h hn;exact bda
def am6 {l:List Fd} {i:Nat}:[l.take i,l.drop (i + 1)].flatten = dm l i:=by simp [dm]
def bba {l:List Fd} {i:Nat} (hi:i < l.length) (hl:l.length <= 16777216):[l.take i,l.drop (i + 1)].flatten.length <= 16777216:=by
 rw [am6,lv hi];omega
def bj1 {x:Fd} {b:Int} {s:AS} (h:b = asI s):CoC (.agg [.raw (.int .u32 b), .raw (.int .u32 (asI x.rhs))]) (Fd.pc ⟨s,x.rhs⟩):=by
 subst h;exact CoC.refl _
end
section
open Go.Proofs
def rwC (l:List Fd):Nat -> PV
 | 0=>fdl l
 | _=>.any
abbrev bls (ls:List (List Fd)):PV:=psl 1 rwC ls
def b8b (ls:List (List Fd)) (h:ls.flatten.length <= 16777216):a7 btb 254 [pP (bls ls)] (aa [pP (fdl ls.flatten)]):=by
 refine hpx (nt:=36) Tryz.func254 ?_;refine d5 ?_;refine cq 0 rfl (fun hn=>?_);refine w_6 ?_;refine bp (ka 0 (ka 9 (ka 10 kn))) km (fun i=>⟨[(3,some (vI (ls.take i).flatten.length)),(11,some (vI i))],[]⟩) ls.length kk ?_;rintro i hi;refine w_5 ?_;refine hcd (fun h0=>?_) (fun h0=>?_)
 ·
  have hts:(ls.take (i + 1)).flatten.length = (ls.take i).flatten.length + (ls.getD ((i:Nat):Int).toNat default).length:=by rw [tsf _ _ bsq,bob];rfl
  have hfl:(ls.take i).flatten.length + (ls.getD ((i:Nat):Int).toNat default).length <= ls.flatten.length:=a7z ls i bsq;refine an8 ?_;refine hcd (fun h1=>?_) (fun h1=>?_)
  · exfalso;omega
  refine w_5 ?_;refine lpz (i + 1) kk ?_;show i + 1 <= _;omega
 obtain rfl:i = ls.length:=by omega
 have hfe:(ls.take ls.length).flatten.length = ls.flatten.length:=by rw [bog]
 refine w_4 ?_;refine fc9 (wgx Tryz.func278) (bkx (ls.take ls.length).flatten.length 900 bsq (lf Fd.c [])) trivial ?_;refine d5 ?_;refine bp (ka 25 (ka 26 kn)) km (fun i=>⟨[(6,some (.v (.one (.ref 900 (ls.take i).flatten.length)))),(27,some (vI i))],[(900,some (.arr true 2 48 (ls.take i).flatten.length (lf Fd.c (ls.take i).flatten)))]⟩) ls.length kk ?_;rintro i hi;refine w_5 ?_;refine hcd (fun h2=>?_) (fun h2=>?_)
 ·
  have hts:(ls.take (i + 1)).flatten.length = (ls.take i).flatten.length + (ls.getD ((i:Nat):Int).toNat default).length:=by rw [tsf _ _ bsq,bob];rfl
  have hfl:(ls.take i).flatten.length + (ls.getD ((i:Nat):Int).toNat default).length <= ls.flatten.length:=a7z ls i bsq;refine i6 ?_;refine r9 0 true ?_;refine w_6 ?_;refine lpz (i + 1) ⟨⟨⟨_,rfl,(CoR.of_eq (by rw [hts]))⟩,tt⟩,⟨⟨_,rfl,(by rw [tsf _ _ bsq];exact ayy _ (fun h=>h) rfl (fun i j hi hj=>CoP.refl _))⟩,trivial⟩⟩ ?_;show i + 1 <= _;omega
 obtain rfl:i = ls.length:=by omega
 refine w_6 ?_;refine hrr ?_;rw [show ls.flatten = (ls.take ls.length).flatten by rw [bog]];exact f9 rfl rfl (CoL.refl _)
def asc (l:List Fd) (i:Nat) (hi:i < l.length) (hl:l.length <= 16777216):a7 btb 233 [pP (fdl l),pI i] (aa [pP (fdl (dm l i))]):=by
 refine hpx (nt:=14) Tryz.func233 ?_;refine w_5 ?_;have hll:=bba hi hl;refine w_8 ?_;refine m9 0 ?_;refine fc9 (wgx Tryz.func254) (a7.eat (hcs:=[.one (.ref 0 2)]) (o1:=[(0, .arr true 1 26 2 (lf rwC [l.take i,l.drop (i + 1)]))]) (b8b [l.take i,l.drop (i + 1)] hll) rfl (by (repeat' apply And.intro) <;> first | trivial | rfl) (CoL.refl _)) ⟨⟨_,rfl,⟨fun h=>h,rfl,rfl,rfl,fun i j hi hj=>(by have hi:i < 2:=hi;have hj:j < 1:=hj;obtain rfl:j = 0:=bsq;rcases (show i = 0 \/ i = 1 by omega) with rfl | rfl;exact b2o rfl bsq;exact b3h rfl bsq)⟩⟩,trivial⟩ ?_;refine v_3 ?_;exact ⟨CoC.one (CoP.of_eq (by rw [am6])),trivial⟩
def bhb (l:List Fd) (i:Nat) (hi:i < l.length) (hl:l.length <= 16777216):a7 btb 232 [pP (fdl l),pI i] (aa [pB (uq l i)]):=by
 refine hpx (nt:=13) Tryz.func232 ?_;refine w_8 ?_;refine qcx (wgx Tryz.func233) (asc l i hi hl) ?_;refine w_4 ?_;refine qcx (wgx Tryz.func252) (bf9 (dm l i) (l.getD i default)) ?_;refine v_3 ?_;exact CoL.refl _
def bep (l:List Fd) (x:Fd) (a:Nat):a7 btb 230 [pP (fdl l),x.pc,pI a] (aa [pB (exB l x a)]):=by
 refine hpx (nt:=17) Tryz.func230 ?_;refine sx7 ?_;refine m9 0 ?_;refine kw ?_;refine rc rfl rfl rfl rfl rfl rfl (wgx Tryz.func252) (bf9 l ⟨x.lhs &&& ~~~((1:AS) <<< a),x.rhs⟩) (⟨CoC.refl _,bj1 (aal _ _),trivial⟩) rfl rfl ?_;refine v_3 ?_;exact CoL.refl _
end
section
def bn1 (l:List Fd) (i k:Nat):List Fd:=gt (l.take i) ++ (fq ((l.getD i default).rhs &&& ~~~(l.getD i default).lhs) k).map fun a=>(⟨(l.getD i default).lhs,(1:AS) <<< a⟩:Fd)
def a5b (x:Fd) (a:Nat):Fd:=⟨x.lhs &&& ~~~((1:AS) <<< a),x.rhs⟩
def fv (i:Nat) (l:List Fd) (a:Nat):List Fd:=if bw (l.getD i default).lhs a && exB l (l.getD i default) a then l.set i (a5b (l.getD i default) a) else l
def tl (l:List Fd) (i k:Nat):List Fd:=((al (l.getD i default).lhs).take k).foldl (fv i) l
def a4y (l:List Fd) (i:Nat):List Fd:=(al (l.getD i default).lhs).foldl (fv i) l
def jx (l:List Fd) (i:Nat):List Fd:=(List.range i).foldl a4y l
section
variable {a i:Nat} {l:List Fd}
def a64:(fv i l a).length = l.length:=by
 unfold fv;split
 · rw [bqg]
 rfl
def a87:∀ (m:List Nat) (l:List Fd),(m.foldl (fv i) l).length = l.length
 | [],l=>rfl
 | a :: m,l=>by rw [bq6,a87 m,a64]
variable {k:Nat}
def apc:(tl l i k).length = l.length:=a87 _ _
def b2w:(a4y l i).length = l.length:=a87 _ _
def ny:∀ {i:Nat},(jx l i).length = l.length
 | 0=>rfl
 | i + 1=>by
  unfold jx;rw [bq7,bpk];show (a4y ((List.range i).foldl a4y l) i).length = _;rw [b2w];exact ny (i:=i)
def vw (l:List Fd) (i:Nat):jx l (i + 1) = a4y (jx l i) i:=by
 unfold jx;rw [bq7,bpk];rfl
def aym (l:List Fd) (i:Nat):tl l i 0 = l:=by unfold tl;rw [List.take_zero];rfl
def b5j (hk:k = (al (l.getD i default).lhs).length):tl l i k = a4y l i:=by
 unfold tl a4y;rw [hk,bog]
def a1s (hk:k < (al (l.getD i default).lhs).length):tl l i (k + 1) = fv i (tl l i k) ((al (l.getD i default).lhs).getD k default):=by
 unfold tl;rw [aw hk,bpk];rfl
def a29 {x:Fd} (hi:i < l.length):(l.set i x).getD i default = x:=by simp [List.getD,hi]
def b55 {b:Nat} (hi:i < l.length) (hb:b < 32) (hne:b ≠ a):((fv i l a).getD i default).lhs.getLsbD b = (l.getD i default).lhs.getLsbD b:=by
 unfold fv;split
 · rw [a29 hi]
   show ((l.getD i default).lhs &&& ~~~((1:AS) <<< a)).getLsbD b = _;rw [boh,bp7,ey _ _ hb];simp [hb,hne]
 rfl
def ajl {b:Nat} (hb:b < 32):∀ (m:List Nat) (l:List Fd),i < l.length -> (∀ a ∈ m,b ≠ a) -> ((m.foldl (fv i) l).getD i default).lhs.getLsbD b = (l.getD i default).lhs.getLsbD b
 | [],l,_,_=>rfl
 | a :: m,l,hi,h=>by
  rw [bq6,ajl hb m _ (by rw [a64];exact hi) fun c hc=>h c (bpg _ hc),b55 hi hb (h a bp9)]
def aux (s:AS):(al s).Pairwise (· < ·):=List.Pairwise.filter _ List.pairwise_lt_range
def ang {m:List Nat} (hk:k < m.length):m.getD k default = m[k]:=by simp [List.getD,hk]
def b1l {m:List Nat} (hk:k < m.length):m.getD k default ∈ m:=by rw [ang hk];exact bp3 hk
def b5c (hi:i < l.length) (hk:k < (al (l.getD i default).lhs).length):bw ((tl l i k).getD i default).lhs (((al (l.getD i default).lhs).getD k default:Nat):Int) = true:=by
 have hm:(al (l.getD i default).lhs).getD k default ∈ al (l.getD i default).lhs:=b1l hk;obtain ⟨h1,h2⟩:=gi.1 hm;rw [cb h1];unfold tl;rw [ajl h1 _ _ hi,h2];intro a ha;obtain ⟨j,hj,rfl⟩:=bou ha;rw [boi] at hj;rw [List.getElem_take,ang hk];have:=bqd.1 (aux (l.getD i default).lhs) j k bsq hk bsq;exact Nat.ne_of_gt this
def an4 (h:bw (l.getD i default).lhs a = true) (h2:exB l (l.getD i default) a = true):fv i l a = l.set i (a5b (l.getD i default) a):=by unfold fv;rw [h,h2];rfl
def amq (h2:exB l (l.getD i default) a = false):fv i l a = l:=by unfold fv;rw [h2];simp
def b1c (h:bw (l.getD i default).lhs a = false):fv i l a = l:=by unfold fv;rw [h];rfl
def arl {wr wr':Bool} {n:Nat} {e:TypeId} {l':List Fd} {v:Int} (hl:l' = l.set i (a5b (l.getD i default) a)) (hv:v = asI ((l.getD i default).lhs &&& ~~~((1:AS) <<< a))) (hk:k = i) (hi:i < l.length) (hn:n = l.length) (hw:wr' = true -> wr = true:=by exact fun h=>h):
 CoO (.arr wr 2 e n (fj (lf Fd.c l) k 0 [.raw (.int .u32 v)])) (.arr wr' 2 e n (lf Fd.c l')):=by
 subst hl hv hk hn;refine ⟨hw,rfl,rfl,rfl,fun r j hr hj=>CoP.of_eq ?_⟩;unfold fj lf;by_cases h:r = k
 · subst h
   rw [a29 hi]
   rcases (by omega:j = 0 \/ j = 1) with rfl | rfl
   · rw [if_pos ⟨rfl,bo9 _,by simp⟩]
     rfl
   rw [if_neg bst];rfl
 rw [if_neg bsq,getD_set_ne' h]
def aue {n:Nat} {cl:Bool} (h:n = l.length):CoP (.sl n 2 cl (lf Fd.c l)) (fdl l):=CoP.sl h.symm (.inl rfl) (fun h=>by cases h) fun _ _ _ _=>CoP.refl _
def l5:Nat -> List Fd -> Nat -> List Fd
 | 0,l,_=>l
 | f + 1,l,i=>if i < l.length then (if uq l i then l5 f (dm l i) i else l5 f l (i + 1)) else l
def au1 (hi:i < l.length) (h:uq l i = true):l5 (l.length - i) l i = l5 ((dm l i).length - i) (dm l i) i:=by
 rw [lv hi,show l.length - i = (l.length - 1 - i) + 1 by omega];show (if i < l.length then (if uq l i then _ else _) else l) = _;rw [if_pos hi,h];rfl
def as7 (hi:i < l.length) (h:uq l i = false):l5 (l.length - i) l i = l5 (l.length - (i + 1)) l (i + 1):=by
 rw [show l.length - i = (l.length - (i + 1)) + 1 by omega];show (if i < l.length then (if uq l i then _ else _) else l) = _;rw [if_pos hi,h];rfl
def azd (hi:¬ i < l.length):l5 (l.length - i) l i = l:=by rw [show l.length - i = 0 by omega];rfl
def spl (l:List Fd):List Fd:=io (gt l)
def a1a (l:List Fd):List Fd:=io (jx (spl l) (spl l).length)
def nn (l:List Fd):List Fd:=l5 (a1a l).length (a1a l) 0
def auf (l:List Fd):(spl l).length <= 32 * l.length:=bon (a7u _) (a6s l)
def af8 (l:List Fd):(a1a l).length <= 32 * l.length:=bon (a7u _) (by rw [ny];exact auf l)
def w8 (t:AS) (l:List Fd):Prop:=∀ x ∈ l,sub x.lhs t
def b9z {t:AS} (h:w8 t l):w8 t (fv i l a):=by
 unfold fv;split
 · rename_i hc
   intro x hx
   rcases brx hx with hx | rfl
   · exact h x hx
   by_cases hi:i < l.length
   · have:=h (l.getD i default) (by rw [bo7,bo6 hi];exact bp3 hi)
     refine ak (ae.2 fun k hk hb=>?_) this;have hb:((l.getD i default).lhs &&& ~~~((1:AS) <<< a)).getLsbD k = true:=hb;rw [boh,boc] at hb;exact hb.1
   rw [br1 bsq] at hx;exact h _ hx
 exact h
def am1 {t:AS}:∀ (m:List Nat) (l:List Fd),w8 t l -> w8 t (m.foldl (fv i) l)
 | [],_,h=>h
 | a :: m,l,h=>am1 m _ (b9z h)
def atl {t:AS} (h:w8 t l):∀ i,w8 t (jx l i)
 | 0=>h
 | i + 1=>by rw [vw];exact am1 _ _ (atl h i)
def bi8 {t:AS} (h:w8 t l):w8 t (spl l):=by
 intro x hx;have hx:=lz.1 hx;unfold gt at hx;obtain ⟨ys,hys,hxy⟩:=bs7.1 hx;obtain ⟨f,hf,rfl⟩:=boo.1 hys;unfold qh at hxy;obtain ⟨a,_,rfl⟩:=boo.1 hxy;exact h f hf
def b2j {n:Int} (h:au n l = 0):w8 (a6 n) l:=by
 obtain ⟨h0,h1,_,h3⟩:=f8 h;intro x hx;exact ((pf h0 h1).1 (bp1.1 h3 x hx)).1
end
end
section
open Go.Proofs
def bdd (l:List Fd) (hl:l.length <= 4096):dq btb 229 [.one (.p (fdl l))] [] (.v (.one (.ref 900 (spl l).length))) [(900, .arr true 2 48 (spl l).length (lf Fd.c (spl l)))] []:=by
 refine hfx (nt:=37) Tryz.func229 ?_;refine d5 ?_;refine cq 0 rfl fun hn=>?_;refine w_6 ?_;refine ct 3 901 true 2 48 (lf Fd.c []) bsu rfl (CoP.sl rfl (.inr rfl) (fun h=>h) (fun i j hi _=>absurd hi (bod i))) (.inr rfl) rfl ?_;refine bp (ka 8 (ka 9 kn)) km (fun i=>⟨[(3,some (.v (.one (.ref 901 (gt (l.take i)).length)))),(10,some (vI i))],[(901,some (.arr true 2 48 (gt (l.take i)).length (lf Fd.c (gt (l.take i)))))]⟩) l.length kk ?_;rintro i hi;refine w_5 ?_;refine hcd (fun h0=>?_) (fun h0=>?_)
 ·
  refine w_7 ?_;refine m9 0 ?_;refine w_9 ?_;refine rc rfl rfl rfl rfl rfl rfl a43 (ag0 ((l.getD i default).rhs &&& ~~~(l.getD i default).lhs)) (⟨cci (it _ _),trivial⟩) rfl rfl ?_;refine w_4 ?_;refine bp (ka 5 (ka 8 (ka 9 (ka 10 (ka 19 (ka 20 kn)))))) (kb 0 km) (fun k=>⟨[(3,some (.v (.one (.ref 901 (qd l i k).length)))),(21,some (vI k))],[(901,some (.arr true 2 48 (qd l i k).length (lf Fd.c (qd l i k))))]⟩) ((al ((l.getD i default).rhs &&& ~~~(l.getD i default).lhs)).length) ⟨⟨⟨_,rfl,(ce (abk l i))⟩,tt⟩,⟨⟨_,rfl,(bv (abk l i))⟩,trivial⟩⟩ ?_;rintro k hk;have hml:=qc ((l.getD i default).rhs &&& ~~~(l.getD i default).lhs);have hsl:=avj (l:=l) (i:=i) (k:=k) bsq;refine w_5 ?_;refine hcd (fun h1=>?_) (fun h1=>?_)
  · refine t7 ?_;refine rq rfl rfl rfl rfl rfl ?_ (hp:=(bqk _));refine qy ?_;refine m9 1 ?_;refine r9 2 true ?_;refine w_7 ?_;exact lpx (k + 1) ⟨⟨⟨_,rfl,(c8 (ab2 rfl bsq))⟩,tt⟩,⟨⟨_,rfl,(v6 (ab2 rfl bsq) (CoP.refl _) (CoP.of_eq (by exact congrArg (fun z=>PV.raw (.int .u32 z)) (b8u _))))⟩,uu⟩⟩
  obtain rfl:k = (al ((l.getD i default).rhs &&& ~~~(l.getD i default).lhs)).length:=by omega
  refine w_5 ?_;exact lpx (i + 1) ⟨⟨⟨_,rfl,(ce (adw bsq rfl).symm)⟩,tt⟩,⟨⟨_,rfl,(bv (adw bsq rfl).symm)⟩,trivial⟩⟩
 obtain rfl:i = l.length:=by omega
 refine w_2 ?_;refine b6 3 rfl rfl rfl ?_;refine w_2 ?_;refine ik rfl rfl rfl rfl rfl rfl (wgx Tryz.func231) (axc (gt l) (bon (a6s l) bsq)) (⟨CoP.of_eq (by rw [bog];rfl),trivial⟩) trivial rfl rfl ?_;refine w_2 ?_;refine hrr ?_;exact ⟨_,_,rfl,bss,CoR.refl _,uu⟩
def bm3 (l:List Fd) (hl:l.length <= 4096):a7 btb 184 [pP (fdl l)] (aa [pP (fdl (nn l))]):=by
 refine hpx (nt:=60) Tryz.func184 ?_;refine w_7 ?_;refine fc9 (wgx Tryz.func229) (bdd l hl) trivial ?_;refine w_4 ?_;have hsl:=auf l;refine w_6 ?_;refine bp (ka 3 (ka 11 kn)) km (fun i=>⟨[(12,some (vI i))],[(900,some (.arr true 2 48 (spl l).length (lf Fd.c (jx (spl l) i))))]⟩) ((spl l).length) kk ?_;rintro i hi;have htl:=ny (l:=spl l) (i:=i);refine w_5 ?_;refine hcd (fun h0=>?_) (fun h0=>?_)
 ·
  refine o8 ?_;refine qcx a43 (ag0 ((jx (spl l) i).getD i default).lhs) ?_;refine w_4 ?_;refine bp (ka 3 (ka 4 (ka 11 (ka 12 (ka 20 (ka 21 kn)))))) km (fun k=>⟨[(22,some (vI k))],[(900,some (.arr true 2 48 (spl l).length (lf Fd.c (tl (jx (spl l) i) i k))))]⟩) ((al ((jx (spl l) i).getD i default).lhs).length) ⟨tt,⟨⟨_,rfl,(fw (aym _ _) rfl)⟩,trivial⟩⟩ ?_;rintro k hk;have hml:=qc ((jx (spl l) i).getD i default).lhs;refine w_5 ?_;refine hcd (fun h1=>?_) (fun h1=>?_)
  ·
   have hkl:(tl (jx (spl l) i) i k).length = (spl l).length:=by rw [apc,ny]
   have hhas:=b5c (l:=(jx (spl l) i)) (i:=i) (k:=k) (by rw [ny];omega) bsq;refine a3c ?_;refine rc rfl rfl rfl rfl rfl rfl (wgx Tryz.func230) (bep (tl (jx (spl l) i) i k) ((tl (jx (spl l) i) i k).getD i default) ((al ((jx (spl l) i).getD i default).lhs).getD k default)) (⟨CoC.one (aue (by rw [apc,ny])),CoC.refl _,CoC.refl _,trivial⟩) rfl rfl ?_;refine cu ?_;refine hcb (fun h2=>?_) (fun h2=>?_)
   ·
    refine w_7 ?_;refine rq rfl rfl rfl rfl rfl ?_ (hp:=(bqk _));refine d5 ?_
    first | (refine lpz (k + 1) ⟨tt, ⟨⟨_, rfl, (arl (i := i) (a := (al ((jx (spl l) i).getD i default).lhs).getD k default) (l := (tl (jx (spl l) i) i k)) (by rw [a1s bsq, an4 hhas bsr]) (aal _ _) bsq bsq hkl.symm)⟩, trivial⟩⟩ ?_; show k + 1 <= _; omega)
          | (refine lpz (k + 1) ⟨tt,⟨⟨_,rfl,(fw (by rw [a1s bsq,amq bsr]) rfl)⟩,trivial⟩⟩ ?_;show k + 1 <= _;omega)
   refine w_5 ?_
   first | (refine lpz (k + 1) ⟨tt, ⟨⟨_, rfl, (arl (i := i) (a := (al ((jx (spl l) i).getD i default).lhs).getD k default) (l := (tl (jx (spl l) i) i k)) (by rw [a1s bsq, an4 hhas bsr]) (aal _ _) bsq bsq hkl.symm)⟩, trivial⟩⟩ ?_; show k + 1 <= _; omega)
         | (refine lpz (k + 1) ⟨tt,⟨⟨_,rfl,(fw (by rw [a1s bsq,amq bsr]) rfl)⟩,trivial⟩⟩ ?_;show k + 1 <= _;omega)
  obtain rfl:k = (al ((jx (spl l) i).getD i default).lhs).length:=by omega
  refine w_5 ?_;exact lpx (i + 1) ⟨tt,⟨⟨_,rfl,(fw (by rw [vw,b5j rfl]) rfl)⟩,trivial⟩⟩
 obtain rfl:i = (spl l).length:=by omega
 refine w_2 ?_;refine b6 3 rfl rfl rfl ?_;refine w_2 ?_;refine rc rfl rfl rfl rfl rfl rfl (wgx Tryz.func231) (bjr (jx (spl l) (spl l).length) (by rw [ny];omega)) (⟨CoC.one (aue (by rw [ny])),trivial⟩) rfl rfl ?_;refine w_4 ?_;have hrl:=af8 l;refine w_4 ?_;refine ah (ι:=List Fd × Nat) kn km (fun x=>⟨[(3,some (bn (fdl x.1))),(7,some (vI x.2))],[]⟩) (fun x=>l5 (x.1.length - x.2) x.1 x.2 = nn l /\ x.2 <= x.1.length /\ x.1.length <= 131072) (fun x=>x.1.length - x.2) ((a1a l,0)) (⟨rfl,boe _,by show (a1a l).length <= _;omega⟩) ⟨⟨zy,⟨_,rfl,(coi rfl)⟩,trivial⟩,trivial⟩ ?_;rintro x ⟨hx,hx2,hx3⟩;refine w_8 ?_;refine hcd (fun h3=>?_) (fun h3=>?_)
 ·
  refine w_6 ?_;refine qcx (wgx Tryz.func232) (bhb x.1 x.2 bsq bsq) ?_;refine cu ?_;refine am _ rfl (fun r4=>?_) (fun r4=>?_)
  ·
   have h4:=r4;have hq:=r4;refine w_3 ?_;refine qcx (wgx Tryz.func233) (asc x.1 x.2 bsq bsq) ?_;refine w_2 ?_
   first | (refine ⟨(dm x.1 x.2, x.2), ?_, ?_, ?_⟩
            · have ho:=lv (l:=x.1) (i:=x.2) bsq
              exact ⟨by rw [<- hx,au1 bsq hq],by dsimp only;omega,by dsimp only;omega⟩
            · have ho:=lv (l:=x.1) (i:=x.2) bsq
              dsimp only;omega
            exact ⟨⟨zy,⟨_,rfl,(coi bsv)⟩,trivial⟩,trivial⟩)
         | (refine lpz (x.1,x.2 + 1) ⟨⟨zy,⟨_,rfl,(coi bsv)⟩,trivial⟩,trivial⟩ ?_;exact ⟨by rw [<- hx,as7 bsq hq],by dsimp only;omega,by dsimp only;omega⟩)
  have h4:=r4;have hq:=r4;refine w_5 ?_
  first | (refine ⟨(dm x.1 x.2, x.2), ?_, ?_, ?_⟩
           · have ho:=lv (l:=x.1) (i:=x.2) bsq
             exact ⟨by rw [<- hx,au1 bsq hq],by dsimp only;omega,by dsimp only;omega⟩
           · have ho:=lv (l:=x.1) (i:=x.2) bsq
             dsimp only;omega
           exact ⟨⟨zy,⟨_,rfl,(coi bsv)⟩,trivial⟩,trivial⟩)
        | (refine lpz (x.1,x.2 + 1) ⟨⟨zy,⟨_,rfl,(coi bsv)⟩,trivial⟩,trivial⟩ ?_;exact ⟨by rw [<- hx,as7 bsq hq],by dsimp only;omega,by dsimp only;omega⟩)
 have hq:=h3;refine v_6 ?_;exact ⟨CoC.one (CoP.of_eq (by rw [<- hx,azd bsq])),trivial⟩
end
section
def tc (n:Int) (l:List Fd):List Fd:=if au n l = 0 then nn l else []
def a1h {n:Int} {l:List Fd} (h:au n l = 0):tc n l = nn l:=if_pos h
def bgg {n:Int} {l:List Fd} (h:¬ au n l = 0):tc n l = []:=if_neg h
def blp {s:Nat} {cl:Bool} {f:Nat -> Nat -> PV} {L:List Fd} (h:L = []):CoP (.sl 0 s cl f) (fdl L):=by subst h;exact ax3
def a2s {s:Nat} {cl:Bool} {f:Nat -> Nat -> PV} {L:List AS} (h:L = []):CoP (.sl 0 s cl f) (asl L):=by subst h;exact ax3
def bnl (l:List Fd) (i k:Nat):List Fd:=(List.range k).foldl (fv i) l
end
section
open Go.Proofs
def bl5 (n:Int) (l:List Fd):a7 btb 134 [pI n,pP (fdl l)] (aa [pP (fdl (tc n l)),pI (au n l)]):=by
 refine hpx (nt:=15) Tryz.func134 ?_;refine d5 ?_;refine qcx xn (a1e n l) ?_;refine w_7 ?_;refine hcn (fun h0=>?_) (fun h0=>?_)
 · refine v_6 ?_;exact ⟨CoC.one (blp (bgg bsr)),CoC.refl _,trivial⟩
 refine w_4 ?_;refine qcx (wgx Tryz.func184) (bm3 l (by have:=(f8 bsr).2.2.1;omega)) ?_;refine v_3 ?_;exact ⟨CoC.one (CoP.of_eq (by rw [a1h bsr])),cci bsq,trivial⟩
end
end Go.Hx

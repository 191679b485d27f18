/- A part of the proof: SrW Cs10 V8 Cs11 Gr V9 Cs12 V10 Cs13 V11 Cs14 V12 Cs15. -/
import Derived.Shelf.SlSortCmp.NoneTotal
import Derived.Test.YtnlcekpflogjkaaGreatDoorTx17
import Derived.Test.YtnlcekpflogjkaaGreatDoorTx18
set_option linter.all false
set_option maxRecDepth 100000
namespace Go.Hx
section
open Go.Proofs Go.RowKit Go.Sort
section
variable {w:World}
def ae1 {w':World} (h:Below w.heap.size w w'):∃ q os,w' = grow (w.drewN q) os:=by
 refine ⟨w'.drawn - w.drawn,w'.heap.extract w.heap.size w'.heap.size, ?_⟩;have hd:=h.drawn;obtain ⟨h1,h2,h3,h4,h5,_⟩:=h
 cases w with
 | mk hp tp dr os out =>
 cases w' with
 | mk hp' tp' dr' os' out' =>
 dsimp only at *;subst h1 h2 h3;unfold grow World.drewN;simp only [World.mk.injEq,true_and,and_true];refine ⟨?_,by omega⟩;apply Array.ext_getElem?;intro k;rw [Array.getElem?_append];by_cases hk:k < hp.size
 · rw [if_pos hk,h5 k hk]
 rw [if_neg hk,Array.getElem?_extract];by_cases hk2:k < hp'.size
 · rw [if_pos bv9]
   congr 1;omega
 rw [if_neg bv9,btw bv9]
variable {os:Array Obj} {α:Type} {d:Array α} {enc:α -> Value}
def acz [Inhabited α] {g m:Nat} {cur:Array Value} {e:TypeId} {fr:Nat × Nat} (h:w.heap[g]? = some (.cells cur e fr)):
 (sortWorld enc w g 0 m d os).heap[g]? = some (.cells (putCells enc 0 d cur) e fr):=by
 have hlt:=(brj.1 h).1;unfold sortWorld;rw [heap_grow_old _ _ (by simpa using hlt)];unfold putRow mapBlock;simp only [heap_ahead,bu1,if_true,h];rfl
def s6 [Inhabited α] {g m:Nat} {b:Nat} (hb:b < w.heap.size) (hne:b ≠ g):(sortWorld enc w g 0 m d os).heap[b]? = w.heap[b]?:=by
 unfold sortWorld;rw [heap_grow_old _ _ (by simpa using hb)];unfold putRow mapBlock;simp only [heap_ahead,bu1,if_neg (Ne.symm hne)]
def adv [Inhabited α] {g m:Nat}:Below 0 w (sortWorld enc w g 0 m d os) :=
 ⟨rfl,rfl,rfl,by unfold sortWorld;simp,fun k hk=>absurd hk (brg k),by unfold sortWorld grow;simp⟩
def aqu [Inhabited α] {cur:Array Value} (h:d.size <= cur.size):(putCells enc 0 d cur).toList.take d.size = d.toList.map enc:=by
 apply bu8;intro k;rw [bsa,brx,bt2,bt2];by_cases hk:k < d.size
 · rw [if_pos hk]
   unfold putCells;rw [Array.getElem?_mapIdx,bsw bv9,bsw hk];simp only [bs7,bs5,Nat.sub_zero];rw [if_pos ⟨bre _,hk⟩,getElem!_pos d k hk]
 rw [if_neg hk,btw bv9];rfl
def b06 {P:Program} {ρ:Go.Shelf.Ren} [Inhabited α] (L:SlLaysF.n6 P ρ) (enc:α -> Value) (h1:∀ x,(enc x).oneCell' = true) (cf:α -> α -> Int) (hO:SWO (ltOf cf)) (hT:∀ x y,(ltOf cf) x y = false -> (ltOf cf) y x = false -> x = y) (g:Nat) (caps:Nat -> PV) (hg:∀ args w,(callFunc g args).run P w = .ok (.enter g args) w) (hc:∀ x y,a6 P g [.one (.raw (enc x)), .one (.raw (enc y))] (af [.one (.raw (.int .i64 (cf x y)))])) (id:Nat) (e:TypeId) (l:List α) (hsz:l.length <= 8589934592):
 cz P (ρ.f 6) [.one (.ref id l.length), .one (.p (.fn g 0 caps))] [(id, .arr true 1 e l.length (lf (fun x _=>.raw (enc x)) l))] (.tup [])
  [(id, .arr true 1 e l.length (lf (fun x _=>.raw (enc x)) (l.mergeSort fun x y=>!(ltOf cf) y x)))] [id]:=by
 intro w c us hM hus
 match us,hus with
 | [u,v],⟨hu,hv,_⟩ =>
  obtain ⟨cs,rfl,hcl,_⟩:=hv;have hcs:cs = []:=bss hcl;subst hcs;have hl1:lk [(id,a7.arr true 1 e l.length (lf (fun x _=>.raw (enc x)) l))] id = some (.arr true 1 e l.length (lf (fun x _=>.raw (enc x)) l)):=by simp [lk]
  have hu2:=(hu.2.2 _ _ _ _ hl1 rfl).2 rfl;subst hu2;have hob:=hM.objs id _ hl1;obtain ⟨h0,hmax,h5⟩:=hob;have hlen:(l.mergeSort fun x y=>!(ltOf cf) y x).length = l.length:=buc _
  have hev:∀ f':Nat -> Nat -> PV,Evo c (lk [(id,a7.arr true 1 e l.length (lf (fun x _=>.raw (enc x)) l))]) c (lk [(id,a7.arr true 1 e l.length f')]) id:=fun f' =>
   .inr (.inr ⟨_, .arr true 1 e l.length f',1,e,l.length,l.length,hl1,rfl,by simp [lk],rfl,brd _,fun _=>rfl,fun _ _ _ _ _ _ _ h=>by cases h⟩)
  rcases bsx l.length with hz | hpos
  ·
   have hl:l = []:=bss hz;subst hl
   have hform:∃ ad cap,c.own id = .slice ad 0 cap:=by
    rcases h5 with ⟨_,xs,h2,_⟩ | ⟨_,_,ad,cap,hv,_⟩
    · rcases h2.2 with ⟨hv,_⟩ | ⟨g,cap,cur,hv,_⟩
      · exact ⟨none,0,hv⟩
      exact ⟨_,cap,hv⟩
    exact ⟨ad,cap,hv⟩
   obtain ⟨ad,cap,hown⟩:=hform;have hms:([]:List α).mergeSort (fun x y=>!(ltOf cf) y x) = []:=by simp
   rw [hown,hms];refine (AnyF.slices_SortFunc_none { L with } ad cap (.func (.func g) #[] #[]) w).mono ?_;rintro e' w' ⟨rfl,rfl⟩
   exact ⟨_,c,rfl,⟨[],rfl,trivial⟩,hM,Below.refl _ _,fun _ _ _=>⟨rfl,rfl⟩,fun id0 ob b ho hb=>.inr ⟨id0,ob,ho,hb⟩,fun id0 hid=>by
    rw [bru.1 hid]
    exact Evo.refl _ _ _⟩
  obtain ⟨h6,xs,h2,h4⟩:c.blk id = en (c.own id) /\ ∃ xs,w.ownsRow 0 e 1 (c.own id) l.length xs /\ ∀ i j,i < l.length -> j < 1 -> ∃ x,xs[i * 1 + j]? = some x /\ ak c.imm (lf (fun x _=>.raw (enc x)) l i j) x:=by
   rcases h5 with h5 | ⟨h6 | h6,_⟩
   · exact h5
   · cases h6
   omega
  obtain ⟨hxl,hrow⟩:=h2
  rcases hrow with ⟨_,hz⟩ | ⟨b,cap,cur,hown,hbase,hheap,hnc,hcm,hcs,htake⟩
  · omega
  have hblk:c.blk id b:=by rw [h6,hown];rfl
  have hlt:b < w.heap.size:=(brj.1 hheap).1
  have hcell:∀ j,(hj:j < l.length) -> cur[j]? = some (enc l[j]):=fun j hj=>by
   obtain ⟨x,hx,hr⟩:=h4 j 0 hj bv9;rw [bu6,bt6,<- htake,bsa,if_pos bv9,bt2] at hx;rw [hx];have hr:x = enc (l.getD j default) /\ _:=hr;rw [hr.1,brc,brb hj];rfl
  have hH:Holds enc w b 0 l.toArray:=fun j hj=>by
   have hj:j < l.length:=by simpa using hj
   rw [bs5];refine ⟨?_,by simp [World.frozen?,hheap]⟩;have:l.toArray[j]! = l[j]:=by rw [getElem!_pos l.toArray j (by simpa using hj)];simp
   rw [this];simp [World.cell?,hheap,hcell j hj]
  have hcmp:CmpLays1 P g #[] enc cf b 0 l.toArray.size w:=by
   intro m os dk hdk x y
   have hcimm:∀ b' ob,c.imm b' = some ob -> (sortWorld enc w b 0 m dk os).heap[b']? = some ob:=fun b' ob hb'=>by
    have hne:b' ≠ b:=fun he=>by
     have:=hM.sep id _ b hl1 hblk;rw [<- he,hb'] at this;cases this
    have hw:=hM.imm b' ob hb';rw [s6 (brj.1 hw).1 hne];exact hw
   have h:=hc x y (sortWorld enc w b 0 m dk os) c.imm [enc x,enc y] c.tab hcimm ⟨⟨rfl,h1 x⟩,⟨rfl,h1 y⟩,trivial⟩;refine h.mono ?_;rintro e' w' ⟨v,imm',rfl,hr,_,_,hb⟩;obtain ⟨q,os',hq⟩:=ae1 hb;exact ⟨by rw [hr.1],q,os',hq⟩
  have hS:=Any.slices_SortFunc_total L enc h1 cf hO g #[] b 0 cap l.toArray w hg hcmp hH hlt (by rw [bsg];omega) hT;rw [hown];refine Calls.mono hS ?_;rintro e' w' ⟨rfl,m,os,rfl⟩;generalize hSd:(l.mergeSort fun x y=>!(ltOf cf) y x) = S at *
  refine ⟨_,c,rfl,⟨[],rfl,trivial⟩,⟨fun id0 ob ho=>?_,fun id0 id1 ob0 ob1 b' ho0 ho1 _ _=>(fw ho0).1.trans (fw ho1).1.symm,fun b' ob hb'=>?_,fun id0 ob b' ho hb'=>?_⟩,adv,
   fun b' hb' hno=>⟨s6 hb' (fun he=>hno id _ hl1 (by rw [he];exact hblk)),rfl⟩,fun id0 ob b' ho hb'=>.inr ⟨id,_,hl1,by rw [<- (fw ho).1];exact hb'⟩,fun id0 hid=>by
    rw [bru.1 hid]
    exact hev _⟩
  · obtain ⟨rfl,rfl⟩:=fw ho
    refine ⟨h0,hmax, .inl ⟨h6,S.map enc,⟨by simp [hlen], .inr ⟨b,cap,putCells enc 0 S.toArray cur,hown,hbase,acz hheap,hnc,hcm,by simpa [putCells] using hcs, ?_⟩⟩,fun i j hi hj=>?_⟩⟩
    · have:=aqu (enc:=enc) (d:=S.toArray) (cur:=cur) (by rw [bsg,hlen,hcs];omega)
      rw [bsg,hlen] at this;rw [bu6];exact this
    obtain rfl:j = 0:=by omega
    have hi':i < S.length:=by rw [hlen];exact hi
    refine ⟨enc S[i], ?_, ?_⟩
    · rw [bu6,bt6,brx,brb hi']
      rfl
    show ak c.imm (.raw (enc (S.getD i default))) _;rw [brc,brb hi'];exact ⟨rfl,h1 _⟩
  · have hne:b' ≠ b:=fun he=>by
     have:=hM.sep id _ b hl1 hblk;rw [<- he,hb'] at this;cases this
    have hw:=hM.imm b' ob hb';rw [s6 (brj.1 hw).1 hne];exact hw
  have:=(fw ho).1;subst this;exact hM.sep id0 _ b' hl1 hb'
 | [],h=>exact h.elim
 | [_],⟨_,h⟩=>exact h.elim
 | _ :: _ :: _ :: _,⟨_,_,h⟩=>exact h.elim
def a3h {a b:AS}:ltOf a5j a b = bef a b:=b6d
def b39:SWO (ltOf a5j) where
 irrefl x:=by rw [a3h];exact a32 x
 trans x y z h k:=by rw [a3h] at *;exact a1b h k
 ntrans x y z h k:=by
  rw [a3h] at *;rw [brt,ne_eq,uj] at *;omega
def srt (l:List AS):List AS:=l.mergeSort fun x y=>!bef y x
def aug:goodFn bw0 169:=⟨Tryz.f169,Tryz.func169,by kernel_rfl,by kernel_rfl⟩
def bvr {p:Prop} (h:p:=by kernel_rfl):p:=h
def b7e (id:Nat) (caps:Nat -> PV) (l:List AS) (hsz:l.length <= 8589934592):cz bw0 169 [.one (.ref id l.length), .one (.p (.fn 170 0 caps))] [(id, .arr true 1 50 l.length (lf sC l))] (.tup [])
 [(id, .arr true 1 50 l.length (lf sC (srt l)))] [id]:=by
 have h:=b06 Tryz.laysSort (fun s:AS=>.int .u32 (asI s)) (fun _=>rfl) a5j b39 (fun x y h k=>by
  rw [a3h] at h k;apply Classical.byContradiction;intro hne
  rcases ahh hne with h2 | h2
  · rw [h] at h2;cases h2
  rw [k] at h2;cases h2) 170 caps (enters_of Tryz.func170 bvr rfl) (fun x y=>b5o x y) id 50 l hsz
 have e:(fun x y:AS=>!(ltOf a5j) y x) = fun x y=>!bef y x:=by
  funext x y;rw [a3h]
 rw [e] at h;exact h
def b8p {l:List AS} {x:AS}:x ∈ srt l <-> x ∈ l:=by unfold srt;exact List.mem_mergeSort
def a8d (l:List AS):(srt l).length = l.length:=buc _
def a86:∀ {l:List AS} {p:Option AS},l.Pairwise (fun a b=>bef b a = false) -> (∀ x,p = some x -> ∀ y ∈ l,bef y x = false) -> (jw p l).Pairwise (fun a b=>bef a b = true) /\ ∀ x,p = some x -> ∀ y ∈ jw p l,bef x y = true
 | [],p,_,_=>⟨by simp [jw],fun x _ y hy=>by simp [jw] at hy⟩
 | z :: l,p,h,hp=>by
  obtain ⟨h1,h2⟩:=bsb.1 h;simp only [jw];split
  · rename_i e
    subst e;exact a86 h2 fun x hx y hy=>hp x hx y (bs1 _ hy)
  rename_i hne
  obtain ⟨q1,q2⟩:=a86 (p:=some z) h2 fun x hx y hy=>by
   simp only [bra] at hx;subst hx;exact h1 y hy
  refine ⟨bsb.2 ⟨fun y hy=>q2 z rfl y hy,q1⟩,fun x hx y hy=>?_⟩
  have hxz:bef x z = true:=by
   have h3:=hp x hx z bsj
   rcases ahh (a:=x) (b:=z) (fun e=>hne (by rw [hx,e])) with h4 | h4
   · exact h4
   rw [h3] at h4;cases h4
  rcases brm.1 hy with rfl | hy
  · exact hxz
  exact a1b hxz (q2 z rfl y hy)
def a5b (l:List AS):gk (srt l) = ord l:=by
 refine bi2 (a86 ?_ fun x hx=>by cases hx).1 fun z=>by rw [ab1,b8p]
 have h:=bv0 (le:=fun x y:AS=>!bef y x) (fun a b c h k=>by
  simp only [bsd] at *;rw [brt,ne_eq,uj] at *
  omega) (fun a b=>by
  simp only [bsl,bsd];rw [brt,brt,ne_eq,ne_eq,uj,uj]
  omega) l
 refine h.imp fun {a b} hab=>?_;simpa using hab
end
end
section
abbrev bx (a:PV):PV:=.vp 1 fun j=>[a].getD j .any
def a3b (W:AS -> AS -> Bool) (l:List AS) (x:AS):Bool:=l.any fun b=>decide (x ≠ b) && W x b
def a8m (W:AS -> AS -> Bool) (l:List AS):List AS:=(ord l).filter fun x=>!a3b W (ord l) x
def abb (a b:AS):Bool:=decide (sub a b)
def j9 (l:List AS):List AS:=a8m abb l
def a69 (l:List AS):(ord l).Nodup:=(a4j l).imp fun {a b} h e=>by
 subst e;rw [a32] at h;cases h
def okT (l:List AS) (i k:Nat):Bool:=(List.range k).all fun j=>decide (j = i) || !abb (l.getD i default) (l.getD j default)
def bpe (l:List AS) (i:Nat):List AS:=((ord l).take i).filter fun x=>!a3b abb (ord l) x
end
section
open Go.Proofs
def a87:goodFn bw0 115:=wgx Tryz.func115
def aoy (l:List AS) (hl:l.length <= 8589934592):a6 bw0 115 [pP (asl l)] (af [pP (asl (ord l))]):=by
 refine hpx (nt:=10) Tryz.func115 ?_;refine w_7 ?_;refine fc9 aps (afc l.length false (lf sC l) bv9) trivial ?_;refine w_5 ?_;refine fc9 aug (b7e 0 _ l hl) uu ?_;refine w_4 ?_;refine jc rfl rfl rfl rfl rfl rfl (wgx Tryz.func171) ((b5w (srt l)).swap 900 0) (⟨congrArg (HV.ref 0) (a8d l).symm,trivial⟩) ⟨⟨_,rfl,jy rfl (a8d l).symm⟩,trivial⟩ rfl rfl ?_;refine v_2 ?_;exact ⟨CoC.one (CoP.of_eq (by rw [a5b])),trivial⟩
def bc4 (b x:AS) (g k:Nat) (caps:Nat -> PV) (W:AS -> AS -> Bool) (hg:goodFn bw0 g) (hW:∀ x y,a6 bw0 g (pA x :: pA y :: iu caps k 0) (af [pB (W x y)])):a6 bw0 141 [pA b,pP (bx (asC x)),pP (bx (.fn g k caps))] (af [pB (decide (x ≠ b) && W x b)]):=by
 refine hpx (nt:=14) Tryz.func141 ?_;refine dc ?_;refine aw rfl rfl (fun r0=>?_) (fun r0=>?_)
 ·
  have h0:=tz2 (eg r0);(iterate 3 refine qy ?_ (hg:=(gtt r0)));refine rc rfl rfl rfl rfl rfl rfl hg (hW x b) (CoL.refl _) rfl (gtt r0) ?_;refine w_3 ?_
  exact hx8 rfl rfl rfl (⟨ccb (by simp_all [dj]),trivial⟩)
 have h0:=tz1 (ek r0);(iterate 4 refine k9 (gft r0) ?_);refine w_3 ?_
 exact hx8 rfl rfl rfl (⟨ccb (by simp_all [dj]),trivial⟩)
def bgr (x:AS) (l:List AS) (g k:Nat) (caps:Nat -> PV) (W:AS -> AS -> Bool) (hg:goodFn bw0 g) (hW:∀ x y,a6 bw0 g (pA x :: pA y :: iu caps k 0) (af [pB (W x y)])):a6 bw0 140 [pA x,pP (bx (asl l)),pP (bx (.fn g k caps))] (af [pB (a3b W l x)]):=by
 refine hpx (nt:=8) Tryz.func140 ?_;refine sx7 ?_;refine m9 0 ?_;refine w_3 ?_;refine jz 3 rfl rfl rfl ?_;refine w_3 ?_;refine qcx acy (akw l 141 2 (fun i=>[bx (asC x),bx (.fn g k caps)].getD i .any) (fun b=>decide (x ≠ b) && W x b) (wgx Tryz.func141) (fun b=>bc4 b x g k caps W hg hW)) ?_;refine v_2 ?_;exact CoL.refl _
def bm1 (l:List AS) (hl:l.length <= 8589934592) (g k:Nat) (caps:Nat -> PV) (W:AS -> AS -> Bool) (hg:goodFn bw0 g) (hW:∀ x y,a6 bw0 g (pA x :: pA y :: iu caps k 0) (af [pB (W x y)])):a6 bw0 91 [pP (asl l),pP (.fn g k caps)] (af [pP (asl (a8m W l))]):=by
 refine hpx (nt:=12) Tryz.func91 ?_;refine sx7 ?_;refine m9 2 ?_;refine w_5 ?_;refine qcx a87 (aoy l hl) ?_;refine m9 3 ?_;refine w_3 ?_;refine jz 5 rfl rfl rfl ?_;refine jz 3 rfl rfl rfl ?_;refine w_2 ?_;refine fc9 aps (afc (ord l).length false (lf sC (ord l)) (bs4 (zb l) bv9)) trivial ?_;refine qy ?_;refine fc9 (wgx Tryz.func73) ((bl5 (ord l) 140 2 (fun i=>[bx (asl (ord l)),bx (.fn g k caps)].getD i .any) (a3b W (ord l)) (wgx Tryz.func140) (fun x=>bgr x (ord l) g k caps W hg hW)).swap 900 0) uu ?_;refine v_2 ?_;exact CoL.refl _
def blb (a b:AS):a6 bw0 92 [pA a,pA b] (af [pB (abb a b)]):=by
 refine hpx (nt:=9) Tryz.func92 ?_;refine j4 ?_;exact hx8 rfl rfl rfl (⟨ccb (decide_eq_decide.2 j5),trivial⟩)
def akz:goodFn bw0 41:=wgx Tryz.func41
def ab6 (l:List AS) (hl:l.length <= 8589934592):a6 bw0 41 [pP (asl l)] (af [pP (asl (j9 l))]):=by
 refine hpx (nt:=5) Tryz.func41 ?_;refine w_7 ?_;refine qcx (wgx Tryz.func91) (bm1 l hl 92 0 _ abb (wgx Tryz.func92) (fun a b=>blb a b)) ?_;refine v_2 ?_;exact CoL.refl _
end
section
def i7 (l:List Fd):List Fd:=l.foldl (fun o x=>if x ∈ o then o else o ++ [x]) []
section
variable {i:Nat} {l:List Fd}
def aeq (hi:i < l.length):i7 (l.take (i + 1)) = if l.getD i default ∈ i7 (l.take i) then i7 (l.take i) else i7 (l.take i) ++ [l.getD i default]:=by
 unfold i7;rw [al hi,bs8];rfl
def ama {s:Fd}:(l.any fun x=>decide (x = s)) = decide (s ∈ l):=by
 rw [buj,bsf,decide_eq_true_iff];constructor
 · rintro ⟨x,hx,h⟩
   exact of_decide_eq_true h ▸ hx
 intro h;exact ⟨s,h,decide_eq_true rfl⟩
def a9d (hi:i < l.length) (h:((i7 (l.take i)).any fun x=>decide (x = l.getD i default)) = false):i7 (l.take (i + 1)) = i7 (l.take i) ++ [l.getD i default]:=by
 rw [ama] at h;rw [aeq hi,if_neg (of_decide_eq_false h)]
def a90 (hi:i < l.length) (h:((i7 (l.take i)).any fun x=>decide (x = l.getD i default)) = true):i7 (l.take (i + 1)) = i7 (l.take i):=by
 rw [ama] at h;rw [aeq hi,if_pos (of_decide_eq_true h)]
def a6y:∀ (l o:List Fd),(l.foldl (fun o x=>if x ∈ o then o else o ++ [x]) o).length <= o.length + l.length /\ ∀ z,z ∈ l.foldl (fun o x=>if x ∈ o then o else o ++ [x]) o <-> z ∈ o \/ z ∈ l
 | [],o=>⟨by simp,fun z=>by simp⟩
 | x :: l,o=>by
  obtain ⟨h1,h2⟩:=a6y l (if x ∈ o then o else o ++ [x]);simp only [btp];refine ⟨?_,fun z=>?_⟩
  · refine bs4 h1 ?_
    split <;> simp <;> omega
  rw [h2 z,brm];split
  · rename_i hx
    constructor
    · rintro (h | h) <;> simp [h]
    rintro (h | rfl | h)
    · exact .inl h
    · exact .inl hx
    exact .inr h
  rw [brr,bru];constructor
  · rintro ((h | h) | h) <;> simp [h]
  rintro (h | h | h) <;> simp [h]
def a6h (l:List Fd):(i7 l).length <= l.length:=by
 have:=(a6y l []).1;simpa [i7] using this
def l8 {z:Fd}:z ∈ i7 l <-> z ∈ l:=by
 have:=(a6y l []).2 z;simpa [i7] using this
def bph (l:List Fd) (i k:Nat):Bool:=(l.take k).any fun x=>decide (x = l.getD i default)
def oz (f:Fd):List Fd:=(aj (f.rhs &&& ~~~f.lhs)).map fun a=>(⟨f.lhs,(1:AS) <<< a⟩:Fd)
def gl (l:List Fd):List Fd:=(l.map oz).flatten
def ow (l:List Fd) (i k:Nat):List Fd:=gl (l.take i) ++ (oz (l.getD i default)).take k
def a5o (f:Fd):(oz f).length = (aj (f.rhs &&& ~~~f.lhs)).length:=by unfold oz;rw [bsc]
def a43 (s:AS):(aj s).length <= 32:=by rw [<- a1n];exact az5 s
def aa7 (l:List Fd) (i:Nat):ow l i 0 = gl (l.take i):=by unfold ow;rw [bu7,bse]
def aa1 {k:Nat} {m:List Nat} (hm:m = aj ((l.getD i default).rhs &&& ~~~(l.getD i default).lhs)) (hk:k < m.length):ow l i (k + 1) = ow l i k ++ [⟨(l.getD i default).lhs,(1:AS) <<< m.getD k default⟩]:=by
 subst hm;unfold ow;generalize l.getD i default = x at *;rw [List.take_add_one,bsm];congr 1;congr 1;unfold oz;rw [brx,brb hk,brc,brb hk];rfl
def aew (hi:i < l.length) {k:Nat} (hk:k = (aj ((l.getD i default).rhs &&& ~~~(l.getD i default).lhs)).length):ow l i k = gl (l.take (i + 1)):=by
 subst hk;unfold ow gl;rw [<- a5o,bro,al hi,bth,btj];simp
def a4o (l:List Fd):(gl l).length <= 32 * l.length:=by
 induction l with
 | nil=>simp [gl]
 | cons x l ih =>
  have h:gl (x :: l) = oz x ++ gl l:=by simp [gl]
  have h2:=a5o x;have h3:=a43 (x.rhs &&& ~~~x.lhs);rw [h,brh,bs6];omega
def aw0 {k:Nat} (hi:i <= l.length):(ow l i k).length <= 32 * l.length + 32:=by
 have h1:=a4o (l.take i);have h2:=a43 ((l.getD i default).rhs &&& ~~~(l.getD i default).lhs);rw [brl] at h1;unfold ow;rw [brh,brl,a5o];omega
def exB (l:List Fd) (x:Fd) (a:Nat):Bool:=imp l ⟨x.lhs &&& ~~~((1:AS) <<< a),x.rhs⟩
def a9p (s:AS) (a:Nat):cn .andNot .u32 (asI s) (IntKind.wrap .u32 (1 * 2 ^ (min a 32))) = asI (s &&& ~~~((1:AS) <<< a)):=by
 rw [show IntKind.wrap .u32 (1 * 2 ^ (min a 32)) = asI ((1:AS) <<< a) from a1s 1 a,ai3]
def beb (a:Nat):IntKind.wrap .u32 (1 * 2 ^ (min a 32)) = asI ((1:AS) <<< a):=a1s 1 a
def d6 (l:List Fd) (i:Nat):List Fd:=l.take i ++ l.drop (i + 1)
def tx (l:List Fd) (i:Nat):Bool:=imp (d6 l i) (l.getD i default)
def l5 (hi:i < l.length):(d6 l i).length = l.length - 1:=by unfold d6;rw [brh,brl,bu4];omega
end
end
section
open Go.Proofs Go.Lib Go.RowKit
set_option maxHeartbeats 4000000 in
set_option maxRecDepth 100000 in
def al5 (k:Nat) (hk:0 < k) (hbig:k * 8 <= 140737488355328) (w:World) (ad:Option Addr) :
 Calls bw0 254 #[.slice ad 0 0, .int .i64 k] w fun e w'=>∃ G ROW,e = .returned (.slice (some ⟨w.heap.size,0,none⟩) 0 G) /\ G <= maxLen /\ w' = w.drew.alloc (.cells ROW 61) /\ ROW.size = G * 2:=by
 obtain ⟨i0,z,hi0,hz0,hzs,hzb,hzc⟩:∃ i0 z,bw0.info? 61 = some i0 /\ i0.zero = some z /\ i0.size = 2 /\ i0.bytes = 8 /\ z.cells.size = 2:=by
  have h:(bw0.info? 61).map (fun i=>(i.zero.map (fun z=>z.cells.size),i.size,i.bytes)) = some (some 2,2,8):=by kernel_rfl
  cases hq:bw0.info? 61 with
  | none=>rw [hq] at h;cases h
  | some i0 =>
   rw [hq] at h
   cases hz:i0.zero with
   | none=>simp [hz] at h
   | some z=>simp [hz] at h;exact ⟨i0,z,rfl,hz,h.2.1,h.2.2,h.1⟩
 have hc:0 + k <= maxLen:=by unfold maxLen;omega
 have hold:(Builtin.firstCells i0.size 0 (.slice ad 0 0)).run bw0 w.drew = .ok (([]:List Value)).toArray w.drew:=by
  cases ad with
  | none=>exact run_firstCells_none w.drew _ _ _ _
  | some a=>exact run_firstCells_some w.drew _ 0 a 0 0 [] bvd (fun j v hj=>by simp at hj)
 obtain ⟨G,hG⟩:∃ G,G = grownCap w (0 + k) 0 61:=⟨_,rfl⟩;have hGn:0 + k <= G:=by rw [hG];exact grownCap_ge w _ _ _
 have hGm:G <= maxLen:=by rw [hG];exact grownCap_le_maxLen w (0 + k) 0 61 hc
 obtain ⟨ROW,hROW⟩:∃ ROW:Array Value,ROW = ([]:List Value).toArray ++ Builtin.zeroCells z.cells k ++ Builtin.zeroCells z.cells (G - (0 + k)):=⟨_,rfl⟩
 have hrz:(Builtin.append_ #[28,3] 28 #[.slice ad 0 0, .int .i64 (k:Int)]).run bw0 w = .ok (.slice (some ⟨w.heap.size,0,none⟩) k G) (w.drew.alloc (.cells ROW 61)):=by
  have h:=Lib.run_append_grow_zeros w 28 3 28 61 i0 z .i64 .i64 Tryz.underlying28 Tryz.underlying3 hi0 hz0 ad 0 0 [] hold k hk bv9 bv9 (by unfold maxLen at hc;omega) (by rw [hzb];omega) (by rw [hzb,bs5];exact growslice_fits bv9 hbig);rw [<- hG,<- hROW] at h;rw [h];simp
 have hRs:ROW.size = G * 2:=by
  rw [hROW];simp only [bum,bsg,bt8,size_zeroCells,hzc];omega
 have mixed:=a7s;have hcM:G <= 9223372036854775807:=by unfold maxLen at hGm;omega
 have hk0:¬ ((k:Int) < 0):=by omega
 have hk1:(0:Int) < (k:Int):=by omega
 have hw1:IntKind.i64.wrap (k:Int) = (k:Int):=by rw [IntKind.wrap_i64];omega
 clear hG hROW hold
 rcases ad with _ | ⟨ab,ao,asp⟩
 all_goals go_enter Tryz.func254,Tryz.ntmps254
 all_goals go_wp2_with (at_builtin;refine Lib.wpList_append_run _ rfl _ _ _ _ rfl _ _ rfl rfl _ _ hrz ?_)
 all_goals go_ret
 all_goals first | exact ⟨G,ROW,rfl,hGm,rfl,hRs⟩ | exact ⟨G,rfl,hGm,ROW,rfl,hRs⟩
def aqq (w:World) (ad:Option Addr):Calls bw0 254 #[.slice ad 0 0, .int .i64 0] w fun e w'=>e = .returned (.slice ad 0 0) /\ w' = w:=by
 have mixed:=a7s
 go_enter Tryz.func254,Tryz.ntmps254
 go_wp2
 go_ret
 exact ⟨rfl,rfl⟩
def bmp (k a:Nat) (hk:k <= 68719476736) (F:Nat -> Nat -> PV) :
 cz bw0 254 [.one (.p (ke (.slice none 0 0))), .one (.p (.raw (.int .i64 k)))] [] (.v (.one (.ref a 0))) [(a, .arr true 2 61 0 F)] []:=by
 refine b66 bv9 fun w ad=>?_
 rcases bsx k with rfl | hk0
 · refine (aqq w ad).mono ?_
   rintro e w' ⟨rfl,rfl⟩;exact ⟨_,rfl,Below.refl _ _, .inl rfl⟩
 refine (al5 k hk0 bv9 w ad).mono ?_;rintro e w' ⟨G,ROW,rfl,hG,rfl,hR⟩;refine ⟨_,rfl,⟨rfl,rfl,rfl, ?_,fun q hq=>bgj w.drew _ hq,buu _⟩, .inr ⟨⟨by simp, .inr ⟨_,G,ROW,rfl,bre _,heap_alloc_new w.drew _,bre _,hG,hR,by simp⟩⟩,fun g hg=>?_⟩⟩
 · show _ <= (w.heap.push _).size
   rw [Array.size_push];omega
 have:w.heap.size = g:=by simpa [ci] using hg
 omega
end
section
open Go.Proofs
def aza (l:List Fd) (hl:l.length <= 16777216):cz bw0 176 [.one (.p (fdl l))] [] (.v (.one (.ref 900 (i7 l).length))) [(900, .arr true 2 61 (i7 l).length (lf Fd.c (i7 l)))] []:=by
 refine hfx (nt:=22) Tryz.func176 ?_;refine dc ?_;refine cu 0 rfl fun hn=>?_;refine w_6 ?_;refine df 3 900 true 2 61 (lf Fd.c []) bvg rfl (CoP.sl rfl (.inr rfl) (fun h=>h) (fun i j hi _=>absurd hi (brg i))) (.inr rfl) rfl ?_;refine br (ka 6 (ka 7 kn)) km (fun i=>⟨[(3,some (.v (.one (.ref 900 (i7 (l.take i)).length)))),(8,some (vI i))],[(900,some (.arr true 2 61 (i7 (l.take i)).length (lf Fd.c (i7 (l.take i)))))]⟩) l.length kk ?_;rintro i hi;have hlen:=a6h (l.take i);rw [brl] at hlen;refine w_5 ?_;refine hcd (fun h0=>?_) (fun h0=>?_)
 ·
  refine w_7 ?_;refine m9 0 ?_;refine w_6 ?_;refine qcx (wgx Tryz.func224) (bna (i7 (l.take i)) (l.getD i default)) ?_;refine w_2 ?_;refine au _ rfl (fun r1=>?_) (fun r1=>?_)
  ·
   have h1:=eg r1;have hc:=eg r1;refine w_3 ?_;refine m9 1 ?_;refine r9 2 true ?_;refine w_6 ?_
   first | (refine lpz (i + 1) ⟨⟨⟨_, rfl, (bz (a9d bv9 hc))⟩, tt⟩, ⟨⟨_, rfl, (n8 (a9d bv9 hc) (CoP.refl _) (CoP.refl _))⟩, trivial⟩⟩ ?_; show i + 1 <= _; omega)
         | (refine lpz (i + 1) ⟨⟨⟨_,rfl,(ce (a90 bv9 hc))⟩,tt⟩,⟨⟨_,rfl,(bv (a90 bv9 hc))⟩,trivial⟩⟩ ?_;show i + 1 <= _;omega)
  have h1:=ek r1;have hc:=ek r1;refine w_5 ?_
  first | (refine lpz (i + 1) ⟨⟨⟨_, rfl, (bz (a9d bv9 hc))⟩, tt⟩, ⟨⟨_, rfl, (n8 (a9d bv9 hc) (CoP.refl _) (CoP.refl _))⟩, trivial⟩⟩ ?_; show i + 1 <= _; omega)
        | (refine lpz (i + 1) ⟨⟨⟨_,rfl,(ce (a90 bv9 hc))⟩,tt⟩,⟨⟨_,rfl,(bv (a90 bv9 hc))⟩,trivial⟩⟩ ?_;show i + 1 <= _;omega)
 obtain rfl:i = l.length:=by omega
 refine w_6 ?_;refine hrr ?_;exact ⟨_,_,rfl,bvb,CoR.of_eq (by rw [bro];rfl),⟨⟨_,rfl,jy (by rw [bro]) (by rw [bro])⟩,trivial⟩⟩
def bmd (l:List Fd) (hl:l.length <= 16777216):a6 bw0 176 [pP (fdl l)] (af [pP (fdl (i7 l))]) :=
 cz.pure (args:=[pP (fdl l)]) (l:=[.one (.ref 900 (i7 l).length)]) (aza l hl) rfl ⟨rfl,trivial⟩
end
section
def b2r {α:Type} [Inhabited α] {s n k':Nat} {k:Int} {cl:Bool} {c:α -> Nat -> PV} {l:List α} (h:k.toNat = k') (hk:k' <= l.length) :
 CoP (.sl (dn (b5 n (some k)) none) s cl (nf (lf c l) none)) (psl s c (l.take k')):=by
 subst h;exact ah9 hk
def b60 {α:Type} [Inhabited α] {s n k':Nat} {k:Int} {cl:Bool} {c:α -> Nat -> PV} {l:List α} (hn:n = l.length) (h:k.toNat = k'):CoP (.sl (dn n (some k)) s cl (nf (lf c l) (some k))) (psl s c (l.drop k')):=by
 subst h hn;exact bdf
def apf {l:List Fd} {i:Nat}:[l.take i,l.drop (i + 1)].flatten = d6 l i:=by simp [d6]
def bdd {l:List Fd} {i:Nat} (hi:i < l.length) (hl:l.length <= 16777216):[l.take i,l.drop (i + 1)].flatten.length <= 16777216:=by
 rw [apf,l5 hi];omega
def bls {x:Fd} {b:Int} {s:AS} (h:b = asI s):CoC (.agg [.raw (.int .u32 b), .raw (.int .u32 (asI x.rhs))]) (Fd.pc ⟨s,x.rhs⟩):=by
 subst h;exact CoC.refl _
end
section
open Go.Proofs
def rwC (l:List Fd):Nat -> PV
 | 0=>fdl l
 | _=>.any
abbrev bnx (ls:List (List Fd)):PV:=psl 1 rwC ls
def b9h (ls:List (List Fd)) (h:ls.flatten.length <= 16777216):a6 bw0 225 [pP (bnx ls)] (af [pP (fdl ls.flatten)]):=by
 refine hpx (nt:=36) Tryz.func225 ?_;refine dc ?_;refine cu 0 rfl (fun hn=>?_);refine w_6 ?_;refine br (ka 0 (ka 9 (ka 10 kn))) km (fun i=>⟨[(3,some (vI (ls.take i).flatten.length)),(11,some (vI i))],[]⟩) ls.length kk ?_;rintro i hi;refine w_5 ?_;refine hcd (fun h0=>?_) (fun h0=>?_)
 ·
  have hts:(ls.take (i + 1)).flatten.length = (ls.take i).flatten.length + (ls.getD ((i:Nat):Int).toNat default).length:=by rw [tsf _ _ bv9,brh];rfl
  have hfl:(ls.take i).flatten.length + (ls.getD ((i:Nat):Int).toNat default).length <= ls.flatten.length:=a6m ls i bv9;refine apv ?_;refine hcd (fun h1=>?_) (fun h1=>?_)
  · exfalso;omega
  refine w_5 ?_;refine lpz (i + 1) kk ?_;show i + 1 <= _;omega
 obtain rfl:i = ls.length:=by omega
 have hfe:(ls.take ls.length).flatten.length = ls.flatten.length:=by rw [bro]
 refine w_4 ?_;refine fc9 (wgx Tryz.func254) (bmp (ls.take ls.length).flatten.length 900 bv9 (lf Fd.c [])) trivial ?_;refine dc ?_;refine br (ka 25 (ka 26 kn)) km (fun i=>⟨[(6,some (.v (.one (.ref 900 (ls.take i).flatten.length)))),(27,some (vI i))],[(900,some (.arr true 2 61 (ls.take i).flatten.length (lf Fd.c (ls.take i).flatten)))]⟩) ls.length kk ?_;rintro i hi;refine w_5 ?_;refine hcd (fun h2=>?_) (fun h2=>?_)
 ·
  have hts:(ls.take (i + 1)).flatten.length = (ls.take i).flatten.length + (ls.getD ((i:Nat):Int).toNat default).length:=by rw [tsf _ _ bv9,brh];rfl
  have hfl:(ls.take i).flatten.length + (ls.getD ((i:Nat):Int).toNat default).length <= ls.flatten.length:=a6m ls i bv9;refine j4 ?_;refine r9 0 true ?_;refine w_6 ?_;refine lpz (i + 1) ⟨⟨⟨_,rfl,(CoR.of_eq (by rw [hts]))⟩,tt⟩,⟨⟨_,rfl,(by rw [tsf _ _ bv9];exact aeb _ (fun h=>h) rfl (fun i j hi hj=>CoP.refl _))⟩,trivial⟩⟩ ?_;show i + 1 <= _;omega
 obtain rfl:i = ls.length:=by omega
 refine w_6 ?_;refine hrr ?_;rw [show ls.flatten = (ls.take ls.length).flatten by rw [bro]];exact f9 rfl rfl (CoL.refl _)
def auu (l:List Fd) (i:Nat) (hi:i < l.length) (hl:l.length <= 16777216):a6 bw0 178 [pP (fdl l),pI i] (af [pP (fdl (d6 l i))]):=by
 refine hpx (nt:=14) Tryz.func178 ?_;refine w_5 ?_;have hll:=bdd hi hl;refine w_8 ?_;refine m9 0 ?_;refine fc9 (wgx Tryz.func225) (a6.eat (hcs:=[.one (.ref 0 2)]) (o1:=[(0, .arr true 1 28 2 (lf rwC [l.take i,l.drop (i + 1)]))]) (b9h [l.take i,l.drop (i + 1)] hll) rfl (by (repeat' apply And.intro) <;> first | trivial | rfl) (CoL.refl _)) ⟨⟨_,rfl,⟨fun h=>h,rfl,rfl,rfl,fun i j hi hj=>(by have hi:i < 2:=hi;have hj:j < 1:=hj;obtain rfl:j = 0:=bv9;rcases (show i = 0 \/ i = 1 by omega) with rfl | rfl;exact b2r rfl bv9;exact b60 rfl bv9)⟩⟩,trivial⟩ ?_;refine v_3 ?_;exact ⟨CoC.one (CoP.of_eq (by rw [apf])),trivial⟩
def bhc (l:List Fd) (i:Nat) (hi:i < l.length) (hl:l.length <= 16777216):a6 bw0 177 [pP (fdl l),pI i] (af [pB (tx l i)]):=by
 refine hpx (nt:=13) Tryz.func177 ?_;refine w_8 ?_;refine qcx (wgx Tryz.func178) (auu l i hi hl) ?_;refine w_4 ?_;refine qcx (wgx Tryz.func24) (bju (d6 l i) (l.getD i default)) ?_;refine v_3 ?_;exact CoL.refl _
def bjb (l:List Fd) (x:Fd) (a:Nat):a6 bw0 175 [pP (fdl l),x.pc,pI a] (af [pB (exB l x a)]):=by
 refine hpx (nt:=17) Tryz.func175 ?_;refine sx7 ?_;refine m9 0 ?_;refine kf ?_;refine rc rfl rfl rfl rfl rfl rfl (wgx Tryz.func24) (bju l ⟨x.lhs &&& ~~~((1:AS) <<< a),x.rhs⟩) (⟨CoC.refl _,bls (a9p _ _),trivial⟩) rfl rfl ?_;refine v_3 ?_;exact CoL.refl _
end
section
def boy (l:List Fd) (i k:Nat):List Fd:=gl (l.take i) ++ (bkd ((l.getD i default).rhs &&& ~~~(l.getD i default).lhs) k).map fun a=>(⟨(l.getD i default).lhs,(1:AS) <<< a⟩:Fd)
def a49 (x:Fd) (a:Nat):Fd:=⟨x.lhs &&& ~~~((1:AS) <<< a),x.rhs⟩
def eo (i:Nat) (l:List Fd) (a:Nat):List Fd:=if c8 (l.getD i default).lhs a && exB l (l.getD i default) a then l.set i (a49 (l.getD i default) a) else l
def sa (l:List Fd) (i k:Nat):List Fd:=((aj (l.getD i default).lhs).take k).foldl (eo i) l
def a5e (l:List Fd) (i:Nat):List Fd:=(aj (l.getD i default).lhs).foldl (eo i) l
def jj (l:List Fd) (i:Nat):List Fd:=(List.range i).foldl a5e l
section
variable {a i:Nat} {l:List Fd}
def a4v:(eo i l a).length = l.length:=by
 unfold eo;split
 · rw [btl]
 rfl
def a7k:∀ (m:List Nat) (l:List Fd),(m.foldl (eo i) l).length = l.length
 | [],l=>rfl
 | a :: m,l=>by rw [btp,a7k m,a4v]
variable {k:Nat}
def apu:(sa l i k).length = l.length:=a7k _ _
def b4n:(a5e l i).length = l.length:=a7k _ _
def my:∀ {i:Nat},(jj l i).length = l.length
 | 0=>rfl
 | i + 1=>by
  unfold jj;rw [bsp,bs8];show (a5e ((List.range i).foldl a5e l) i).length = _;rw [b4n];exact my (i:=i)
def uo (l:List Fd) (i:Nat):jj l (i + 1) = a5e (jj l i) i:=by
 unfold jj;rw [bsp,bs8];rfl
def azh (l:List Fd) (i:Nat):sa l i 0 = l:=by unfold sa;rw [bu7];rfl
def b5m (hk:k = (aj (l.getD i default).lhs).length):sa l i k = a5e l i:=by
 unfold sa a5e;rw [hk,bro]
def a1k (hk:k < (aj (l.getD i default).lhs).length):sa l i (k + 1) = eo i (sa l i k) ((aj (l.getD i default).lhs).getD k default):=by
 unfold sa;rw [al hk,bs8];rfl
def a15 {x:Fd} (hi:i < l.length):(l.set i x).getD i default = x:=by simp [List.getD,hi]
def b6w {b:Nat} (hi:i < l.length) (hb:b < 32) (hne:b ≠ a):((eo i l a).getD i default).lhs.getLsbD b = (l.getD i default).lhs.getLsbD b:=by
 unfold eo;split
 · rw [a15 hi]
   show ((l.getD i default).lhs &&& ~~~((1:AS) <<< a)).getLsbD b = _;rw [brv,bsv,lb _ _ hb];simp [hb,hne]
 rfl
def aig {b:Nat} (hb:b < 32):∀ (m:List Nat) (l:List Fd),i < l.length -> (∀ a ∈ m,b ≠ a) -> ((m.foldl (eo i) l).getD i default).lhs.getLsbD b = (l.getD i default).lhs.getLsbD b
 | [],l,_,_=>rfl
 | a :: m,l,hi,h=>by
  rw [btp,aig hb m _ (by rw [a4v];exact hi) fun c hc=>h c (bs1 _ hc),b6w hi hb (h a bsj)]
def avw (s:AS):(aj s).Pairwise (· < ·):=List.Pairwise.filter _ List.pairwise_lt_range
def api {m:List Nat} (hk:k < m.length):m.getD k default = m[k]:=by simp [List.getD,hk]
def axh {m:List Nat} (hk:k < m.length):m.getD k default ∈ m:=by rw [api hk];exact brs hk
def b55 (hi:i < l.length) (hk:k < (aj (l.getD i default).lhs).length):c8 ((sa l i k).getD i default).lhs (((aj (l.getD i default).lhs).getD k default:Nat):Int) = true:=by
 have hm:(aj (l.getD i default).lhs).getD k default ∈ aj (l.getD i default).lhs:=axh hk;obtain ⟨h1,h2⟩:=jg.1 hm;rw [dx h1];unfold sa;rw [aig h1 _ _ hi,h2];intro a ha;obtain ⟨j,hj,rfl⟩:=bry ha;rw [brl] at hj;rw [List.getElem_take,api hk];have:=bte.1 (avw (l.getD i default).lhs) j k bv9 hk bv9;exact Nat.ne_of_gt this
def aqs (h:c8 (l.getD i default).lhs a = true) (h2:exB l (l.getD i default) a = true):eo i l a = l.set i (a49 (l.getD i default) a):=by unfold eo;rw [h,h2];rfl
def aqj (h2:exB l (l.getD i default) a = false):eo i l a = l:=by unfold eo;rw [h2];simp
def b1u (h:c8 (l.getD i default).lhs a = false):eo i l a = l:=by unfold eo;rw [h];rfl
def at9 {wr wr':Bool} {n:Nat} {e:TypeId} {l':List Fd} {v:Int} (hl:l' = l.set i (a49 (l.getD i default) a)) (hv:v = asI ((l.getD i default).lhs &&& ~~~((1:AS) <<< a))) (hk:k = i) (hi:i < l.length) (hn:n = l.length) (hw:wr' = true -> wr = true:=by exact fun h=>h):
 CoO (.arr wr 2 e n (gu (lf Fd.c l) k 0 [.raw (.int .u32 v)])) (.arr wr' 2 e n (lf Fd.c l')):=by
 subst hl hv hk hn;refine ⟨hw,rfl,rfl,rfl,fun r j hr hj=>CoP.of_eq ?_⟩;unfold gu lf;by_cases h:r = k
 · subst h
   rw [a15 hi]
   rcases (by omega:j = 0 \/ j = 1) with rfl | rfl
   · rw [if_pos ⟨rfl,brd _,by simp⟩]
     rfl
   rw [if_neg bvd];rfl
 rw [if_neg bv9,getD_set_ne' h]
def ast {n:Nat} {cl:Bool} (h:n = l.length):CoP (.sl n 2 cl (lf Fd.c l)) (fdl l):=CoP.sl h.symm (.inl rfl) (fun h=>by cases h) fun _ _ _ _=>CoP.refl _
def jx:Nat -> List Fd -> Nat -> List Fd
 | 0,l,_=>l
 | f + 1,l,i=>if i < l.length then (if tx l i then jx f (d6 l i) i else jx f l (i + 1)) else l
def ato (hi:i < l.length) (h:tx l i = true):jx (l.length - i) l i = jx ((d6 l i).length - i) (d6 l i) i:=by
 rw [l5 hi,show l.length - i = (l.length - 1 - i) + 1 by omega];show (if i < l.length then (if tx l i then _ else _) else l) = _;rw [if_pos hi,h];rfl
def asd (hi:i < l.length) (h:tx l i = false):jx (l.length - i) l i = jx (l.length - (i + 1)) l (i + 1):=by
 rw [show l.length - i = (l.length - (i + 1)) + 1 by omega];show (if i < l.length then (if tx l i then _ else _) else l) = _;rw [if_pos hi,h];rfl
def azf (hi:¬ i < l.length):jx (l.length - i) l i = l:=by rw [show l.length - i = 0 by omega];rfl
def spl (l:List Fd):List Fd:=i7 (gl l)
def a03 (l:List Fd):List Fd:=i7 (jj (spl l) (spl l).length)
def mw (l:List Fd):List Fd:=jx (a03 l).length (a03 l) 0
def asi (l:List Fd):(spl l).length <= 32 * l.length:=bs4 (a6h _) (a4o l)
def aea (l:List Fd):(a03 l).length <= 32 * l.length:=bs4 (a6h _) (by rw [my];exact asi l)
def vd (t:AS) (l:List Fd):Prop:=∀ x ∈ l,sub x.lhs t
def bdx {t:AS} (h:vd t l):vd t (eo i l a):=by
 unfold eo;split
 · rename_i hc
   intro x hx
   rcases bu0 hx with hx | rfl
   · exact h x hx
   by_cases hi:i < l.length
   · have:=h (l.getD i default) (by rw [brc,brb hi];exact brs hi)
     refine b6 (aq.2 fun k hk hb=>?_) this;have hb:((l.getD i default).lhs &&& ~~~((1:AS) <<< a)).getLsbD k = true:=hb;rw [brv,brk] at hb;exact hb.1
   rw [bto bv9] at hx;exact h _ hx
 exact h
def apl {t:AS}:∀ (m:List Nat) (l:List Fd),vd t l -> vd t (m.foldl (eo i) l)
 | [],_,h=>h
 | a :: m,l,h=>apl m _ (bdx h)
def arz {t:AS} (h:vd t l):∀ i,vd t (jj l i)
 | 0=>h
 | i + 1=>by rw [uo];exact apl _ _ (arz h i)
def bin {t:AS} (h:vd t l):vd t (spl l):=by
 intro x hx;have hx:=l8.1 hx;unfold gl at hx;obtain ⟨ys,hys,hxy⟩:=buy.1 hx;obtain ⟨f,hf,rfl⟩:=brp.1 hys;unfold oz at hxy;obtain ⟨a,_,rfl⟩:=brp.1 hxy;exact h f hf
def b3z {n:Int} (h:bj n l = 0):vd (aa n) l:=by
 obtain ⟨h0,h1,_,h3⟩:=fz h;intro x hx;exact ((a95 h0 h1).1 (bs2.1 h3 x hx)).1
end
end
section
open Go.Proofs
def bbn (l:List Fd) (hl:l.length <= 4096):cz bw0 174 [.one (.p (fdl l))] [] (.v (.one (.ref 900 (spl l).length))) [(900, .arr true 2 61 (spl l).length (lf Fd.c (spl l)))] []:=by
 refine hfx (nt:=37) Tryz.func174 ?_;refine dc ?_;refine cu 0 rfl fun hn=>?_;refine w_6 ?_;refine df 3 901 true 2 61 (lf Fd.c []) bvg rfl (CoP.sl rfl (.inr rfl) (fun h=>h) (fun i j hi _=>absurd hi (brg i))) (.inr rfl) rfl ?_;refine br (ka 8 (ka 9 kn)) km (fun i=>⟨[(3,some (.v (.one (.ref 901 (gl (l.take i)).length)))),(10,some (vI i))],[(901,some (.arr true 2 61 (gl (l.take i)).length (lf Fd.c (gl (l.take i)))))]⟩) l.length kk ?_;rintro i hi;refine w_5 ?_;refine hcd (fun h0=>?_) (fun h0=>?_)
 ·
  refine w_7 ?_;refine m9 0 ?_;refine w_9 ?_;refine rc rfl rfl rfl rfl rfl rfl a8l (awx ((l.getD i default).rhs &&& ~~~(l.getD i default).lhs)) (⟨cci (ai3 _ _),trivial⟩) rfl rfl ?_;refine w_4 ?_;refine br (ka 5 (ka 8 (ka 9 (ka 10 (ka 19 (ka 20 kn)))))) (kb 0 km) (fun k=>⟨[(3,some (.v (.one (.ref 901 (ow l i k).length)))),(21,some (vI k))],[(901,some (.arr true 2 61 (ow l i k).length (lf Fd.c (ow l i k))))]⟩) ((aj ((l.getD i default).rhs &&& ~~~(l.getD i default).lhs)).length) ⟨⟨⟨_,rfl,(ce (aa7 l i))⟩,tt⟩,⟨⟨_,rfl,(bv (aa7 l i))⟩,trivial⟩⟩ ?_;rintro k hk;have hml:=a43 ((l.getD i default).rhs &&& ~~~(l.getD i default).lhs);have hsl:=aw0 (l:=l) (i:=i) (k:=k) bv9;refine w_5 ?_;refine hcd (fun h1=>?_) (fun h1=>?_)
  · refine qs ?_;refine rq rfl rfl rfl rfl rfl ?_ (hp:=(btf _));refine qy ?_;refine m9 1 ?_;refine r9 2 true ?_;refine w_7 ?_;exact lpx (k + 1) ⟨⟨⟨_,rfl,(bz (aa1 rfl bv9))⟩,tt⟩,⟨⟨_,rfl,(n8 (aa1 rfl bv9) (CoP.refl _) (CoP.of_eq (by exact congrArg (fun z=>PV.raw (.int .u32 z)) (beb _))))⟩,uu⟩⟩
  obtain rfl:k = (aj ((l.getD i default).rhs &&& ~~~(l.getD i default).lhs)).length:=by omega
  refine w_5 ?_;exact lpx (i + 1) ⟨⟨⟨_,rfl,(ce (aew bv9 rfl).symm)⟩,tt⟩,⟨⟨_,rfl,(bv (aew bv9 rfl).symm)⟩,trivial⟩⟩
 obtain rfl:i = l.length:=by omega
 refine w_2 ?_;refine bn 3 rfl rfl rfl ?_;refine w_2 ?_;refine jc rfl rfl rfl rfl rfl rfl (wgx Tryz.func176) (aza (gl l) (bs4 (a4o l) bv9)) (⟨CoP.of_eq (by rw [bro];rfl),trivial⟩) trivial rfl rfl ?_;refine w_2 ?_;refine hrr ?_;exact ⟨_,_,rfl,bvb,CoR.refl _,uu⟩
def bod (l:List Fd) (hl:l.length <= 4096):a6 bw0 123 [pP (fdl l)] (af [pP (fdl (mw l))]):=by
 refine hpx (nt:=60) Tryz.func123 ?_;refine w_7 ?_;refine fc9 (wgx Tryz.func174) (bbn l hl) trivial ?_;refine w_4 ?_;have hsl:=asi l;refine w_6 ?_;refine br (ka 3 (ka 11 kn)) km (fun i=>⟨[(12,some (vI i))],[(900,some (.arr true 2 61 (spl l).length (lf Fd.c (jj (spl l) i))))]⟩) ((spl l).length) kk ?_;rintro i hi;have htl:=my (l:=spl l) (i:=i);refine w_5 ?_;refine hcd (fun h0=>?_) (fun h0=>?_)
 ·
  refine k8 ?_;refine qcx a8l (awx ((jj (spl l) i).getD i default).lhs) ?_;refine w_4 ?_;refine br (ka 3 (ka 4 (ka 11 (ka 12 (ka 20 (ka 21 kn)))))) km (fun k=>⟨[(22,some (vI k))],[(900,some (.arr true 2 61 (spl l).length (lf Fd.c (sa (jj (spl l) i) i k))))]⟩) ((aj ((jj (spl l) i).getD i default).lhs).length) ⟨tt,⟨⟨_,rfl,(jy (azh _ _) rfl)⟩,trivial⟩⟩ ?_;rintro k hk;have hml:=a43 ((jj (spl l) i).getD i default).lhs;refine w_5 ?_;refine hcd (fun h1=>?_) (fun h1=>?_)
  ·
   have hkl:(sa (jj (spl l) i) i k).length = (spl l).length:=by rw [apu,my]
   have hhas:=b55 (l:=(jj (spl l) i)) (i:=i) (k:=k) (by rw [my];omega) bv9;refine va ?_;refine rc rfl rfl rfl rfl rfl rfl (wgx Tryz.func175) (bjb (sa (jj (spl l) i) i k) ((sa (jj (spl l) i) i k).getD i default) ((aj ((jj (spl l) i).getD i default).lhs).getD k default)) (⟨CoC.one (ast (by rw [apu,my])),CoC.refl _,CoC.refl _,trivial⟩) rfl rfl ?_;refine cw ?_;refine hcb (fun h2=>?_) (fun h2=>?_)
   ·
    refine w_7 ?_;refine rq rfl rfl rfl rfl rfl ?_ (hp:=(btf _));refine dc ?_
    first | (refine lpz (k + 1) ⟨tt, ⟨⟨_, rfl, (at9 (i := i) (a := (aj ((jj (spl l) i).getD i default).lhs).getD k default) (l := (sa (jj (spl l) i) i k)) (by rw [a1k bv9, aqs hhas bva]) (a9p _ _) bv9 bv9 hkl.symm)⟩, trivial⟩⟩ ?_; show k + 1 <= _; omega)
          | (refine lpz (k + 1) ⟨tt,⟨⟨_,rfl,(jy (by rw [a1k bv9,aqj bva]) rfl)⟩,trivial⟩⟩ ?_;show k + 1 <= _;omega)
   refine w_5 ?_
   first | (refine lpz (k + 1) ⟨tt, ⟨⟨_, rfl, (at9 (i := i) (a := (aj ((jj (spl l) i).getD i default).lhs).getD k default) (l := (sa (jj (spl l) i) i k)) (by rw [a1k bv9, aqs hhas bva]) (a9p _ _) bv9 bv9 hkl.symm)⟩, trivial⟩⟩ ?_; show k + 1 <= _; omega)
         | (refine lpz (k + 1) ⟨tt,⟨⟨_,rfl,(jy (by rw [a1k bv9,aqj bva]) rfl)⟩,trivial⟩⟩ ?_;show k + 1 <= _;omega)
  obtain rfl:k = (aj ((jj (spl l) i).getD i default).lhs).length:=by omega
  refine w_5 ?_;exact lpx (i + 1) ⟨tt,⟨⟨_,rfl,(jy (by rw [uo,b5m rfl]) rfl)⟩,trivial⟩⟩
 obtain rfl:i = (spl l).length:=by omega
 refine w_2 ?_;refine bn 3 rfl rfl rfl ?_;refine w_2 ?_;refine rc rfl rfl rfl rfl rfl rfl (wgx Tryz.func176) (bmd (jj (spl l) (spl l).length) (by rw [my];omega)) (⟨CoC.one (ast (by rw [my])),trivial⟩) rfl rfl ?_;refine w_4 ?_;have hrl:=aea l;refine w_4 ?_;refine ah (ι:=List Fd × Nat) kn km (fun x=>⟨[(3,some (bp (fdl x.1))),(7,some (vI x.2))],[]⟩) (fun x=>jx (x.1.length - x.2) x.1 x.2 = mw l /\ x.2 <= x.1.length /\ x.1.length <= 131072) (fun x=>x.1.length - x.2) ((a03 l,0)) (⟨rfl,bre _,by show (a03 l).length <= _;omega⟩) ⟨⟨zy,⟨_,rfl,(coi rfl)⟩,trivial⟩,trivial⟩ ?_;rintro x ⟨hx,hx2,hx3⟩;refine w_8 ?_;refine hcd (fun h3=>?_) (fun h3=>?_)
 ·
  refine w_6 ?_;refine qcx (wgx Tryz.func177) (bhc x.1 x.2 bv9 bv9) ?_;refine cw ?_;refine au _ rfl (fun r4=>?_) (fun r4=>?_)
  ·
   have h4:=r4;have hq:=r4;refine w_3 ?_;refine qcx (wgx Tryz.func178) (auu x.1 x.2 bv9 bv9) ?_;refine w_2 ?_
   first | (refine ⟨(d6 x.1 x.2, x.2), ?_, ?_, ?_⟩
            · have ho:=l5 (l:=x.1) (i:=x.2) bv9
              exact ⟨by rw [<- hx,ato bv9 hq],by dsimp only;omega,by dsimp only;omega⟩
            · have ho:=l5 (l:=x.1) (i:=x.2) bv9
              dsimp only;omega
            exact ⟨⟨zy,⟨_,rfl,(coi bvc)⟩,trivial⟩,trivial⟩)
         | (refine lpz (x.1,x.2 + 1) ⟨⟨zy,⟨_,rfl,(coi bvc)⟩,trivial⟩,trivial⟩ ?_;exact ⟨by rw [<- hx,asd bv9 hq],by dsimp only;omega,by dsimp only;omega⟩)
  have h4:=r4;have hq:=r4;refine w_5 ?_
  first | (refine ⟨(d6 x.1 x.2, x.2), ?_, ?_, ?_⟩
           · have ho:=l5 (l:=x.1) (i:=x.2) bv9
             exact ⟨by rw [<- hx,ato bv9 hq],by dsimp only;omega,by dsimp only;omega⟩
           · have ho:=l5 (l:=x.1) (i:=x.2) bv9
             dsimp only;omega
           exact ⟨⟨zy,⟨_,rfl,(coi bvc)⟩,trivial⟩,trivial⟩)
        | (refine lpz (x.1,x.2 + 1) ⟨⟨zy,⟨_,rfl,(coi bvc)⟩,trivial⟩,trivial⟩ ?_;exact ⟨by rw [<- hx,asd bv9 hq],by dsimp only;omega,by dsimp only;omega⟩)
 have hq:=h3;refine v_6 ?_;exact ⟨CoC.one (CoP.of_eq (by rw [<- hx,azf bv9])),trivial⟩
end
section
def sb (n:Int) (l:List Fd):List Fd:=if bj n l = 0 then mw l else []
def a0f {n:Int} {l:List Fd} (h:bj n l = 0):sb n l = mw l:=if_pos h
def bhd {n:Int} {l:List Fd} (h:¬ bj n l = 0):sb n l = []:=if_neg h
def bnm {s:Nat} {cl:Bool} {f:Nat -> Nat -> PV} {L:List Fd} (h:L = []):CoP (.sl 0 s cl f) (fdl L):=by subst h;exact su
def b3k {s:Nat} {cl:Bool} {f:Nat -> Nat -> PV} {L:List AS} (h:L = []):CoP (.sl 0 s cl f) (asl L):=by subst h;exact su
def bq3 (l:List Fd) (i k:Nat):List Fd:=(List.range k).foldl (eo i) l
end
section
open Go.Proofs
def bkv (n:Int) (l:List Fd):a6 bw0 63 [pI n,pP (fdl l)] (af [pP (fdl (sb n l)),pI (bj n l)]):=by
 refine hpx (nt:=15) Tryz.func63 ?_;refine dc ?_;refine qcx zn (a3c n l) ?_;refine w_7 ?_;refine hcn (fun h0=>?_) (fun h0=>?_)
 · refine v_6 ?_;exact ⟨CoC.one (bnm (bhd bva)),CoC.refl _,trivial⟩
 refine w_4 ?_;refine qcx (wgx Tryz.func123) (bod l (by have:=(fz bva).2.2.1;omega)) ?_;refine v_3 ?_;exact ⟨CoC.one (CoP.of_eq (by rw [a0f bva])),cci bv9,trivial⟩
end
section
def af9 (a b:Nat):a &&& b = 2 * (a / 2 &&& b / 2) + (a % 2 &&& b % 2):=by
 have h1:=Nat.div_add_mod (a &&& b) 2
 have h2:(a &&& b) % 2 = a % 2 &&& b % 2:=by
  have:=Nat.and_mod_two_pow (a:=a) (b:=b) (n:=1);simpa using this
 rw [Nat.and_div_two,h2] at h1;exact h1.symm
def arx (a b:Nat):(a % 2 &&& b % 2) = if a % 2 = 1 /\ b % 2 = 1 then 1 else 0:=by
 rcases Nat.mod_two_eq_zero_or_one a with h | h <;> rcases Nat.mod_two_eq_zero_or_one b with k | k <;> rw [h,k] <;> rfl
def ajv {x s:Nat} (h:x &&& s = x):(x / 2 &&& s / 2 = x / 2) /\ (x % 2 = 1 -> s % 2 = 1):=by
 have h1:=af9 x s;rw [h,arx] at h1;split at h1 <;> rename_i hc
 · exact ⟨by omega,fun _=>hc.2⟩
 exact ⟨by omega,fun hx=>by omega⟩
def b3c:∀ (x s z:Nat),x &&& s = x -> z &&& s = z -> z < x -> z <= ((x - 1) &&& s):=by
 intro x
 induction x using Nat.strongRecOn with
 | _ x ih =>
  intro s z hx hz hlt;obtain ⟨x1,x2⟩:=ajv hx;obtain ⟨z1,z2⟩:=ajv hz;rw [af9 (x - 1) s,arx]
  rcases Nat.mod_two_eq_zero_or_one x with hb | hb
  · have e1:(x - 1) / 2 = x / 2 - 1:=by omega
    have e2:(x - 1) % 2 = 1:=by omega
    have:=ih (x / 2) bv9 (s / 2) (z / 2) x1 z1 bv9;rw [e1,e2];by_cases hs:s % 2 = 1
    · rw [if_pos ⟨rfl,hs⟩];omega
    rw [if_neg (fun h=>hs h.2)];have:z % 2 = 0:=by omega
    omega
  have e1:(x - 1) / 2 = x / 2:=by omega
  have e2:(x - 1) % 2 = 0:=by omega
  rw [e1,e2,x1,if_neg bv9];omega
section
variable {s z:AS}
def aod:sub z s <-> z.toNat &&& s.toNat = z.toNat:=by
 rw [<- bux,BitVec.toNat_inj,aq];constructor
 · intro h
   apply bt0;intro k hk;rw [brv]
   cases hz:z.getLsbD k with
   | false=>rfl
   | true=>rw [h k hk hz];rfl
 intro h i _ hi;rw [<- h,brv] at hi;simp at hi;exact hi.2
def bd0 (h:sub z s):bsz z <= bsz s:=by
 unfold bsz;apply List.countP_mono_left;intro i hi hb;exact aq.1 h i (brw.1 hi) hb
def a4e (s:AS):Nat -> AS -> List AS
 | 0,_=>[]
 | n + 1,x=>x :: if x = 0 then [] else a4e s n ((x - 1) &&& s)
variable {x:AS}
def aq4 (h:x ≠ 0):(x - 1).toNat = x.toNat - 1:=by
 have h0:x.toNat ≠ 0:=fun e=>h (bso e);have:=x.isLt;rw [BitVec.toNat_sub];show (2 ^ 32 - 1 + x.toNat) % 2 ^ 32 = _;omega
def a4r:sub ((x - 1) &&& s) s:=by
 rw [aod,bux,Nat.and_assoc,Nat.and_self]
def vv (h:x ≠ 0):((x - 1) &&& s).toNat < x.toNat:=by
 have h0:x.toNat ≠ 0:=fun e=>h (bso e);rw [bux,aq4 h];have:((x.toNat - 1) &&& s.toNat) <= x.toNat - 1:=Nat.and_le_left;omega
def abi (hx:sub x s) (hz:sub z s) (h:z.toNat < x.toNat):z.toNat <= ((x - 1) &&& s).toNat:=by
 have h0:x ≠ 0:=fun e=>by subst e;exact absurd h (brg _)
 rw [bux,aq4 h0];exact b3c _ _ _ (aod.1 hx) (aod.1 hz) h
def aqc:∀ (n:Nat) (x:AS),sub x s -> x.toNat < n -> ∀ z,z ∈ a4e s n x <-> sub z s /\ z.toNat <= x.toNat
 | 0,x,_,h,z=>absurd h (brg _)
 | n + 1,x,hx,h,z=>by
  unfold a4e;by_cases h0:x = 0
  · rw [if_pos h0,bru]
    subst h0;constructor
    · rintro rfl;exact ⟨hx,brd _⟩
    rintro ⟨_,h⟩;exact bso (Nat.le_antisymm h (bre _))
  rw [if_neg h0,brm,aqc n _ a4r (by have:=vv (s:=s) h0;omega)];constructor
  · rintro (rfl | ⟨h1,h2⟩)
    · exact ⟨hx,brd _⟩
    have:=vv (s:=s) h0;exact ⟨h1,by omega⟩
  rintro ⟨h1,h2⟩;by_cases he:z = x
  · exact .inl he
  have hne:z.toNat ≠ x.toNat:=fun e=>he (bso e);exact .inr ⟨h1,abi hx h1 bv9⟩
def a5c (s:AS):List AS:=ord (a4e s (s.toNat + 1) s)
def sub_self (s:AS):sub s s:=by rw [aod,Nat.and_self]
def akl (h:sub z s):z.toNat <= s.toNat:=by rw [<- aod.1 h];exact Nat.and_le_right
def aj1:z ∈ a5c s <-> sub z s:=by
 unfold a5c;rw [pg,aqc _ _ (sub_self s) (Nat.lt_succ_self _)];exact ⟨fun h=>h.1,fun h=>⟨h,akl h⟩⟩
def b4v {l:List AS} (ho:xz l) (h:∀ z,z ∈ l <-> sub z s):l = a5c s:=a1v ho (a4j _) fun z=>by rw [h z];exact aj1.symm
def c4 (s:AS):List AS:=if 12 < bsz s then [] else a5c s
def bbk (h:(12:Int) < bsz s):c4 s = []:=if_pos bv9
def be7 (h:¬ (12:Int) < bsz s):c4 s = a5c s:=if_neg bv9
def aez (s:AS) (y:List AS × AS):Prop:=sub y.2 s /\ y.1.length + y.2.toNat <= s.toNat + 1 /\ ∀ z,z ∈ y.1 <-> sub z s /\ y.2.toNat <= z.toNat
def ay0 (s:AS):aez s ([s],s):=⟨sub_self s,by simp only [bst];omega,fun z=>by
 rw [bru];constructor
 · rintro rfl;exact ⟨sub_self _,brd _⟩
 rintro ⟨h1,h2⟩;exact bso (Nat.le_antisymm (akl h1) h2)⟩
def ax9 {y:List AS × AS} (h:aez s y) (h0:y.2 ≠ 0):aez s (y.1 ++ [(y.2 - 1) &&& s],(y.2 - 1) &&& s):=by
 obtain ⟨h1,h2,h3⟩:=h;have hl:=vv (s:=s) h0;refine ⟨a4r,by simp only [brh,bst];omega,fun z=>?_⟩;rw [brr,bru,h3];constructor
 · rintro (⟨k1,k2⟩ | rfl)
   · exact ⟨k1,by dsimp only;omega⟩
   exact ⟨a4r,brd _⟩
 rintro ⟨k1,k2⟩;dsimp only at k2;by_cases hz:y.2.toNat <= z.toNat
 · exact .inl ⟨k1,hz⟩
 have:=abi h1 k1 bv9;exact .inr (bso bv9)
def b6x {y:List AS × AS} (h:aez s y) (h0:y.2 = 0):ord y.1 = a5c s:=b4v (a4j _) fun z=>by
 rw [pg,h.2.2,h0];exact ⟨fun h=>h.1,fun h=>⟨h,bre _⟩⟩
def nxt (x s:Nat):Nat:=if x = s then s + 1 else ((2 ^ 64 + x - s) &&& s)
def UpI (s:AS) (k:Nat) (y:List AS × Nat):Prop :=
 (y.2 = s.toNat + 1 \/ y.2 &&& s.toNat = y.2) /\ y.1.length <= k * 4294967296 + y.2 /\ xz y.1 /\ ∀ z,z ∈ y.1 <-> sub z s /\ (bsz z < k \/ bsz z = k /\ z.toNat < y.2)
def UpK (s:AS) (k:Nat) (l:List AS):Prop:=l.length <= k * 4294967296 /\ xz l /\ ∀ z,z ∈ l <-> sub z s /\ bsz z < k
abbrev pU (n:Nat):PC:=.one (.raw (.int .u64 (n:Int)))
abbrev vU (n:Nat):HR:=bp (.raw (.int .u64 (n:Int)))
def aq2 (h:x ≠ 0):cn .and .u32 (asI x - 1) (asI s) = asI ((x - 1) &&& s):=by rw [amc h,tn]
def ol {α:Type} [Inhabited α] {wr wr':Bool} {e:TypeId} {c:α -> Nat -> PV} {x:α} {f:Nat -> Nat -> PV} (h:CoP (f 0 0) (c x 0)) (hw:wr' = true -> wr = true:=by exact fun h=>h):CoO (.arr wr 1 e 1 f) (.arr wr' 1 e [x].length (lf c [x])) :=
 ⟨hw,rfl,rfl,rfl,fun i j hi hj=>by
  have hi:i < 1:=hi;have hj:j < 1:=hj;obtain rfl:j = 0:=by omega
  obtain rfl:i = 0:=by omega
  exact h⟩
end
end
end Go.Hx

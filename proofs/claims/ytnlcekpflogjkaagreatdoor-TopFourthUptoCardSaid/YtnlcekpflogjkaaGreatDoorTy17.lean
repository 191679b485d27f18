/- A part of the proof: SrW Cs10 V8 Cs11 Gr V9 Cs12 V10 Cs13 V11 Cs14 V12 Cs15 V13 Cs16. -/
import Derived.Shelf.SlSortCmp.NoneTotal
import Derived.Test.YtnlcekpflogjkaaGreatDoorTy15
import Derived.Test.YtnlcekpflogjkaaGreatDoorTy16
set_option linter.all false
set_option maxRecDepth 100000
namespace Go.Hx
section
open Go.Proofs Go.RowKit Go.Sort
section
variable {w:World}
def ag3{w':World}(h:Below w.heap.size w w'):∃q os,w'=grow (w.drewN q) os:=by
 refine⟨w'.drawn-w.drawn,w'.heap.extract w.heap.size w'.heap.size, ?_⟩;have hd:=h.drawn;obtain⟨h1,h2,h3,h4,h5,_⟩:=h
 cases w with
 |mk hp tp dr os out =>
 cases w' with
 |mk hp' tp' dr' os' out' =>
 dsimp only at *;subst h1 h2 h3;unfold grow World.drewN;simp only[World.mk.injEq,true_and,and_true];refine⟨?_,by omega⟩;apply Array.ext_getElem?;intro k;rw[Array.getElem?_append];by_cases hk:k<hp.size
 · rw[if_pos hk,h5 k hk]
 rw[if_neg hk,Array.getElem?_extract];by_cases hk2:k<hp'.size
 · rw [if_pos bww]
   congr 1;omega
 rw[if_neg bww,bvk bww]
variable {os:Array Obj}{α:Type}{d:Array α}{enc:α->Value}
def afz [Inhabited α] {g m:Nat} {cur:Array Value} {e:TypeId} {fr:Nat×Nat} (h:w.heap[g]? = some (.cells cur e fr)):
 (sortWorld enc w g 0 m d os).heap[g]? = some (.cells (putCells enc 0 d cur) e fr):=by
 have hlt:=(bt3.1 h).1;unfold sortWorld;rw[heap_grow_old _ _ (by simpa using hlt)];unfold putRow mapBlock;simp only[heap_ahead,bvn,if_true,h];rfl
def sg [Inhabited α] {g m:Nat} {b:Nat} (hb:b<w.heap.size) (hne:b≠g):(sortWorld enc w g 0 m d os).heap[b]? = w.heap[b]?:=by
 unfold sortWorld;rw[heap_grow_old _ _ (by simpa using hb)];unfold putRow mapBlock;simp only[heap_ahead,bvn,if_neg (Ne.symm hne)]
def ae9 [Inhabited α] {g m:Nat}:Below 0 w (sortWorld enc w g 0 m d os) :=
 ⟨rfl,rfl,rfl,by unfold sortWorld;simp,fun k hk=>absurd hk (bt1 k),by unfold sortWorld grow;simp⟩
def aor[Inhabited α]{cur:Array Value}(h:d.size<=cur.size):(putCells enc 0 d cur).toList.take d.size=d.toList.map enc:=by
 apply bvu;intro k;rw[btx,btf,bup,bup];by_cases hk:k<d.size
 · rw [if_pos hk]
   unfold putCells;rw[Array.getElem?_mapIdx,bue bww,bue hk];simp only[btr,btk,Nat.sub_zero];rw[if_pos ⟨bsx _,hk⟩,getElem!_pos d k hk]
 rw[if_neg hk,bvk bww];rfl
def b0h{P:Program}{ρ:Go.Shelf.Ren}[Inhabited α](L:SlLaysF.n6 P ρ)(enc:α->Value)(h1:∀x,(enc x).oneCell'=true)(cf:α->α->Int)(hO:SWO (ltOf cf))(hT:∀x y,(ltOf cf) x y=false->(ltOf cf) y x=false->x=y)(g:Nat)(caps:Nat->PV)(hg:∀args w,(callFunc g args).run P w=.ok (.enter g args) w)(hc:∀x y,a6 P g [.one (.raw (enc x)), .one (.raw (enc y))] (ae [.one (.raw (.int .i64 (cf x y)))]))(id:Nat)(e:TypeId)(l:List α)(hsz:l.length<=8589934592):
 d9 P (ρ.f 6) [.one (.ref id l.length), .one (.p (.fn g 0 caps))] [(id, .arr true 1 e l.length (lf (fun x _=>.raw (enc x)) l))] (.tup [])
  [(id, .arr true 1 e l.length (lf (fun x _=>.raw (enc x)) (l.mergeSort fun x y=>!(ltOf cf) y x)))] [id]:=by
 intro w c us hM hus
 match us,hus with
 | [u,v],⟨hu,hv,_⟩ =>
  obtain⟨cs,rfl,hcl,_⟩:=hv;have hcs:cs=[]:=bua hcl;subst hcs;have hl1:lk [(id,a7.arr true 1 e l.length (lf (fun x _=>.raw (enc x)) l))] id=some (.arr true 1 e l.length (lf (fun x _=>.raw (enc x)) l)):=by simp[lk]
  have hu2:=(hu.2.2 _ _ _ _ hl1 rfl).2 rfl;subst hu2;have hob:=hM.objs id _ hl1;obtain⟨h0,hmax,h5⟩:=hob;have hlen:(l.mergeSort fun x y=>!(ltOf cf) y x).length=l.length:=bw0 _
  have hev:∀f':Nat->Nat->PV,Evo c (lk [(id,a7.arr true 1 e l.length (lf (fun x _=>.raw (enc x)) l))]) c (lk [(id,a7.arr true 1 e l.length f')]) id:=fun f' =>
   .inr (.inr ⟨_, .arr true 1 e l.length f',1,e,l.length,l.length,hl1,rfl,by simp[lk],rfl,bsw _,fun _=>rfl,fun _ _ _ _ _ _ _ h=>by cases h⟩)
  rcases buc l.length with hz|hpos
  ·
   have hl:l=[]:=bua hz;subst hl
   have hform:∃ad cap,c.own id=.slice ad 0 cap:=by
    rcases h5 with⟨_,xs,h2,_⟩|⟨_,_,ad,cap,hv,_⟩
    · rcases h2.2 with⟨hv,_⟩|⟨g,cap,cur,hv,_⟩
      · exact⟨none,0,hv⟩
      exact⟨_,cap,hv⟩
    exact⟨ad,cap,hv⟩
   obtain⟨ad,cap,hown⟩:=hform;have hms:([]:List α).mergeSort (fun x y=>!(ltOf cf) y x)=[]:=by simp
   rw[hown,hms];refine(AnyF.slices_SortFunc_none { L with } ad cap (.func (.func g) #[] #[]) w).mono ?_;rintro e' w' ⟨rfl,rfl⟩
   exact ⟨_,c,rfl,⟨[],rfl,trivial⟩,hM,Below.refl _ _,fun _ _ _=>⟨rfl,rfl⟩,fun id0 ob b ho hb=>.inr ⟨id0,ob,ho,hb⟩,fun id0 hid=>by
    rw[bte.1 hid]
    exact Evo.refl _ _ _⟩
  obtain ⟨h6,xs,h2,h4⟩:c.blk id=ew (c.own id)/\∃xs,w.ownsRow 0 e 1 (c.own id) l.length xs/\∀i j,i<l.length->j<1->∃x,xs[i*1+j]? = some x/\aq c.imm (lf (fun x _=>.raw (enc x)) l i j) x:=by
   rcases h5 with h5|⟨h6|h6,_⟩
   · exact h5
   · cases h6
   omega
  obtain⟨hxl,hrow⟩:=h2
  rcases hrow with⟨_,hz⟩|⟨b,cap,cur,hown,hbase,hheap,hnc,hcm,hcs,htake⟩
  · omega
  have hblk:c.blk id b:=by rw[h6,hown];rfl
  have hlt:b<w.heap.size:=(bt3.1 hheap).1
  have hcell:∀j,(hj:j<l.length)->cur[j]? = some (enc l[j]):=fun j hj=>by
   obtain⟨x,hx,hr⟩:=h4 j 0 hj bww;rw[bvs,bur,<- htake,btx,if_pos bww,bup]at hx;rw[hx];have hr:x=enc (l.getD j default)/\_:=hr;rw[hr.1,bsv,bsu hj];rfl
  have hH:Holds enc w b 0 l.toArray:=fun j hj=>by
   have hj:j<l.length:=by simpa using hj
   rw[btk];refine⟨?_,by simp[World.frozen?,hheap]⟩;have:l.toArray[j]! = l[j]:=by rw[getElem!_pos l.toArray j (by simpa using hj)];simp
   rw[this];simp[World.cell?,hheap,hcell j hj]
  have hcmp:CmpLays1 P g #[] enc cf b 0 l.toArray.size w:=by
   intro m os dk hdk x y
   have hcimm:∀b' ob,c.imm b'=some ob->(sortWorld enc w b 0 m dk os).heap[b']? = some ob:=fun b' ob hb'=>by
    have hne:b'≠b:=fun he=>by
     have:=hM.sep id _ b hl1 hblk;rw[<- he,hb']at this;cases this
    have hw:=hM.imm b' ob hb';rw[sg (bt3.1 hw).1 hne];exact hw
   have h:=hc x y (sortWorld enc w b 0 m dk os) c.imm [enc x,enc y] c.tab hcimm ⟨⟨rfl,h1 x⟩,⟨rfl,h1 y⟩,trivial⟩;refine h.mono ?_;rintro e' w' ⟨v,imm',rfl,hr,_,_,hb⟩;obtain⟨q,os',hq⟩:=ag3 hb;exact⟨by rw[hr.1],q,os',hq⟩
  have hS:=Any.slices_SortFunc_total L enc h1 cf hO g #[] b 0 cap l.toArray w hg hcmp hH hlt (by rw[bu0];omega) hT;rw[hown];refine Calls.mono hS ?_;rintro e' w' ⟨rfl,m,os,rfl⟩;generalize hSd:(l.mergeSort fun x y=>!(ltOf cf) y x)=S at *
  refine ⟨_,c,rfl,⟨[],rfl,trivial⟩,⟨fun id0 ob ho=>?_,fun id0 id1 ob0 ob1 b' ho0 ho1 _ _=>(fy ho0).1.trans (fy ho1).1.symm,fun b' ob hb'=>?_,fun id0 ob b' ho hb'=>?_⟩,ae9,
   fun b' hb' hno=>⟨sg hb' (fun he=>hno id _ hl1 (by rw[he];exact hblk)),rfl⟩,fun id0 ob b' ho hb'=>.inr ⟨id,_,hl1,by rw[<- (fy ho).1];exact hb'⟩,fun id0 hid=>by
    rw[bte.1 hid]
    exact hev _⟩
  · obtain ⟨rfl,rfl⟩:=fy ho
    refine⟨h0,hmax, .inl ⟨h6,S.map enc,⟨by simp[hlen], .inr ⟨b,cap,putCells enc 0 S.toArray cur,hown,hbase,afz hheap,hnc,hcm,by simpa [putCells]using hcs, ?_⟩⟩,fun i j hi hj=>?_⟩⟩
    · have:=aor (enc:=enc) (d:=S.toArray) (cur:=cur) (by rw[bu0,hlen,hcs];omega)
      rw[bu0,hlen]at this;rw[bvs];exact this
    obtain rfl:j=0:=by omega
    have hi':i<S.length:=by rw[hlen];exact hi
    refine⟨enc S[i], ?_, ?_⟩
    · rw [bvs,bur,btf,bsu hi']
      rfl
    show aq c.imm (.raw (enc (S.getD i default))) _;rw[bsv,bsu hi'];exact⟨rfl,h1 _⟩
  · have hne:b'≠b:=fun he=>by
     have:=hM.sep id _ b hl1 hblk;rw[<- he,hb']at this;cases this
    have hw:=hM.imm b' ob hb';rw[sg (bt3.1 hw).1 hne];exact hw
  have:=(fy ho).1;subst this;exact hM.sep id0 _ b' hl1 hb'
 | [],h=>exact h.elim
 | [_],⟨_,h⟩=>exact h.elim
 |_::_::_::_,⟨_,_,h⟩=>exact h.elim
def a3m{a b:AS}:ltOf a5c a b=bef a b:=b7z
def b5w:SWO (ltOf a5c) where
 irrefl x:=by rw[a3m];exact a3w x
 trans x y z h k:=by rw[a3m]at *;exact a1v h k
 ntrans x y z h k:=by
  rw[a3m]at *;rw[btb,ne_eq,ui]at *;omega
def srt(l:List AS):List AS:=l.mergeSort fun x y=>!bef y x
def atb:goodFn bxn 169:=⟨Tryz.f169,Tryz.func169,by kernel_rfl,by kernel_rfl⟩
def bxd{p:Prop}(h:p:=by kernel_rfl):p:=h
def b99 (id:Nat) (caps:Nat->PV) (l:List AS) (hsz:l.length<=8589934592):d9 bxn 169 [.one (.ref id l.length), .one (.p (.fn 170 0 caps))] [(id, .arr true 1 50 l.length (lf sC l))] (.tup [])
 [(id, .arr true 1 50 l.length (lf sC (srt l)))] [id]:=by
 have h:=b0h Tryz.laysSort (fun s:AS=>.int .u32 (asI s)) (fun _=>rfl) a5c b5w (fun x y h k=>by
  rw[a3m]at h k;apply Classical.byContradiction;intro hne
  rcases agz hne with h2|h2
  · rw[h]at h2;cases h2
  rw[k]at h2;cases h2) 170 caps (enters_of Tryz.func170 bxd rfl) (fun x y=>b4n x y) id 50 l hsz
 have e:(fun x y:AS=>!(ltOf a5c) y x)=fun x y=>!bef y x:=by
  funext x y;rw[a3m]
 rw[e]at h;exact h
def bcv{l:List AS}{x:AS}:x∈srt l<->x∈l:=by unfold srt;exact List.mem_mergeSort
def a9b(l:List AS):(srt l).length=l.length:=bw0 _
def a7q:∀{l:List AS} {p:Option AS},l.Pairwise (fun a b=>bef b a=false)->(∀x,p=some x->∀y∈l,bef y x=false)->(jq p l).Pairwise (fun a b=>bef a b=true)/\∀x,p=some x->∀y∈jq p l,bef x y=true
 | [],p,_,_=>⟨by simp[jq],fun x _ y hy=>by simp[jq]at hy⟩
 | z :: l,p,h,hp=>by
  obtain⟨h1,h2⟩:=bty.1 h;simp only[jq];split
  · rename_i e
    subst e;exact a7q h2 fun x hx y hy=>hp x hx y (btp _ hy)
  rename_i hne
  obtain ⟨q1,q2⟩:=a7q (p:=some z) h2 fun x hx y hy=>by
   simp only[bst]at hx;subst hx;exact h1 y hy
  refine⟨bty.2 ⟨fun y hy=>q2 z rfl y hy,q1⟩,fun x hx y hy=>?_⟩
  have hxz:bef x z=true:=by
   have h3:=hp x hx z bu5
   rcases agz (a:=x) (b:=z) (fun e=>hne (by rw[hx,e]))with h4|h4
   · exact h4
   rw[h3]at h4;cases h4
  rcases bt7.1 hy with rfl|hy
  · exact hxz
  exact a1v hxz (q2 z rfl y hy)
def a5h (l:List AS):gi (srt l)=ord l:=by
 refine b1d (a7q ?_ fun x hx=>by cases hx).1 fun z=>by rw[acx,bcv]
 have h:=bwl (le:=fun x y:AS=>!bef y x) (fun a b c h k=>by
  simp only[bu4]at *;rw[btb,ne_eq,ui]at *
  omega) (fun a b=>by
  simp only[bud,bu4];rw[btb,btb,ne_eq,ne_eq,ui,ui]
  omega) l
 refine h.imp fun {a b} hab=>?_;simpa using hab
end
end
section
abbrev bx(a:PV):PV:=.vp 1 fun j=>[a].getD j .any
def a3j(W:AS->AS->Bool)(l:List AS)(x:AS):Bool:=l.any fun b=>decide (x≠b)&&W x b
def a5a(W:AS->AS->Bool)(l:List AS):List AS:=(ord l).filter fun x=>!a3j W (ord l) x
def adf(a b:AS):Bool:=decide (sub a b)
def gw(l:List AS):List AS:=a5a adf l
def a7d (l:List AS):(ord l).Nodup:=(a0k l).imp fun {a b} h e=>by
 subst e;rw[a3w]at h;cases h
def okT(l:List AS)(i k:Nat):Bool:=(List.range k).all fun j=>decide (j=i)||!adf (l.getD i default) (l.getD j default)
def br8(l:List AS)(i:Nat):List AS:=((ord l).take i).filter fun x=>!a3j adf (ord l) x
end
section
open Go.Proofs
def yy:goodFn bxn 115:=wgx Tryz.func115
def a6x (l:List AS) (hl:l.length<=8589934592):a6 bxn 115 [pP (asl l)] (ae [pP (asl (ord l))]):=by
 refine hpx (nt:=10) Tryz.func115 ?_;refine w_7 ?_;refine fc9 aph (agk l.length false (lf sC l) bww) trivial ?_;refine w_5 ?_;refine fc9 atb (b99 0 _ l hl) uu ?_;refine w_4 ?_;refine j7 rfl rfl rfl rfl rfl rfl (wgx Tryz.func171) ((b46 (srt l)).swap 900 0) (⟨congrArg (HV.ref 0) (a9b l).symm,trivial⟩) ⟨⟨_,rfl,jw rfl (a9b l).symm⟩,trivial⟩ rfl rfl ?_;refine v_2 ?_;exact⟨CoC.one (CoP.of_eq (by rw[a5h])),trivial⟩
def bd4 (b x:AS) (g k:Nat) (caps:Nat->PV) (W:AS->AS->Bool) (hg:goodFn bxn g) (hW:∀x y,a6 bxn g (pA x::pA y::gq caps k 0) (ae [pB (W x y)])):a6 bxn 141 [pA b,pP (bx (asC x)),pP (bx (.fn g k caps))] (ae [pB (decide (x≠b)&&W x b)]):=by
 refine hpx (nt:=14) Tryz.func141 ?_;refine da ?_;refine ak rfl rfl ?_ ?_<;>intro r0
 ·
  have h0:=tz2 (dt r0);(iterate 3 refine qy ?_ (hg:=(gtt r0)));refine rc rfl rfl rfl rfl rfl rfl hg (hW x b) (CoL.refl _) rfl (gtt r0) ?_;refine w_3 ?_
  exact hx8 rfl rfl rfl (⟨ccb (by simp_all [df]),trivial⟩)
 have h0:=tz1 (du r0);(iterate 4 refine k9 (gft r0) ?_);refine w_3 ?_
 exact hx8 rfl rfl rfl (⟨ccb (by simp_all [df]),trivial⟩)
def bjw (x:AS) (l:List AS) (g k:Nat) (caps:Nat->PV) (W:AS->AS->Bool) (hg:goodFn bxn g) (hW:∀x y,a6 bxn g (pA x::pA y::gq caps k 0) (ae [pB (W x y)])):a6 bxn 140 [pA x,pP (bx (asl l)),pP (bx (.fn g k caps))] (ae [pB (a3j W l x)]):=by
 refine hpx (nt:=8) Tryz.func140 ?_;refine sx7 ?_;refine m9 0 ?_;refine w_3 ?_;refine jb 3 rfl rfl rfl ?_;refine w_3 ?_;refine qcx afl (alc l 141 2 (fun i=>[bx (asC x),bx (.fn g k caps)].getD i .any) (fun b=>decide (x≠b)&&W x b) (wgx Tryz.func141) (fun b=>bd4 b x g k caps W hg hW)) ?_;refine v_2 ?_;exact CoL.refl _
def bnc (l:List AS) (hl:l.length<=8589934592) (g k:Nat) (caps:Nat->PV) (W:AS->AS->Bool) (hg:goodFn bxn g) (hW:∀x y,a6 bxn g (pA x::pA y::gq caps k 0) (ae [pB (W x y)])):a6 bxn 91 [pP (asl l),pP (.fn g k caps)] (ae [pP (asl (a5a W l))]):=by
 refine hpx (nt:=12) Tryz.func91 ?_;refine sx7 ?_;refine m9 2 ?_;refine w_5 ?_;refine qcx yy (a6x l hl) ?_;refine m9 3 ?_;refine w_3 ?_;refine jb 5 rfl rfl rfl ?_;refine jb 3 rfl rfl rfl ?_;refine w_2 ?_;refine fc9 aph (agk (ord l).length false (lf sC (ord l)) (btc (uz l) bww)) trivial ?_;refine qy ?_;refine fc9 (wgx Tryz.func73) ((bnq (ord l) 140 2 (fun i=>[bx (asl (ord l)),bx (.fn g k caps)].getD i .any) (a3j W (ord l)) (wgx Tryz.func140) (fun x=>bjw x (ord l) g k caps W hg hW)).swap 900 0) uu ?_;refine v_2 ?_;exact CoL.refl _
def bmw (a b:AS):a6 bxn 92 [pA a,pA b] (ae [pB (adf a b)]):=by
 refine hpx (nt:=9) Tryz.func92 ?_;refine fh ?_;exact hx8 rfl rfl rfl (⟨ccb (decide_eq_decide.2 j1),trivial⟩)
def an9:goodFn bxn 41:=wgx Tryz.func41
def abh (l:List AS) (hl:l.length<=8589934592):a6 bxn 41 [pP (asl l)] (ae [pP (asl (gw l))]):=by
 refine hpx (nt:=5) Tryz.func41 ?_;refine w_7 ?_;refine qcx (wgx Tryz.func91) (bnc l hl 92 0 _ adf (wgx Tryz.func92) (fun a b=>bmw a b)) ?_;refine v_2 ?_;exact CoL.refl _
end
section
def ir(l:List Fd):List Fd:=l.foldl (fun o x=>if x∈o then o else o++[x]) []
section
variable {i:Nat}{l:List Fd}
def af8 (hi:i<l.length):ir (l.take (i+1))=if l.getD i default∈ir (l.take i)then ir (l.take i)else ir (l.take i)++[l.getD i default]:=by
 unfold ir;rw[aj hi,btq];rfl
def ang{s:Fd}:(l.any fun x=>decide (x=s))=decide (s∈l):=by
 rw[bw6,bu1,decide_eq_true_iff];constructor
 · rintro ⟨x,hx,h⟩
   exact of_decide_eq_true h▸hx
 intro h;exact⟨s,h,decide_eq_true rfl⟩
def a9i (hi:i<l.length) (h:((ir (l.take i)).any fun x=>decide (x=l.getD i default))=false):ir (l.take (i+1))=ir (l.take i)++[l.getD i default]:=by
 rw[ang]at h;rw[af8 hi,if_neg (of_decide_eq_false h)]
def a9q (hi:i<l.length) (h:((ir (l.take i)).any fun x=>decide (x=l.getD i default))=true):ir (l.take (i+1))=ir (l.take i):=by
 rw[ang]at h;rw[af8 hi,if_pos (of_decide_eq_true h)]
def ak7:∀(l o:List Fd),(l.foldl (fun o x=>if x∈o then o else o++[x]) o).length<=o.length+l.length/\∀z,z∈l.foldl (fun o x=>if x∈o then o else o++[x]) o<->z∈o\/z∈l
 | [],o=>⟨by simp,fun z=>by simp⟩
 | x :: l,o=>by
  obtain⟨h1,h2⟩:=ak7 l (if x∈o then o else o++[x]);simp only[bvl];refine⟨?_,fun z=>?_⟩
  · refine btc h1 ?_
    split<;>simp<;>omega
  rw[h2 z,bt7];split
  · rename_i hx
    constructor
    · rintro(h|h)<;>simp[h]
    rintro(h|rfl|h)
    · exact .inl h
    · exact .inl hx
    exact .inr h
  rw[btd,bte];constructor
  · rintro((h|h)|h)<;>simp[h]
  rintro(h|h|h)<;>simp[h]
def a7r (l:List Fd):(ir l).length<=l.length:=by
 have:=(ak7 l []).1;simpa [ir]using this
def bra(l:List Fd)(i k:Nat):Bool:=(l.take k).any fun x=>decide (x=l.getD i default)
def a3f(f:Fd):List Fd:=(am (f.rhs&&&~~~f.lhs)).map fun a=>(⟨f.lhs,(1:AS)<<<a⟩:Fd)
def lg(l:List Fd):List Fd:=(l.map a3f).flatten
def pf(l:List Fd)(i k:Nat):List Fd:=lg (l.take i)++(a3f (l.getD i default)).take k
def a4y(f:Fd):(a3f f).length=(am (f.rhs&&&~~~f.lhs)).length:=by unfold a3f;rw[btn]
def w5(s:AS):(am s).length<=32:=by rw[<- a1s];exact am2 s
def ab8(l:List Fd)(i:Nat):pf l i 0=lg (l.take i):=by unfold pf;rw[bvt,btu]
def aap {k:Nat} {m:List Nat} (hm:m=am ((l.getD i default).rhs&&&~~~(l.getD i default).lhs)) (hk:k<m.length):pf l i (k+1)=pf l i k++[⟨(l.getD i default).lhs,(1:AS)<<<m.getD k default⟩]:=by
 subst hm;unfold pf;generalize l.getD i default=x at *;rw[List.take_add_one,bts];congr 1;congr 1;unfold a3f;rw[btf,bsu hk,bsv,bsu hk];rfl
def afb (hi:i<l.length) {k:Nat} (hk:k=(am ((l.getD i default).rhs&&&~~~(l.getD i default).lhs)).length):pf l i k=lg (l.take (i+1)):=by
 subst hk;unfold pf lg;rw[<- a4y,bt6,aj hi,bum,bv6];simp
def a5d (l:List Fd):(lg l).length<=32*l.length:=by
 induction l with
 |nil=>simp[lg]
 | cons x l ih =>
  have h:lg (x::l)=a3f x++lg l:=by simp[lg]
  have h2:=a4y x;have h3:=w5 (x.rhs&&&~~~x.lhs);rw[h,bsy,bto];omega
def avj {k:Nat} (hi:i<=l.length):(pf l i k).length<=32*l.length+32:=by
 have h1:=a5d (l.take i);have h2:=w5 ((l.getD i default).rhs&&&~~~(l.getD i default).lhs);rw[bt4]at h1;unfold pf;rw[bsy,bt4,a4y];omega
def exB(l:List Fd)(x:Fd)(a:Nat):Bool:=imp l ⟨x.lhs&&&~~~((1:AS)<<<a),x.rhs⟩
def a9p (s:AS) (a:Nat):ct .andNot .u32 (asI s) (IntKind.wrap .u32 (1*2^(min a 32)))=asI (s&&&~~~((1:AS)<<<a)):=by
 rw[show IntKind.wrap .u32 (1*2^(min a 32))=asI ((1:AS)<<<a) from a00 1 a,pn]
def bd8(a:Nat):IntKind.wrap .u32 (1*2^(min a 32))=asI ((1:AS)<<<a):=a00 1 a
def mb(l:List Fd)(i:Nat):List Fd:=l.take i++l.drop (i+1)
def aiu(l:List Fd)(i:Nat):Bool:=imp (mb l i) (l.getD i default)
def mw(hi:i<l.length):(mb l i).length=l.length-1:=by unfold mb;rw[bsy,bt4,bvh];omega
end
end
section
open Go.Proofs Go.Lib Go.RowKit
set_option maxHeartbeats 4000000 in
set_option maxRecDepth 100000 in
def an7(k:Nat)(hk:0<k)(hbig:k*8<=140737488355328)(w:World)(ad:Option Addr) :
 Calls bxn 254 #[.slice ad 0 0, .int .i64 k] w fun e w'=>∃G ROW,e=.returned (.slice (some ⟨w.heap.size,0,none⟩) 0 G)/\G<=maxLen/\w'=w.drew.alloc (.cells ROW 61)/\ROW.size=G*2:=by
 obtain ⟨i0,z,hi0,hz0,hzs,hzb,hzc⟩:∃i0 z,bxn.info? 61=some i0/\i0.zero=some z/\i0.size=2/\i0.bytes=8/\z.cells.size=2:=by
  have h:(bxn.info? 61).map (fun i=>(i.zero.map (fun z=>z.cells.size),i.size,i.bytes))=some (some 2,2,8):=by kernel_rfl
  cases hq:bxn.info? 61 with
  |none=>rw[hq]at h;cases h
  | some i0 =>
   rw[hq]at h
   cases hz:i0.zero with
   |none=>simp[hz]at h
   |some z=>simp[hz]at h;exact⟨i0,z,rfl,hz,h.2.1,h.2.2,h.1⟩
 have hc:0+k<=maxLen:=by unfold maxLen;omega
 have hold:(Builtin.firstCells i0.size 0 (.slice ad 0 0)).run bxn w.drew=.ok (([]:List Value)).toArray w.drew:=by
  cases ad with
  |none=>exact run_firstCells_none w.drew _ _ _ _
  |some a=>exact run_firstCells_some w.drew _ 0 a 0 0 [] bx0 (fun j v hj=>by simp at hj)
 obtain⟨G,hG⟩:∃G,G=grownCap w (0+k) 0 61:=⟨_,rfl⟩;have hGn:0+k<=G:=by rw[hG];exact grownCap_ge w _ _ _
 have hGm:G<=maxLen:=by rw[hG];exact grownCap_le_maxLen w (0+k) 0 61 hc
 obtain⟨ROW,hROW⟩:∃ROW:Array Value,ROW=([]:List Value).toArray++Builtin.zeroCells z.cells k++Builtin.zeroCells z.cells (G-(0+k)):=⟨_,rfl⟩
 have hrz:(Builtin.append_ #[28,3] 28 #[.slice ad 0 0, .int .i64 (k:Int)]).run bxn w=.ok (.slice (some ⟨w.heap.size,0,none⟩) k G) (w.drew.alloc (.cells ROW 61)):=by
  have h:=Lib.run_append_grow_zeros w 28 3 28 61 i0 z .i64 .i64 Tryz.underlying28 Tryz.underlying3 hi0 hz0 ad 0 0 [] hold k hk bww bww (by unfold maxLen at hc;omega) (by rw[hzb];omega) (by rw[hzb,btk];exact growslice_fits bww hbig);rw[<- hG,<- hROW]at h;rw[h];simp
 have hRs:ROW.size=G*2:=by
  rw[hROW];simp only[bwb,bu0,bux,size_zeroCells,hzc];omega
 have mixed:=a8i;have hcM:G<=9223372036854775807:=by unfold maxLen at hGm;omega
 have hk0:¬((k:Int)<0):=by omega
 have hk1:(0:Int)<(k:Int):=by omega
 have hw1:IntKind.i64.wrap (k:Int)=(k:Int):=by rw[IntKind.wrap_i64];omega
 clear hG hROW hold
 rcases ad with _|⟨ab,ao,asp⟩
 all_goals go_enter Tryz.func254,Tryz.ntmps254
 all_goals go_wp2_with (at_builtin;refine Lib.wpList_append_run _ rfl _ _ _ _ rfl _ _ rfl rfl _ _ hrz ?_)
 all_goals go_ret
 all_goals first|exact⟨G,ROW,rfl,hGm,rfl,hRs⟩|exact⟨G,rfl,hGm,ROW,rfl,hRs⟩
def ana (w:World) (ad:Option Addr):Calls bxn 254 #[.slice ad 0 0, .int .i64 0] w fun e w'=>e=.returned (.slice ad 0 0)/\w'=w:=by
 have mixed:=a8i
 go_enter Tryz.func254,Tryz.ntmps254
 go_wp2
 go_ret
 exact⟨rfl,rfl⟩
def bn9(k a:Nat)(hk:k<=68719476736)(F:Nat->Nat->PV) :
 d9 bxn 254 [.one (.p (lp (.slice none 0 0))), .one (.p (.raw (.int .i64 k)))] [] (.v (.one (.ref a 0))) [(a, .arr true 2 61 0 F)] []:=by
 refine b3y bww fun w ad=>?_
 rcases buc k with rfl|hk0
 · refine (ana w ad).mono ?_
   rintro e w' ⟨rfl,rfl⟩;exact⟨_,rfl,Below.refl _ _, .inl rfl⟩
 refine(an7 k hk0 bww w ad).mono ?_;rintro e w' ⟨G,ROW,rfl,hG,rfl,hR⟩;refine⟨_,rfl,⟨rfl,rfl,rfl, ?_,fun q hq=>bki w.drew _ hq,bwd _⟩, .inr ⟨⟨by simp, .inr ⟨_,G,ROW,rfl,bsx _,heap_alloc_new w.drew _,bsx _,hG,hR,by simp⟩⟩,fun g hg=>?_⟩⟩
 · show _<=(w.heap.push _).size
   rw[Array.size_push];omega
 have:w.heap.size=g:=by simpa [cu]using hg
 omega
end
section
open Go.Proofs
def axx(l:List Fd)(hl:l.length<=16777216):d9 bxn 176 [.one (.p (fdl l))] [] (.v (.one (.ref 900 (ir l).length))) [(900, .arr true 2 61 (ir l).length (lf Fd.c (ir l)))] []:=by
 refine hfx (nt:=22) Tryz.func176 ?_;refine da ?_;refine cw 0 rfl fun hn=>?_;refine w_6 ?_;refine d4 3 900 true 2 61 (lf Fd.c []) bx3 rfl (CoP.sl rfl (.inr rfl) (fun h=>h) (fun i j hi _=>absurd hi (bt1 i))) (.inr rfl) rfl ?_;refine br (ka 6 (ka 7 kn)) km (fun i=>⟨[(3,some (.v (.one (.ref 900 (ir (l.take i)).length)))),(8,some (vI i))],[(900,some (.arr true 2 61 (ir (l.take i)).length (lf Fd.c (ir (l.take i)))))]⟩) l.length kk ?_;rintro i hi;have hlen:=a7r (l.take i);rw[bt4]at hlen;refine w_5 ?_;refine hcd ?_ ?_<;>intro h0
 ·
  refine w_7 ?_;refine m9 0 ?_;refine w_6 ?_;refine qcx (wgx Tryz.func224) (bon (ir (l.take i)) (l.getD i default)) ?_;refine w_2 ?_;refine al _ rfl ?_ ?_<;>intro r1
  ·
   have h1:=dt r1;have hc:=dt r1;refine w_3 ?_;refine m9 1 ?_;refine r9 2 true ?_;refine w_6 ?_
   first | (refine lpz (i+1) ⟨⟨⟨_, rfl, (bq (a9i bww hc))⟩, tt⟩, ⟨⟨_, rfl, (ij (a9i bww hc) (CoP.refl _) (CoP.refl _))⟩, trivial⟩⟩ ?_; show i+1<=_; omega)
         |(refine lpz (i+1) ⟨⟨⟨_,rfl,(bm (a9q bww hc))⟩,tt⟩,⟨⟨_,rfl,(b6 (a9q bww hc))⟩,trivial⟩⟩ ?_;show i+1<=_;omega)
  have h1:=du r1;have hc:=du r1;refine w_5 ?_
  first | (refine lpz (i+1) ⟨⟨⟨_, rfl, (bq (a9i bww hc))⟩, tt⟩, ⟨⟨_, rfl, (ij (a9i bww hc) (CoP.refl _) (CoP.refl _))⟩, trivial⟩⟩ ?_; show i+1<=_; omega)
        |(refine lpz (i+1) ⟨⟨⟨_,rfl,(bm (a9q bww hc))⟩,tt⟩,⟨⟨_,rfl,(b6 (a9q bww hc))⟩,trivial⟩⟩ ?_;show i+1<=_;omega)
 obtain rfl:i=l.length:=by omega
 refine w_6 ?_;refine hrr ?_;exact⟨_,_,rfl,bwy,CoR.of_eq (by rw[bt6];rfl),⟨⟨_,rfl,jw (by rw[bt6]) (by rw[bt6])⟩,trivial⟩⟩
def bm2 (l:List Fd) (hl:l.length<=16777216):a6 bxn 176 [pP (fdl l)] (ae [pP (fdl (ir l))]) :=
 d9.pure (args:=[pP (fdl l)]) (l:=[.one (.ref 900 (ir l).length)]) (axx l hl) rfl ⟨rfl,trivial⟩
end
section
def b70 {α:Type} [Inhabited α] {s n k':Nat} {k:Int} {cl:Bool} {c:α->Nat->PV} {l:List α} (h:k.toNat=k') (hk:k'<=l.length) :
 CoP (.sl (dv (b7 n (some k)) none) s cl (nj (lf c l) none)) (psl s c (l.take k')):=by
 subst h;exact a9v hk
def b6q {α:Type} [Inhabited α] {s n k':Nat} {k:Int} {cl:Bool} {c:α->Nat->PV} {l:List α} (hn:n=l.length) (h:k.toNat=k'):CoP (.sl (dv n (some k)) s cl (nj (lf c l) (some k))) (psl s c (l.drop k')):=by
 subst h hn;exact bem
def an4{l:List Fd}{i:Nat}:[l.take i,l.drop (i+1)].flatten=mb l i:=by simp[mb]
def ba9 {l:List Fd} {i:Nat} (hi:i<l.length) (hl:l.length<=16777216):[l.take i,l.drop (i+1)].flatten.length<=16777216:=by
 rw[an4,mw hi];omega
def bm8 {x:Fd} {b:Int} {s:AS} (h:b=asI s):CoC (.agg [.raw (.int .u32 b), .raw (.int .u32 (asI x.rhs))]) (Fd.pc ⟨s,x.rhs⟩):=by
 subst h;exact CoC.refl _
end
section
open Go.Proofs
def rwC (l:List Fd):Nat->PV
 |0=>fdl l
 |_=>.any
abbrev bp3(ls:List (List Fd)):PV:=psl 1 rwC ls
def bf5 (ls:List (List Fd)) (h:ls.flatten.length<=16777216):a6 bxn 225 [pP (bp3 ls)] (ae [pP (fdl ls.flatten)]):=by
 refine hpx (nt:=36) Tryz.func225 ?_;refine da ?_;refine cw 0 rfl (fun hn=>?_);refine w_6 ?_;refine br (ka 0 (ka 9 (ka 10 kn))) km (fun i=>⟨[(3,some (vI (ls.take i).flatten.length)),(11,some (vI i))],[]⟩) ls.length kk ?_;rintro i hi;refine w_5 ?_;refine hcd ?_ ?_<;>intro h0
 ·
  have hts:(ls.take (i+1)).flatten.length=(ls.take i).flatten.length+(ls.getD ((i:Nat):Int).toNat default).length:=by rw[tsf _ _ bww,bsy];rfl
  have hfl:(ls.take i).flatten.length+(ls.getD ((i:Nat):Int).toNat default).length<=ls.flatten.length:=a6z ls i bww;refine ago ?_;refine hcd ?_ ?_<;>intro h1
  · exfalso;omega
  refine w_5 ?_;refine lpz (i+1) kk ?_;show i+1<=_;omega
 obtain rfl:i=ls.length:=by omega
 have hfe:(ls.take ls.length).flatten.length=ls.flatten.length:=by rw[bt6]
 refine w_4 ?_;refine fc9 (wgx Tryz.func254) (bn9 (ls.take ls.length).flatten.length 900 bww (lf Fd.c [])) trivial ?_;refine da ?_;refine br (ka 25 (ka 26 kn)) km (fun i=>⟨[(6,some (.v (.one (.ref 900 (ls.take i).flatten.length)))),(27,some (vI i))],[(900,some (.arr true 2 61 (ls.take i).flatten.length (lf Fd.c (ls.take i).flatten)))]⟩) ls.length kk ?_;rintro i hi;refine w_5 ?_;refine hcd ?_ ?_<;>intro h2
 ·
  have hts:(ls.take (i+1)).flatten.length=(ls.take i).flatten.length+(ls.getD ((i:Nat):Int).toNat default).length:=by rw[tsf _ _ bww,bsy];rfl
  have hfl:(ls.take i).flatten.length+(ls.getD ((i:Nat):Int).toNat default).length<=ls.flatten.length:=a6z ls i bww;refine fh ?_;refine r9 0 true ?_;refine w_6 ?_;refine lpz (i+1) ⟨⟨⟨_,rfl,(CoR.of_eq (by rw[hts]))⟩,tt⟩,⟨⟨_,rfl,(by rw[tsf _ _ bww];exact ae0 _ (fun h=>h) rfl (fun i j hi hj=>CoP.refl _))⟩,trivial⟩⟩ ?_;show i+1<=_;omega
 obtain rfl:i=ls.length:=by omega
 refine w_6 ?_;refine hrr ?_;rw[show ls.flatten=(ls.take ls.length).flatten by rw[bt6]];exact f9 rfl rfl (CoL.refl _)
def aui (l:List Fd) (i:Nat) (hi:i<l.length) (hl:l.length<=16777216):a6 bxn 178 [pP (fdl l),pI i] (ae [pP (fdl (mb l i))]):=by
 refine hpx (nt:=14) Tryz.func178 ?_;refine w_5 ?_;have hll:=ba9 hi hl;refine w_8 ?_;refine m9 0 ?_;refine fc9 (wgx Tryz.func225) (a6.eat (hcs:=[.one (.ref 0 2)]) (o1:=[(0, .arr true 1 28 2 (lf rwC [l.take i,l.drop (i+1)]))]) (bf5 [l.take i,l.drop (i+1)] hll) rfl (by(repeat' apply And.intro)<;>first|trivial|rfl) (CoL.refl _)) ⟨⟨_,rfl,⟨fun h=>h,rfl,rfl,rfl,fun i j hi hj=>(by have hi:i<2:=hi;have hj:j<1:=hj;obtain rfl:j=0:=bww;rcases(show i=0\/i=1 by omega)with rfl|rfl;exact b70 rfl bww;exact b6q rfl bww)⟩⟩,trivial⟩ ?_;refine v_3 ?_;exact⟨CoC.one (CoP.of_eq (by rw[an4])),trivial⟩
def bhh (l:List Fd) (i:Nat) (hi:i<l.length) (hl:l.length<=16777216):a6 bxn 177 [pP (fdl l),pI i] (ae [pB (aiu l i)]):=by
 refine hpx (nt:=13) Tryz.func177 ?_;refine w_8 ?_;refine qcx (wgx Tryz.func178) (aui l i hi hl) ?_;refine w_4 ?_;refine qcx (wgx Tryz.func24) (bgo (mb l i) (l.getD i default)) ?_;refine v_3 ?_;exact CoL.refl _
def bi8 (l:List Fd) (x:Fd) (a:Nat):a6 bxn 175 [pP (fdl l),x.pc,pI a] (ae [pB (exB l x a)]):=by
 refine hpx (nt:=17) Tryz.func175 ?_;refine sx7 ?_;refine m9 0 ?_;refine jo ?_;refine rc rfl rfl rfl rfl rfl rfl (wgx Tryz.func24) (bgo l ⟨x.lhs&&&~~~((1:AS)<<<a),x.rhs⟩) (⟨CoC.refl _,bm8 (a9p _ _),trivial⟩) rfl rfl ?_;refine v_3 ?_;exact CoL.refl _
end
section
def bqf(l:List Fd)(i k:Nat):List Fd:=lg (l.take i)++(bmf ((l.getD i default).rhs&&&~~~(l.getD i default).lhs) k).map fun a=>(⟨(l.getD i default).lhs,(1:AS)<<<a⟩:Fd)
def axp(x:Fd)(a:Nat):Fd:=⟨x.lhs&&&~~~((1:AS)<<<a),x.rhs⟩
def vo(i:Nat)(l:List Fd)(a:Nat):List Fd:=if bu (l.getD i default).lhs a&&exB l (l.getD i default) a then l.set i (axp (l.getD i default) a)else l
def sk(l:List Fd)(i k:Nat):List Fd:=((am (l.getD i default).lhs).take k).foldl (vo i) l
def abt(l:List Fd)(i:Nat):List Fd:=(am (l.getD i default).lhs).foldl (vo i) l
def lx(l:List Fd)(i:Nat):List Fd:=(List.range i).foldl abt l
section
variable {a i:Nat}{l:List Fd}
def anp:(vo i l a).length=l.length:=by
 unfold vo;split
 · rw[bus]
 rfl
def a86:∀(m:List Nat) (l:List Fd),(m.foldl (vo i) l).length=l.length
 | [],l=>rfl
 |a::m,l=>by rw[bvl,a86 m,anp]
variable {k:Nat}
def aof:(sk l i k).length=l.length:=a86 _ _
def b5k:(abt l i).length=l.length:=a86 _ _
def re:∀{i:Nat},(lx l i).length=l.length
 |0=>rfl
 | i+1=>by
  unfold lx;rw[bu7,btq];show(abt ((List.range i).foldl abt l) i).length=_;rw[b5k];exact re (i:=i)
def b16 (l:List Fd) (i:Nat):lx l (i+1)=abt (lx l i) i:=by
 unfold lx;rw[bu7,btq];rfl
def b0y(l:List Fd)(i:Nat):sk l i 0=l:=by unfold sk;rw[bvt];rfl
def b7m (hk:k=(am (l.getD i default).lhs).length):sk l i k=abt l i:=by
 unfold sk abt;rw[hk,bt6]
def a19 (hk:k<(am (l.getD i default).lhs).length):sk l i (k+1)=vo i (sk l i k) ((am (l.getD i default).lhs).getD k default):=by
 unfold sk;rw[aj hk,btq];rfl
def ajb{x:Fd}(hi:i<l.length):(l.set i x).getD i default=x:=by simp[List.getD,hi]
def b56{b:Nat}(hi:i<l.length)(hb:b<32)(hne:b≠a):((vo i l a).getD i default).lhs.getLsbD b=(l.getD i default).lhs.getLsbD b:=by
 unfold vo;split
 · rw [ajb hi]
   show((l.getD i default).lhs&&&~~~((1:AS)<<<a)).getLsbD b=_;rw[btm,bw5,vr _ _ hb];simp[hb,hne]
 rfl
def ake {b:Nat} (hb:b<32):∀(m:List Nat) (l:List Fd),i<l.length->(∀a∈m,b≠a)->((m.foldl (vo i) l).getD i default).lhs.getLsbD b=(l.getD i default).lhs.getLsbD b
 | [],l,_,_=>rfl
 | a::m,l,hi,h=>by
  rw[bvl,ake hb m _ (by rw[anp];exact hi) fun c hc=>h c (btp _ hc),b56 hi hb (h a bu5)]
def aw4(s:AS):(am s).Pairwise (·<·):=List.Pairwise.filter _ List.pairwise_lt_range
def aqu{m:List Nat}(hk:k<m.length):m.getD k default=m[k]:=by simp[List.getD,hk]
def b01{m:List Nat}(hk:k<m.length):m.getD k default∈m:=by rw[aqu hk];exact bta hk
def b3e (hi:i<l.length) (hk:k<(am (l.getD i default).lhs).length):bu ((sk l i k).getD i default).lhs (((am (l.getD i default).lhs).getD k default:Nat):Int)=true:=by
 have hm:(am (l.getD i default).lhs).getD k default∈am (l.getD i default).lhs:=b01 hk;obtain⟨h1,h2⟩:=oc.1 hm;rw[c9 h1];unfold sk;rw[ake h1 _ _ hi,h2];intro a ha;obtain⟨j,hj,rfl⟩:=btt ha;rw[bt4]at hj;rw[List.getElem_take,aqu hk];have:=bv3.1 (aw4 (l.getD i default).lhs) j k bww hk bww;exact Nat.ne_of_gt this
def ay6(h:bu (l.getD i default).lhs a=true)(h2:exB l (l.getD i default) a=true):vo i l a=l.set i (axp (l.getD i default) a):=by unfold vo;rw[h,h2];rfl
def b14(h2:exB l (l.getD i default) a=false):vo i l a=l:=by unfold vo;rw[h2];simp
def ass{wr wr':Bool}{n:Nat}{e:TypeId}{l':List Fd}{v:Int}(hl:l'=l.set i (axp (l.getD i default) a))(hv:v=asI ((l.getD i default).lhs&&&~~~((1:AS)<<<a)))(hk:k=i)(hi:i<l.length)(hn:n=l.length)(hw:wr'=true->wr=true:=by exact fun h=>h):
 CoO (.arr wr 2 e n (eu (lf Fd.c l) k 0 [.raw (.int .u32 v)])) (.arr wr' 2 e n (lf Fd.c l')):=by
 subst hl hv hk hn;refine⟨hw,rfl,rfl,rfl,fun r j hr hj=>CoP.of_eq ?_⟩;unfold eu lf;by_cases h:r=k
 · subst h
   rw[ajb hi]
   rcases(by omega:j=0\/j=1)with rfl|rfl
   · rw [if_pos ⟨rfl,bsw _,by simp⟩]
     rfl
   rw[if_neg bx0];rfl
 rw[if_neg bww,getD_set_ne' h]
def aso{n:Nat}{cl:Bool}(h:n=l.length):CoP (.sl n 2 cl (lf Fd.c l)) (fdl l):=CoP.sl h.symm (.inl rfl) (fun h=>by cases h) fun _ _ _ _=>CoP.refl _
def vj:Nat->List Fd->Nat->List Fd
 |0,l,_=>l
 |f+1,l,i=>if i<l.length then(if aiu l i then vj f (mb l i) i else vj f l (i+1))else l
def atm (hi:i<l.length) (h:aiu l i=true):vj (l.length-i) l i=vj ((mb l i).length-i) (mb l i) i:=by
 rw[mw hi,show l.length-i=(l.length-1-i)+1 by omega];show(if i<l.length then(if aiu l i then _ else _)else l)=_;rw[if_pos hi,h];rfl
def at5 (hi:i<l.length) (h:aiu l i=false):vj (l.length-i) l i=vj (l.length-(i+1)) l (i+1):=by
 rw[show l.length-i=(l.length-(i+1))+1 by omega];show(if i<l.length then(if aiu l i then _ else _)else l)=_;rw[if_pos hi,h];rfl
def ayz(hi:¬i<l.length):vj (l.length-i) l i=l:=by rw[show l.length-i=0 by omega];rfl
def spl(l:List Fd):List Fd:=ir (lg l)
def a38(l:List Fd):List Fd:=ir (lx (spl l) (spl l).length)
def ar0(l:List Fd):List Fd:=vj (a38 l).length (a38 l) 0
def au6(l:List Fd):(spl l).length<=32*l.length:=btc (a7r _) (a5d l)
def aem(l:List Fd):(a38 l).length<=32*l.length:=btc (a7r _) (by rw[re];exact au6 l)
def brf(t:AS)(l:List Fd):Prop:=∀x∈l,sub x.lhs t
end
end
section
open Go.Proofs
def bc5 (l:List Fd) (hl:l.length<=4096):d9 bxn 174 [.one (.p (fdl l))] [] (.v (.one (.ref 900 (spl l).length))) [(900, .arr true 2 61 (spl l).length (lf Fd.c (spl l)))] []:=by
 refine hfx (nt:=37) Tryz.func174 ?_;refine da ?_;refine cw 0 rfl fun hn=>?_;refine w_6 ?_;refine d4 3 901 true 2 61 (lf Fd.c []) bx3 rfl (CoP.sl rfl (.inr rfl) (fun h=>h) (fun i j hi _=>absurd hi (bt1 i))) (.inr rfl) rfl ?_;refine br (ka 8 (ka 9 kn)) km (fun i=>⟨[(3,some (.v (.one (.ref 901 (lg (l.take i)).length)))),(10,some (vI i))],[(901,some (.arr true 2 61 (lg (l.take i)).length (lf Fd.c (lg (l.take i)))))]⟩) l.length kk ?_;rintro i hi;refine w_5 ?_;refine hcd ?_ ?_<;>intro h0
 ·
  refine w_7 ?_;refine m9 0 ?_;refine w_9 ?_;refine rc rfl rfl rfl rfl rfl rfl a3h (aob ((l.getD i default).rhs&&&~~~(l.getD i default).lhs)) (⟨cci (pn _ _),trivial⟩) rfl rfl ?_;refine w_4 ?_;refine br (ka 5 (ka 8 (ka 9 (ka 10 (ka 19 (ka 20 kn)))))) (kb 0 km) (fun k=>⟨[(3,some (.v (.one (.ref 901 (pf l i k).length)))),(21,some (vI k))],[(901,some (.arr true 2 61 (pf l i k).length (lf Fd.c (pf l i k))))]⟩) ((am ((l.getD i default).rhs&&&~~~(l.getD i default).lhs)).length) ⟨⟨⟨_,rfl,(bm (ab8 l i))⟩,tt⟩,⟨⟨_,rfl,(b6 (ab8 l i))⟩,trivial⟩⟩ ?_;rintro k hk;have hml:=w5 ((l.getD i default).rhs&&&~~~(l.getD i default).lhs);have hsl:=avj (l:=l) (i:=i) (k:=k) bww;refine w_5 ?_;refine hcd ?_ ?_<;>intro h1
  · refine mz ?_;refine rq rfl rfl rfl rfl rfl ?_ (hp:=(bv4 _));refine qy ?_;refine m9 1 ?_;refine r9 2 true ?_;refine w_7 ?_;exact lpx (k+1) ⟨⟨⟨_,rfl,(bq (aap rfl bww))⟩,tt⟩,⟨⟨_,rfl,(ij (aap rfl bww) (CoP.refl _) (CoP.of_eq (by exact congrArg (fun z=>PV.raw (.int .u32 z)) (bd8 _))))⟩,uu⟩⟩
  obtain rfl:k=(am ((l.getD i default).rhs&&&~~~(l.getD i default).lhs)).length:=by omega
  refine w_5 ?_;exact lpx (i+1) ⟨⟨⟨_,rfl,(bm (afb bww rfl).symm)⟩,tt⟩,⟨⟨_,rfl,(b6 (afb bww rfl).symm)⟩,trivial⟩⟩
 obtain rfl:i=l.length:=by omega
 refine w_2 ?_;refine bh 3 rfl rfl rfl ?_;refine w_2 ?_;refine j7 rfl rfl rfl rfl rfl rfl (wgx Tryz.func176) (axx (lg l) (btc (a5d l) bww)) (⟨CoP.of_eq (by rw[bt6];rfl),trivial⟩) trivial rfl rfl ?_;refine w_2 ?_;refine hrr ?_;exact⟨_,_,rfl,bwy,CoR.refl _,uu⟩
def boi(l:List Fd)(hl:l.length<=4096):a6 bxn 123 [pP (fdl l)] (ae [pP (fdl (ar0 l))]):=by
 refine hpx (nt:=60) Tryz.func123 ?_;refine w_7 ?_;refine fc9 (wgx Tryz.func174) (bc5 l hl) trivial ?_;refine w_4 ?_;have hsl:=au6 l;refine w_6 ?_;refine br (ka 3 (ka 11 kn)) km (fun i=>⟨[(12,some (vI i))],[(900,some (.arr true 2 61 (spl l).length (lf Fd.c (lx (spl l) i))))]⟩) ((spl l).length) kk ?_;rintro i hi;have htl:=re (l:=spl l) (i:=i);refine w_5 ?_;refine hcd ?_ ?_<;>intro h0
 ·
  refine j5 ?_;refine qcx a3h (aob ((lx (spl l) i).getD i default).lhs) ?_;refine w_4 ?_;refine br (ka 3 (ka 4 (ka 11 (ka 12 (ka 20 (ka 21 kn)))))) km (fun k=>⟨[(22,some (vI k))],[(900,some (.arr true 2 61 (spl l).length (lf Fd.c (sk (lx (spl l) i) i k))))]⟩) ((am ((lx (spl l) i).getD i default).lhs).length) ⟨tt,⟨⟨_,rfl,(jw (b0y _ _) rfl)⟩,trivial⟩⟩ ?_;rintro k hk;have hml:=w5 ((lx (spl l) i).getD i default).lhs;refine w_5 ?_;refine hcd ?_ ?_<;>intro h1
  ·
   have hkl:(sk (lx (spl l) i) i k).length=(spl l).length:=by rw[aof,re]
   have hhas:=b3e (l:=(lx (spl l) i)) (i:=i) (k:=k) (by rw[re];omega) bww;refine sv ?_;refine rc rfl rfl rfl rfl rfl rfl (wgx Tryz.func175) (bi8 (sk (lx (spl l) i) i k) ((sk (lx (spl l) i) i k).getD i default) ((am ((lx (spl l) i).getD i default).lhs).getD k default)) (⟨CoC.one (aso (by rw[aof,re])),CoC.refl _,CoC.refl _,trivial⟩) rfl rfl ?_;refine cj ?_;refine hcb ?_ ?_<;>intro h2
   ·
    refine w_7 ?_;refine rq rfl rfl rfl rfl rfl ?_ (hp:=(bv4 _));refine da ?_
    first | (refine lpz (k+1) ⟨tt, ⟨⟨_, rfl, (ass (i := i) (a := (am ((lx (spl l) i).getD i default).lhs).getD k default) (l := (sk (lx (spl l) i) i k)) (by rw[a19 bww, ay6 hhas bwx]) (a9p _ _) bww bww hkl.symm)⟩, trivial⟩⟩ ?_; show k+1<=_; omega)
          |(refine lpz (k+1) ⟨tt,⟨⟨_,rfl,(jw (by rw[a19 bww,b14 bwx]) rfl)⟩,trivial⟩⟩ ?_;show k+1<=_;omega)
   refine w_5 ?_
   first | (refine lpz (k+1) ⟨tt, ⟨⟨_, rfl, (ass (i := i) (a := (am ((lx (spl l) i).getD i default).lhs).getD k default) (l := (sk (lx (spl l) i) i k)) (by rw[a19 bww, ay6 hhas bwx]) (a9p _ _) bww bww hkl.symm)⟩, trivial⟩⟩ ?_; show k+1<=_; omega)
         |(refine lpz (k+1) ⟨tt,⟨⟨_,rfl,(jw (by rw[a19 bww,b14 bwx]) rfl)⟩,trivial⟩⟩ ?_;show k+1<=_;omega)
  obtain rfl:k=(am ((lx (spl l) i).getD i default).lhs).length:=by omega
  refine w_5 ?_;exact lpx (i+1) ⟨tt,⟨⟨_,rfl,(jw (by rw[b16,b7m rfl]) rfl)⟩,trivial⟩⟩
 obtain rfl:i=(spl l).length:=by omega
 refine w_2 ?_;refine bh 3 rfl rfl rfl ?_;refine w_2 ?_;refine rc rfl rfl rfl rfl rfl rfl (wgx Tryz.func176) (bm2 (lx (spl l) (spl l).length) (by rw[re];omega)) (⟨CoC.one (aso (by rw[re])),trivial⟩) rfl rfl ?_;refine w_4 ?_;have hrl:=aem l;refine w_4 ?_;refine ai (ι:=List Fd×Nat) kn km (fun x=>⟨[(3,some (bp (fdl x.1))),(7,some (vI x.2))],[]⟩) (fun x=>vj (x.1.length-x.2) x.1 x.2=ar0 l/\x.2<=x.1.length/\x.1.length<=131072) (fun x=>x.1.length-x.2) ((a38 l,0)) (⟨rfl,bsx _,by show(a38 l).length<=_;omega⟩) ⟨⟨zy,⟨_,rfl,(coi rfl)⟩,trivial⟩,trivial⟩ ?_;rintro x ⟨hx,hx2,hx3⟩;refine w_8 ?_;refine hcd ?_ ?_<;>intro h3
 ·
  refine w_6 ?_;refine qcx (wgx Tryz.func177) (bhh x.1 x.2 bww bww) ?_;refine cj ?_;refine al _ rfl ?_ ?_<;>intro r4
  ·
   have h4:=r4;have hq:=r4;refine w_3 ?_;refine qcx (wgx Tryz.func178) (aui x.1 x.2 bww bww) ?_;refine w_2 ?_
   first | (refine ⟨(mb x.1 x.2, x.2), ?_, ?_, ?_⟩
            · have ho:=mw (l:=x.1) (i:=x.2) bww
              exact⟨by rw[<- hx,atm bww hq],by dsimp only;omega,by dsimp only;omega⟩
            · have ho:=mw (l:=x.1) (i:=x.2) bww
              dsimp only;omega
            exact⟨⟨zy,⟨_,rfl,(coi bwz)⟩,trivial⟩,trivial⟩)
         |(refine lpz (x.1,x.2+1) ⟨⟨zy,⟨_,rfl,(coi bwz)⟩,trivial⟩,trivial⟩ ?_;exact⟨by rw[<- hx,at5 bww hq],by dsimp only;omega,by dsimp only;omega⟩)
  have h4:=r4;have hq:=r4;refine w_5 ?_
  first | (refine ⟨(mb x.1 x.2, x.2), ?_, ?_, ?_⟩
           · have ho:=mw (l:=x.1) (i:=x.2) bww
             exact⟨by rw[<- hx,atm bww hq],by dsimp only;omega,by dsimp only;omega⟩
           · have ho:=mw (l:=x.1) (i:=x.2) bww
             dsimp only;omega
           exact⟨⟨zy,⟨_,rfl,(coi bwz)⟩,trivial⟩,trivial⟩)
        |(refine lpz (x.1,x.2+1) ⟨⟨zy,⟨_,rfl,(coi bwz)⟩,trivial⟩,trivial⟩ ?_;exact⟨by rw[<- hx,at5 bww hq],by dsimp only;omega,by dsimp only;omega⟩)
 have hq:=h3;refine v_6 ?_;exact⟨CoC.one (CoP.of_eq (by rw[<- hx,ayz bww])),trivial⟩
end
section
def a2v(n:Int)(l:List Fd):List Fd:=if cb n l=0 then ar0 l else[]
def bic{n:Int}{l:List Fd}(h:cb n l=0):a2v n l=ar0 l:=if_pos h
def bj9{n:Int}{l:List Fd}(h:¬cb n l=0):a2v n l=[]:=if_neg h
def bpm{s:Nat}{cl:Bool}{f:Nat->Nat->PV}{L:List Fd}(h:L=[]):CoP (.sl 0 s cl f) (fdl L):=by subst h;exact sw
def am3{s:Nat}{cl:Bool}{f:Nat->Nat->PV}{L:List AS}(h:L=[]):CoP (.sl 0 s cl f) (asl L):=by subst h;exact sw
def brs(l:List Fd)(i k:Nat):List Fd:=(List.range k).foldl (vo i) l
end
section
open Go.Proofs
def bn6 (n:Int) (l:List Fd):a6 bxn 63 [pI n,pP (fdl l)] (ae [pP (fdl (a2v n l)),pI (cb n l)]):=by
 refine hpx (nt:=15) Tryz.func63 ?_;refine da ?_;refine qcx a2y (a8f n l) ?_;refine w_7 ?_;refine hcn ?_ ?_<;>intro h0
 · refine v_6 ?_;exact⟨CoC.one (bpm (bj9 bwx)),CoC.refl _,trivial⟩
 refine w_4 ?_;refine qcx (wgx Tryz.func123) (boi l (by have:=(l4 bwx).2.2.1;omega)) ?_;refine v_3 ?_;exact⟨CoC.one (CoP.of_eq (by rw[bic bwx])),cci bww,trivial⟩
end
section
def af1 (a b:Nat):a&&&b=2*(a/2&&&b/2)+(a%2&&&b%2):=by
 have h1:=Nat.div_add_mod (a&&&b) 2
 have h2:(a&&&b)%2=a%2&&&b%2:=by
  have:=Nat.and_mod_two_pow (a:=a) (b:=b) (n:=1);simpa using this
 rw[Nat.and_div_two,h2]at h1;exact h1.symm
def aut (a b:Nat):(a%2&&&b%2)=if a%2=1/\b%2=1 then 1 else 0:=by
 rcases Nat.mod_two_eq_zero_or_one a with h|h<;>rcases Nat.mod_two_eq_zero_or_one b with k|k<;>rw[h,k]<;>rfl
def akb {x s:Nat} (h:x&&&s=x):(x/2&&&s/2=x/2)/\(x%2=1->s%2=1):=by
 have h1:=af1 x s;rw[h,aut]at h1;split at h1<;>rename_i hc
 · exact⟨by omega,fun _=>hc.2⟩
 exact⟨by omega,fun hx=>by omega⟩
def b62:∀(x s z:Nat),x&&&s=x->z&&&s=z->z<x->z<=((x-1)&&&s):=by
 intro x
 induction x using Nat.strongRecOn with
 | _ x ih =>
  intro s z hx hz hlt;obtain⟨x1,x2⟩:=akb hx;obtain⟨z1,z2⟩:=akb hz;rw[af1 (x-1) s,aut]
  rcases Nat.mod_two_eq_zero_or_one x with hb|hb
  · have e1:(x-1)/2=x/2-1:=by omega
    have e2:(x-1)%2=1:=by omega
    have:=ih (x/2) bww (s/2) (z/2) x1 z1 bww;rw[e1,e2];by_cases hs:s%2=1
    · rw[if_pos ⟨rfl,hs⟩];omega
    rw[if_neg (fun h=>hs h.2)];have:z%2=0:=by omega
    omega
  have e1:(x-1)/2=x/2:=by omega
  have e2:(x-1)%2=0:=by omega
  rw[e1,e2,x1,if_neg bww];omega
section
variable {s z:AS}
def ao8:sub z s<->z.toNat&&&s.toNat=z.toNat:=by
 rw[<- bwh,BitVec.toNat_inj,cz];constructor
 · intro h
   apply bui;intro k hk;rw[btm]
   cases hz:z.getLsbD k with
   |false=>rfl
   |true=>rw[h k hk hz];rfl
 intro h i _ hi;rw[<- h,btm]at hi;simp at hi;exact hi.2
def bdm (h:sub z s):bsz z<=bsz s:=by
 unfold bsz;apply List.countP_mono_left;intro i hi hb;exact cz.1 h i (btj.1 hi) hb
def a58 (s:AS):Nat->AS->List AS
 |0,_=>[]
 |n+1,x=>x::if x=0 then[]else a58 s n ((x-1)&&&s)
variable {x:AS}
def apo (h:x≠0):(x-1).toNat=x.toNat-1:=by
 have h0:x.toNat≠0:=fun e=>h (bug e);have:=x.isLt;rw[BitVec.toNat_sub];show(2^32-1+x.toNat)%2^32=_;omega
def adk:sub ((x-1)&&&s) s:=by
 rw[ao8,bwh,Nat.and_assoc,Nat.and_self]
def a48 (h:x≠0):((x-1)&&&s).toNat<x.toNat:=by
 have h0:x.toNat≠0:=fun e=>h (bug e);rw[bwh,apo h];have:((x.toNat-1)&&&s.toNat)<=x.toNat-1:=Nat.and_le_left;omega
def amo (hx:sub x s) (hz:sub z s) (h:z.toNat<x.toNat):z.toNat<=((x-1)&&&s).toNat:=by
 have h0:x≠0:=fun e=>by subst e;exact absurd h (bt1 _)
 rw[bwh,apo h0];exact b62 _ _ _ (ao8.1 hx) (ao8.1 hz) h
def am8:∀(n:Nat) (x:AS),sub x s->x.toNat<n->∀z,z∈a58 s n x<->sub z s/\z.toNat<=x.toNat
 |0,x,_,h,z=>absurd h (bt1 _)
 | n + 1,x,hx,h,z=>by
  unfold a58;by_cases h0:x=0
  · rw [if_pos h0,bte]
    subst h0;constructor
    · rintro rfl;exact⟨hx,bsw _⟩
    rintro⟨_,h⟩;exact bug (Nat.le_antisymm h (bsx _))
  rw[if_neg h0,bt7,am8 n _ adk (by have:=a48 (s:=s) h0;omega)];constructor
  · rintro (rfl|⟨h1,h2⟩)
    · exact⟨hx,bsw _⟩
    have:=a48 (s:=s) h0;exact⟨h1,by omega⟩
  rintro⟨h1,h2⟩;by_cases he:z=x
  · exact .inl he
  have hne:z.toNat≠x.toNat:=fun e=>he (bug e);exact .inr ⟨h1,amo hx h1 bww⟩
def a5i(s:AS):List AS:=ord (a58 s (s.toNat+1) s)
def sub_self(s:AS):sub s s:=by rw[ao8,Nat.and_self]
def b8b(h:sub z s):z.toNat<=s.toNat:=by rw[<- ao8.1 h];exact Nat.and_le_right
def akg:z∈a5i s<->sub z s:=by
 unfold a5i;rw[o3,am8 _ _ (sub_self s) (Nat.lt_succ_self _)];exact⟨fun h=>h.1,fun h=>⟨h,b8b h⟩⟩
def b5i{l:List AS}(ho:y4 l)(h:∀z,z∈l<->sub z s):l=a5i s:=a2i ho (a0k _) fun z=>by rw[h z];exact akg.symm
def c8(s:AS):List AS:=if 12<bsz s then[]else a5i s
def bfs(h:(12:Int)<bsz s):c8 s=[]:=if_pos bww
def bft(h:¬(12:Int)<bsz s):c8 s=a5i s:=if_neg bww
def aee(s:AS)(y:List AS×AS):Prop:=sub y.2 s/\y.1.length+y.2.toNat<=s.toNat+1/\∀z,z∈y.1<->sub z s/\y.2.toNat<=z.toNat
def b00 (s:AS):aee s ([s],s):=⟨sub_self s,by simp only[bub];omega,fun z=>by
 rw[bte];constructor
 · rintro rfl;exact⟨sub_self _,bsw _⟩
 rintro⟨h1,h2⟩;exact bug (Nat.le_antisymm (b8b h1) h2)⟩
def azq{y:List AS×AS}(h:aee s y)(h0:y.2≠0):aee s (y.1++[(y.2-1)&&&s],(y.2-1)&&&s):=by
 obtain⟨h1,h2,h3⟩:=h;have hl:=a48 (s:=s) h0;refine⟨adk,by simp only[bsy,bub];omega,fun z=>?_⟩;rw[btd,bte,h3];constructor
 · rintro (⟨k1,k2⟩|rfl)
   · exact⟨k1,by dsimp only;omega⟩
   exact⟨adk,bsw _⟩
 rintro⟨k1,k2⟩;dsimp only at k2;by_cases hz:y.2.toNat<=z.toNat
 · exact .inl ⟨k1,hz⟩
 have:=amo h1 k1 bww;exact .inr (bug bww)
def b60 {y:List AS×AS} (h:aee s y) (h0:y.2=0):ord y.1=a5i s:=b5i (a0k _) fun z=>by
 rw[o3,h.2.2,h0];exact⟨fun h=>h.1,fun h=>⟨h,bsx _⟩⟩
def nxt(x s:Nat):Nat:=if x=s then s+1 else((2^64+x-s)&&&s)
def UpI (s:AS) (k:Nat) (y:List AS×Nat):Prop :=
 (y.2=s.toNat+1\/y.2&&&s.toNat=y.2)/\y.1.length<=k*4294967296+y.2/\y4 y.1/\∀z,z∈y.1<->sub z s/\(bsz z<k\/bsz z=k/\z.toNat<y.2)
def UpK(s:AS)(k:Nat)(l:List AS):Prop:=l.length<=k*4294967296/\y4 l/\∀z,z∈l<->sub z s/\bsz z<k
abbrev pU(n:Nat):PC:=.one (.raw (.int .u64 (n:Int)))
abbrev vU(n:Nat):HR:=bp (.raw (.int .u64 (n:Int)))
def apt(h:x≠0):ct .and .u32 (asI x-1) (asI s)=asI ((x-1)&&&s):=by rw[aqk h,kg]
def p9 {α:Type} [Inhabited α] {wr wr':Bool} {e:TypeId} {c:α->Nat->PV} {x:α} {f:Nat->Nat->PV} (h:CoP (f 0 0) (c x 0)) (hw:wr'=true->wr=true:=by exact fun h=>h):CoO (.arr wr 1 e 1 f) (.arr wr' 1 e [x].length (lf c [x])) :=
 ⟨hw,rfl,rfl,rfl,fun i j hi hj=>by
  have hi:i<1:=hi;have hj:j<1:=hj;obtain rfl:j=0:=by omega
  obtain rfl:i=0:=by omega
  exact h⟩
end
end
section
open Go.Proofs
def aov:goodFn bxn 55:=wgx Tryz.func55
def avw (s:AS):a6 bxn 55 [pA s] (ae [pP (asl (c8 s))]):=by
 refine hpx (nt:=23) Tryz.func55 ?_;refine w_8 ?_;refine qcx a3y (adp s) ?_;refine w_2 ?_;refine hcd ?_ ?_<;>intro h0
 · refine v_4 ?_;exact⟨CoC.one (am3 (bfs h0)),trivial⟩
 refine w_4 ?_;refine m9 0 ?_;refine w_9 ?_;refine ai (ι:=List AS×AS) (ka 0 kn) km (fun y=>⟨[(3,some (.v (.one (.ref 0 y.1.length)))),(4,some (vA y.2))],[(0,some (.arr true 1 50 y.1.length (lf sC y.1)))]⟩) (fun y=>aee s y) (fun y=>y.2.toNat) (([s],s)) (b00 s) ⟨tt,⟨⟨_,rfl,(p9 (CoP.refl _))⟩,trivial⟩⟩ ?_;rintro y hy;have hlen:=hy.2.1;have hsl:=s.isLt;refine w_6 ?_;refine hcn ?_ ?_<;>intro h1
 ·
  have hne:y.2≠0:=fun e=>h1 (by rw[e];rfl);refine w_5 ?_;refine rq rfl rfl rfl rfl rfl ?_ (hp:=(an2 hne));refine w_7 ?_;refine m9 1 ?_;refine r9 2 true ?_;refine w_2 ?_;refine⟨(y.1++[(y.2-1)&&&s],(y.2-1)&&&s), ?_, ?_, ?_⟩
  · exact azq hy hne
  · exact a48 hne
  exact⟨⟨⟨_,rfl,(bq rfl)⟩,⟨_,rfl,(ip (apt hne))⟩,tt⟩,⟨⟨_,rfl,(bw rfl (CoP.of_eq (by rw[apt hne];rfl)))⟩,trivial⟩⟩
 have hz:y.2=0:=df.1 h1;refine w_2 ?_;refine bh 3 rfl rfl rfl ?_;refine w_2 ?_;refine qcx yy (a6x y.1 bww) ?_;refine v_2 ?_;exact⟨CoC.one (CoP.of_eq (by rw[bft h0,b60 hy hz])),trivial⟩
end
section
def bpt(l:List Fd)(p x:AS):Bool:=decide (clo l x&&&p≠x)&&decide (clo l x&&&p≠p)
def b95(l:List Fd)(p:AS):Option AS:=(c8 p).find? (bpt l p)
def bq8(l:List Fd)(p x:AS):Fd:=⟨x,(clo l x&&&p)&&&~~~x⟩
def al3 (l:List Fd) (p:AS):Fd:=match b95 l p with
 |some x=>bq8 l p x
 |none=>⟨0,0⟩
def yo(l:List Fd)(p:AS):Bool:=(b95 l p).isSome
def ajy {s:AS}:∀(n:Nat) (x:AS),(a58 s n x).length<=x.toNat+1
 |0,x=>bsx _
 | n+1,x=>by
  unfold a58;by_cases h0:x=0
  · rw[if_pos h0];simp
  rw[if_neg h0,bto];have h1:=ajy (s:=s) n ((x-1)&&&s);have h2:=a48 (s:=s) h0;omega
def xn (s:AS):(c8 s).length<=4294967296:=by
 unfold c8 a5i;have h1:=ajy (s:=s) (s.toNat+1) s;have h2:=uz (a58 s (s.toNat+1) s);have h3:=s.isLt;split
 · simp
 omega
end
end Go.Hx

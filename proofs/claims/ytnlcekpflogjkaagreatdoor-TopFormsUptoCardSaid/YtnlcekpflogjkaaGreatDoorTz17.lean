/- A part of the proof: SrW Cs10 V8 Cs11 Gr V9 Cs12 V10 Cs13 V11 Cs14 V12 Cs15 V13. -/
import Derived.Shelf.SlSortCmp.NoneTotal
import Derived.Test.YtnlcekpflogjkaaGreatDoorTz15
import Derived.Test.YtnlcekpflogjkaaGreatDoorTz16
set_option linter.all false
set_option maxRecDepth 100000
namespace Go.Hx
section
open Go.Proofs Go.RowKit Go.Sort
section
variable {w:World}
def ax2{w':World}(h:Below w.heap.size w w'):∃q os,w'=grow (w.drewN q) os:=by
 refine⟨w'.drawn-w.drawn,w'.heap.extract w.heap.size w'.heap.size, ?_⟩;have hd:=h.drawn;obtain⟨h1,h2,h3,h4,h5,_⟩:=h
 cases w with
 |mk hp tp dr os out =>
 cases w' with
 |mk hp' tp' dr' os' out' =>
 dsimp only at *;subst h1 h2 h3;unfold grow World.drewN;simp only[World.mk.injEq,true_and,and_true];refine⟨?_,by omega⟩;apply Array.ext_getElem?;intro k;rw[Array.getElem?_append];by_cases hk:k<hp.size
 · rw[if_pos hk,h5 k hk]
 rw[if_neg hk,Array.getElem?_extract];by_cases hk2:k<hp'.size
 · rw [if_pos bx5]
   congr 1;omega
 rw[if_neg bx5,bvn bx5]
variable {os:Array Obj}{α:Type}{d:Array α}{enc:α->Value}
def awv [Inhabited α] {g m:Nat} {cur:Array Value} {e:TypeId} {fr:Nat×Nat} (h:w.heap[g]? = some (.cells cur e fr)):
 (sortWorld enc w g 0 m d os).heap[g]? = some (.cells (putCells enc 0 d cur) e fr):=by
 have hlt:=(bt5.1 h).1;unfold sortWorld;rw[heap_grow_old _ _ (by simpa using hlt)];unfold putRow mapBlock;simp only[heap_ahead,bvs,if_true,h];rfl
def a4u [Inhabited α] {g m:Nat} {b:Nat} (hb:b<w.heap.size) (hne:b≠g):(sortWorld enc w g 0 m d os).heap[b]? = w.heap[b]?:=by
 unfold sortWorld;rw[heap_grow_old _ _ (by simpa using hb)];unfold putRow mapBlock;simp only[heap_ahead,bvs,if_neg (Ne.symm hne)]
def aw9 [Inhabited α] {g m:Nat}:Below 0 w (sortWorld enc w g 0 m d os) :=
 ⟨rfl,rfl,rfl,by unfold sortWorld;simp,fun k hk=>absurd hk (bt9 k),by unfold sortWorld grow;simp⟩
def b2y[Inhabited α]{cur:Array Value}(h:d.size<=cur.size):(putCells enc 0 d cur).toList.take d.size=d.toList.map enc:=by
 apply bvo;intro k;rw[bug,btm,bv9,bv9];by_cases hk:k<d.size
 · rw [if_pos hk]
   unfold putCells;rw[Array.getElem?_mapIdx,bul bx5,bul hk];simp only[bts,bu1,Nat.sub_zero];rw[if_pos ⟨bt6 _,hk⟩,getElem!_pos d k hk]
 rw[if_neg hk,bvn bx5];rfl
def b1t{P:Program}{ρ:Go.Shelf.Ren}[Inhabited α](L:SlLaysF.n6 P ρ)(enc:α->Value)(h1:∀x,(enc x).oneCell'=true)(cf:α->α->Int)(hO:SWO (ltOf cf))(hT:∀x y,(ltOf cf) x y=false->(ltOf cf) y x=false->x=y)(g:Nat)(caps:Nat->PV)(hg:∀args w,(callFunc g args).run P w=.ok (.enter g args) w)(hc:∀x y,a7 P g [.one (.raw (enc x)), .one (.raw (enc y))] (ae [.one (.raw (.int .i64 (cf x y)))]))(id:Nat)(e:TypeId)(l:List α)(hsz:l.length<=8589934592):
 dv P (ρ.f 6) [.one (.ref id l.length), .one (.p (.fn g 0 caps))] [(id, .arr true 1 e l.length (lf (fun x _=>.raw (enc x)) l))] (.tup [])
  [(id, .arr true 1 e l.length (lf (fun x _=>.raw (enc x)) (l.mergeSort fun x y=>!(ltOf cf) y x)))] [id]:=by
 intro w c us hM hus
 match us,hus with
 | [u,v],⟨hu,hv,_⟩ =>
  obtain⟨cs,rfl,hcl,_⟩:=hv;have hcs:cs=[]:=bui hcl;subst hcs;have hl1:lk [(id,aa.arr true 1 e l.length (lf (fun x _=>.raw (enc x)) l))] id=some (.arr true 1 e l.length (lf (fun x _=>.raw (enc x)) l)):=by simp[lk]
  have hu2:=(hu.2.2 _ _ _ _ hl1 rfl).2 rfl;subst hu2;have hob:=hM.objs id _ hl1;obtain⟨h0,hmax,h5⟩:=hob;have hlen:(l.mergeSort fun x y=>!(ltOf cf) y x).length=l.length:=bx4 _
  have hev:∀f':Nat->Nat->PV,Evo c (lk [(id,aa.arr true 1 e l.length (lf (fun x _=>.raw (enc x)) l))]) c (lk [(id,aa.arr true 1 e l.length f')]) id:=fun f' =>
   .inr (.inr ⟨_, .arr true 1 e l.length f',1,e,l.length,l.length,hl1,rfl,by simp[lk],rfl,bt2 _,fun _=>rfl,fun _ _ _ _ _ _ _ h=>by cases h⟩)
  rcases buz l.length with hz|hpos
  ·
   have hl:l=[]:=bui hz;subst hl
   have hform:∃ad cap,c.own id=.slice ad 0 cap:=by
    rcases h5 with⟨_,xs,h2,_⟩|⟨_,_,ad,cap,hv,_⟩
    · rcases h2.2 with⟨hv,_⟩|⟨g,cap,cur,hv,_⟩
      · exact⟨none,0,hv⟩
      exact⟨_,cap,hv⟩
    exact⟨ad,cap,hv⟩
   obtain⟨ad,cap,hown⟩:=hform;have hms:([]:List α).mergeSort (fun x y=>!(ltOf cf) y x)=[]:=by simp
   rw[hown,hms];refine(AnyF.slices_SortFunc_none { L with } ad cap (.func (.func g) #[] #[]) w).mono ?_;rintro e' w' ⟨rfl,rfl⟩
   exact ⟨_,c,rfl,⟨[],rfl,trivial⟩,hM,Below.refl _ _,fun _ _ _=>⟨rfl,rfl⟩,fun id0 ob b ho hb=>.inr ⟨id0,ob,ho,hb⟩,fun id0 hid=>by
    rw[btu.1 hid]
    exact Evo.refl _ _ _⟩
  obtain ⟨h6,xs,h2,h4⟩:c.blk id=fm (c.own id)/\∃xs,w.ownsRow 0 e 1 (c.own id) l.length xs/\∀i j,i<l.length->j<1->∃x,xs[i*1+j]? = some x/\au c.imm (lf (fun x _=>.raw (enc x)) l i j) x:=by
   rcases h5 with h5|⟨h6|h6,_⟩
   · exact h5
   · cases h6
   omega
  obtain⟨hxl,hrow⟩:=h2
  rcases hrow with⟨_,hz⟩|⟨b,cap,cur,hown,hbase,hheap,hnc,hcm,hcs,htake⟩
  · omega
  have hblk:c.blk id b:=by rw[h6,hown];rfl
  have hlt:b<w.heap.size:=(bt5.1 hheap).1
  have hcell:∀j,(hj:j<l.length)->cur[j]? = some (enc l[j]):=fun j hj=>by
   obtain⟨x,hx,hr⟩:=h4 j 0 hj bx5;rw[bw2,bv4,<- htake,bug,if_pos bx5,bv9]at hx;rw[hx];have hr:x=enc (l.getD j default)/\_:=hr;rw[hr.1,bt1,bt0 hj];rfl
  have hH:Holds enc w b 0 l.toArray:=fun j hj=>by
   have hj:j<l.length:=by simpa using hj
   rw[bu1];refine⟨?_,by simp[World.frozen?,hheap]⟩;have:l.toArray[j]! = l[j]:=by rw[getElem!_pos l.toArray j (by simpa using hj)];simp
   rw[this];simp[World.cell?,hheap,hcell j hj]
  have hcmp:CmpLays1 P g #[] enc cf b 0 l.toArray.size w:=by
   intro m os dk hdk x y
   have hcimm:∀b' ob,c.imm b'=some ob->(sortWorld enc w b 0 m dk os).heap[b']? = some ob:=fun b' ob hb'=>by
    have hne:b'≠b:=fun he=>by
     have:=hM.sep id _ b hl1 hblk;rw[<- he,hb']at this;cases this
    have hw:=hM.imm b' ob hb';rw[a4u (bt5.1 hw).1 hne];exact hw
   have h:=hc x y (sortWorld enc w b 0 m dk os) c.imm [enc x,enc y] c.tab hcimm ⟨⟨rfl,h1 x⟩,⟨rfl,h1 y⟩,trivial⟩;refine h.mono ?_;rintro e' w' ⟨v,imm',rfl,hr,_,_,hb⟩;obtain⟨q,os',hq⟩:=ax2 hb;exact⟨by rw[hr.1],q,os',hq⟩
  have hS:=Any.slices_SortFunc_total L enc h1 cf hO g #[] b 0 cap l.toArray w hg hcmp hH hlt (by rw[buj];omega) hT;rw[hown];refine Calls.mono hS ?_;rintro e' w' ⟨rfl,m,os,rfl⟩;generalize hSd:(l.mergeSort fun x y=>!(ltOf cf) y x)=S at *
  refine ⟨_,c,rfl,⟨[],rfl,trivial⟩,⟨fun id0 ob ho=>?_,fun id0 id1 ob0 ob1 b' ho0 ho1 _ _=>(ji ho0).1.trans (ji ho1).1.symm,fun b' ob hb'=>?_,fun id0 ob b' ho hb'=>?_⟩,aw9,
   fun b' hb' hno=>⟨a4u hb' (fun he=>hno id _ hl1 (by rw[he];exact hblk)),rfl⟩,fun id0 ob b' ho hb'=>.inr ⟨id,_,hl1,by rw[<- (ji ho).1];exact hb'⟩,fun id0 hid=>by
    rw[btu.1 hid]
    exact hev _⟩
  · obtain ⟨rfl,rfl⟩:=ji ho
    refine⟨h0,hmax, .inl ⟨h6,S.map enc,⟨by simp[hlen], .inr ⟨b,cap,putCells enc 0 S.toArray cur,hown,hbase,awv hheap,hnc,hcm,by simpa [putCells]using hcs, ?_⟩⟩,fun i j hi hj=>?_⟩⟩
    · have:=b2y (enc:=enc) (d:=S.toArray) (cur:=cur) (by rw[buj,hlen,hcs];omega)
      rw[buj,hlen]at this;rw[bw2];exact this
    obtain rfl:j=0:=by omega
    have hi':i<S.length:=by rw[hlen];exact hi
    refine⟨enc S[i], ?_, ?_⟩
    · rw [bw2,bv4,btm,bt0 hi']
      rfl
    show au c.imm (.raw (enc (S.getD i default))) _;rw[bt1,bt0 hi'];exact⟨rfl,h1 _⟩
  · have hne:b'≠b:=fun he=>by
     have:=hM.sep id _ b hl1 hblk;rw[<- he,hb']at this;cases this
    have hw:=hM.imm b' ob hb';rw[a4u (bt5.1 hw).1 hne];exact hw
  have:=(ji ho).1;subst this;exact hM.sep id0 _ b' hl1 hb'
 | [],h=>exact h.elim
 | [_],⟨_,h⟩=>exact h.elim
 |_::_::_::_,⟨_,_,h⟩=>exact h.elim
def a3n{a b:AS}:ltOf a4t a b=bef a b:=b3t
def b36:SWO (ltOf a4t) where
 irrefl x:=by rw[a3n];exact a4a x
 trans x y z h k:=by rw[a3n]at *;exact a1z h k
 ntrans x y z h k:=by
  rw[a3n]at *;rw[btf,ne_eq,un]at *;omega
def srt(l:List AS):List AS:=l.mergeSort fun x y=>!bef y x
def ata:goodFn bxr 169:=⟨Tryz.f169,Tryz.func169,by kernel_rfl,by kernel_rfl⟩
def b8f (id:Nat) (caps:Nat->PV) (l:List AS) (hsz:l.length<=8589934592):dv bxr 169 [.one (.ref id l.length), .one (.p (.fn 170 0 caps))] [(id, .arr true 1 50 l.length (lf sC l))] (.tup [])
 [(id, .arr true 1 50 l.length (lf sC (srt l)))] [id]:=by
 have h:=b1t Tryz.laysSort (fun s:AS=>.int .u32 (asI s)) (fun _=>rfl) a4t b36 (fun x y h k=>by
  rw[a3n]at h k;apply Classical.byContradiction;intro hne
  rcases agh hne with h2|h2
  · rw[h]at h2;cases h2
  rw[k]at h2;cases h2) 170 caps (enters_of Tryz.func170 (by kernel_rfl) rfl) (fun x y=>b5k x y) id 50 l hsz
 have e:(fun x y:AS=>!(ltOf a4t) y x)=fun x y=>!bef y x:=by
  funext x y;rw[a3n]
 rw[e]at h;exact h
def bd2{l:List AS}{x:AS}:x∈srt l<->x∈l:=by unfold srt;exact List.mem_mergeSort
def a94(l:List AS):(srt l).length=l.length:=bx4 _
def a7m:∀{l:List AS} {p:Option AS},l.Pairwise (fun a b=>bef b a=false)->(∀x,p=some x->∀y∈l,bef y x=false)->(mi p l).Pairwise (fun a b=>bef a b=true)/\∀x,p=some x->∀y∈mi p l,bef x y=true
 | [],p,_,_=>⟨by simp[mi],fun x _ y hy=>by simp[mi]at hy⟩
 | z :: l,p,h,hp=>by
  obtain⟨h1,h2⟩:=btz.1 h;simp only[mi];split
  · rename_i e
    subst e;exact a7m h2 fun x hx y hy=>hp x hx y (bub _ hy)
  rename_i hne
  obtain ⟨q1,q2⟩:=a7m (p:=some z) h2 fun x hx y hy=>by
   simp only[bsy]at hx;subst hx;exact h1 y hy
  refine⟨btz.2 ⟨fun y hy=>q2 z rfl y hy,q1⟩,fun x hx y hy=>?_⟩
  have hxz:bef x z=true:=by
   have h3:=hp x hx z buc
   rcases agh (a:=x) (b:=z) (fun e=>hne (by rw[hx,e]))with h4|h4
   · exact h4
   rw[h3]at h4;cases h4
  rcases btd.1 hy with rfl|hy
  · exact hxz
  exact a1z hxz (q2 z rfl y hy)
def a4v (l:List AS):ja (srt l)=ord l:=by
 refine bg7 (a7m ?_ fun x hx=>by cases hx).1 fun z=>by rw[apx,bd2]
 have h:=bww (le:=fun x y:AS=>!bef y x) (fun a b c h k=>by
  simp only[btv]at *;rw[btf,ne_eq,un]at *
  omega) (fun a b=>by
  simp only[buk,btv];rw[btf,btf,ne_eq,ne_eq,un,un]
  omega) l
 refine h.imp fun {a b} hab=>?_;simpa using hab
end
end
section
abbrev bx(a:PV):PV:=.vp 1 fun j=>[a].getD j .any
def a3r(W:AS->AS->Bool)(l:List AS)(x:AS):Bool:=l.any fun b=>decide (x≠b)&&W x b
def a9c(W:AS->AS->Bool)(l:List AS):List AS:=(ord l).filter fun x=>!a3r W (ord l) x
def acv(a b:AS):Bool:=decide (sub a b)
def dl(l:List AS):List AS:=a9c acv l
def a8i (l:List AS):(ord l).Nodup:=(a59 l).imp fun {a b} h e=>by
 subst e;rw[a4a]at h;cases h
def okT(l:List AS)(i k:Nat):Bool:=(List.range k).all fun j=>decide (j=i)||!acv (l.getD i default) (l.getD j default)
def br7(l:List AS)(i:Nat):List AS:=((ord l).take i).filter fun x=>!a3r acv (ord l) x
end
section
open Go.Proofs
def uo:goodFn bxr 115:=wgx Tryz.func115
def a40 (l:List AS) (hl:l.length<=8589934592):a7 bxr 115 [pP (asl l)] (ae [pP (asl (ord l))]):=by
 refine hpx (nt:=10) Tryz.func115 ?_;refine w_7 ?_;refine fc9 a71 (a3h l.length false (lf sC l) bx5) trivial ?_;refine w_5 ?_;refine fc9 ata (b8f 0 _ l hl) uu ?_;refine w_4 ?_;refine l6 rfl rfl rfl rfl rfl rfl (wgx Tryz.func171) ((b6i (srt l)).swap 900 0) (⟨congrArg (HV.ref 0) (a94 l).symm,trivial⟩) ⟨⟨_,rfl,jn rfl (a94 l).symm⟩,trivial⟩ rfl rfl ?_;refine v_2 ?_;exact⟨CoC.one (CoP.of_eq (by rw[a4v])),trivial⟩
def bas (b x:AS) (g k:Nat) (caps:Nat->PV) (W:AS->AS->Bool) (hg:goodFn bxr g) (hW:∀x y,a7 bxr g (pA x::pA y::ic caps k 0) (ae [pB (W x y)])):a7 bxr 141 [pA b,pP (bx (asC x)),pP (bx (.fn g k caps))] (ae [pB (decide (x≠b)&&W x b)]):=by
 refine hpx (nt:=14) Tryz.func141 ?_;refine cr ?_;refine al rfl rfl ?_ ?_<;>intro r0
 ·
  have h0:=tz2 (cj r0);(iterate 3 refine qy ?_ (hg:=(gtt r0)));refine rc rfl rfl rfl rfl rfl rfl hg (hW x b) (CoL.refl _) rfl (gtt r0) ?_;refine w_3 ?_
  exact hx8 rfl rfl rfl (⟨ccb (by simp_all [cb]),trivial⟩)
 have h0:=tz1 (cn r0);(iterate 4 refine k9 (gft r0) ?_);refine w_3 ?_
 exact hx8 rfl rfl rfl (⟨ccb (by simp_all [cb]),trivial⟩)
def bjb (x:AS) (l:List AS) (g k:Nat) (caps:Nat->PV) (W:AS->AS->Bool) (hg:goodFn bxr g) (hW:∀x y,a7 bxr g (pA x::pA y::ic caps k 0) (ae [pB (W x y)])):a7 bxr 140 [pA x,pP (bx (asl l)),pP (bx (.fn g k caps))] (ae [pB (a3r W l x)]):=by
 refine hpx (nt:=8) Tryz.func140 ?_;refine sx7 ?_;refine m9 0 ?_;refine w_3 ?_;refine ci 3 rfl rfl rfl ?_;refine w_3 ?_;refine qcx a3i (aa6 l 141 2 (fun i=>[bx (asC x),bx (.fn g k caps)].getD i .any) (fun b=>decide (x≠b)&&W x b) (wgx Tryz.func141) (fun b=>bas b x g k caps W hg hW)) ?_;refine v_2 ?_;exact CoL.refl _
def bmm (l:List AS) (hl:l.length<=8589934592) (g k:Nat) (caps:Nat->PV) (W:AS->AS->Bool) (hg:goodFn bxr g) (hW:∀x y,a7 bxr g (pA x::pA y::ic caps k 0) (ae [pB (W x y)])):a7 bxr 91 [pP (asl l),pP (.fn g k caps)] (ae [pP (asl (a9c W l))]):=by
 refine hpx (nt:=12) Tryz.func91 ?_;refine sx7 ?_;refine m9 2 ?_;refine w_5 ?_;refine qcx uo (a40 l hl) ?_;refine m9 3 ?_;refine w_3 ?_;refine ci 5 rfl rfl rfl ?_;refine ci 3 rfl rfl rfl ?_;refine w_2 ?_;refine fc9 a71 (a3h (ord l).length false (lf sC (ord l)) (bth (pn l) bx5)) trivial ?_;refine qy ?_;refine fc9 (wgx Tryz.func73) ((b8h (ord l) 140 2 (fun i=>[bx (asl (ord l)),bx (.fn g k caps)].getD i .any) (a3r W (ord l)) (wgx Tryz.func140) (fun x=>bjb x (ord l) g k caps W hg hW)).swap 900 0) uu ?_;refine v_2 ?_;exact CoL.refl _
def bnh (a b:AS):a7 bxr 92 [pA a,pA b] (ae [pB (acv a b)]):=by
 refine hpx (nt:=9) Tryz.func92 ?_;refine gh ?_;exact hx8 rfl rfl rfl (⟨ccb (decide_eq_decide.2 ep),trivial⟩)
def ao7:goodFn bxr 41:=wgx Tryz.func41
def adi (l:List AS) (hl:l.length<=8589934592):a7 bxr 41 [pP (asl l)] (ae [pP (asl (dl l))]):=by
 refine hpx (nt:=5) Tryz.func41 ?_;refine w_7 ?_;refine qcx (wgx Tryz.func91) (bmm l hl 92 0 _ acv (wgx Tryz.func92) (fun a b=>bnh a b)) ?_;refine v_2 ?_;exact CoL.refl _
end
section
def ip(l:List Fd):List Fd:=l.foldl (fun o x=>if x∈o then o else o++[x]) []
section
variable {i:Nat}{l:List Fd}
def adq (hi:i<l.length):ip (l.take (i+1))=if l.getD i default∈ip (l.take i)then ip (l.take i)else ip (l.take i)++[l.getD i default]:=by
 unfold ip;rw[aj hi,btr];rfl
def aqh{s:Fd}:(l.any fun x=>decide (x=s))=decide (s∈l):=by
 rw[bv5,bue,decide_eq_true_iff];constructor
 · rintro ⟨x,hx,h⟩
   exact of_decide_eq_true h▸hx
 intro h;exact⟨s,h,decide_eq_true rfl⟩
def a9a (hi:i<l.length) (h:((ip (l.take i)).any fun x=>decide (x=l.getD i default))=false):ip (l.take (i+1))=ip (l.take i)++[l.getD i default]:=by
 rw[aqh]at h;rw[adq hi,if_neg (of_decide_eq_false h)]
def aaf (hi:i<l.length) (h:((ip (l.take i)).any fun x=>decide (x=l.getD i default))=true):ip (l.take (i+1))=ip (l.take i):=by
 rw[aqh]at h;rw[adq hi,if_pos (of_decide_eq_true h)]
def a8f:∀(l o:List Fd),(l.foldl (fun o x=>if x∈o then o else o++[x]) o).length<=o.length+l.length/\∀z,z∈l.foldl (fun o x=>if x∈o then o else o++[x]) o<->z∈o\/z∈l
 | [],o=>⟨by simp,fun z=>by simp⟩
 | x :: l,o=>by
  obtain⟨h1,h2⟩:=a8f l (if x∈o then o else o++[x]);simp only[bw1];refine⟨?_,fun z=>?_⟩
  · refine bth h1 ?_
    split<;>simp<;>omega
  rw[h2 z,btd];split
  · rename_i hx
    constructor
    · rintro(h|h)<;>simp[h]
    rintro(h|rfl|h)
    · exact .inl h
    · exact .inl hx
    exact .inr h
  rw[btn,btu];constructor
  · rintro((h|h)|h)<;>simp[h]
  rintro(h|h|h)<;>simp[h]
def a7i (l:List Fd):(ip l).length<=l.length:=by
 have:=(a8f l []).1;simpa [ip]using this
def oh {z:Fd}:z∈ip l<->z∈l:=by
 have:=(a8f l []).2 z;simpa [ip]using this
def brg(l:List Fd)(i k:Nat):Bool:=(l.take k).any fun x=>decide (x=l.getD i default)
def pg(f:Fd):List Fd:=(ak (f.rhs&&&~~~f.lhs)).map fun a=>(⟨f.lhs,(1:AS)<<<a⟩:Fd)
def gu(l:List Fd):List Fd:=(l.map pg).flatten
def ph(l:List Fd)(i k:Nat):List Fd:=gu (l.take i)++(pg (l.getD i default)).take k
def a5y(f:Fd):(pg f).length=(ak (f.rhs&&&~~~f.lhs)).length:=by unfold pg;rw[btw]
def wd(s:AS):(ak s).length<=32:=by rw[<- yf];exact az6 s
def ab8(l:List Fd)(i:Nat):ph l i 0=gu (l.take i):=by unfold ph;rw[bwp,btq]
def aau {k:Nat} {m:List Nat} (hm:m=ak ((l.getD i default).rhs&&&~~~(l.getD i default).lhs)) (hk:k<m.length):ph l i (k+1)=ph l i k++[⟨(l.getD i default).lhs,(1:AS)<<<m.getD k default⟩]:=by
 subst hm;unfold ph;generalize l.getD i default=x at *;rw[List.take_add_one,bu4];congr 1;congr 1;unfold pg;rw[btm,bt0 hk,bt1,bt0 hk];rfl
def aeb (hi:i<l.length) {k:Nat} (hk:k=(ak ((l.getD i default).rhs&&&~~~(l.getD i default).lhs)).length):ph l i k=gu (l.take (i+1)):=by
 subst hk;unfold ph gu;rw[<- a5y,btb,aj hi,bux,bv8];simp
def a61 (l:List Fd):(gu l).length<=32*l.length:=by
 induction l with
 |nil=>simp[gu]
 | cons x l ih =>
  have h:gu (x::l)=pg x++gu l:=by simp[gu]
  have h2:=a5y x;have h3:=wd (x.rhs&&&~~~x.lhs);rw[h,bt8,bud];omega
def aw7 {k:Nat} (hi:i<=l.length):(ph l i k).length<=32*l.length+32:=by
 have h1:=a61 (l.take i);have h2:=wd ((l.getD i default).rhs&&&~~~(l.getD i default).lhs);rw[btp]at h1;unfold ph;rw[bt8,btp,a5y];omega
def exB(l:List Fd)(x:Fd)(a:Nat):Bool:=imp l ⟨x.lhs&&&~~~((1:AS)<<<a),x.rhs⟩
def a98 (s:AS) (a:Nat):bu .andNot .u32 (asI s) (IntKind.wrap .u32 (1*2^(min a 32)))=asI (s&&&~~~((1:AS)<<<a)):=by
 rw[show IntKind.wrap .u32 (1*2^(min a 32))=asI ((1:AS)<<<a) from a0j 1 a,mc]
def bbj(a:Nat):IntKind.wrap .u32 (1*2^(min a 32))=asI ((1:AS)<<<a):=a0j 1 a
def jo(l:List Fd)(i:Nat):List Fd:=l.take i++l.drop (i+1)
def a6r(l:List Fd)(i:Nat):Bool:=imp (jo l i) (l.getD i default)
def ng(hi:i<l.length):(jo l i).length=l.length-1:=by unfold jo;rw[bt8,btp,bvi];omega
end
end
section
open Go.Proofs Go.Lib Go.RowKit
set_option maxHeartbeats 4000000 in
set_option maxRecDepth 100000 in
def an3(k:Nat)(hk:0<k)(hbig:k*8<=140737488355328)(w:World)(ad:Option Addr) :
 Calls bxr 254 #[.slice ad 0 0, .int .i64 k] w fun e w'=>∃G ROW,e=.returned (.slice (some ⟨w.heap.size,0,none⟩) 0 G)/\G<=maxLen/\w'=w.drew.alloc (.cells ROW 61)/\ROW.size=G*2:=by
 obtain ⟨i0,z,hi0,hz0,hzs,hzb,hzc⟩:∃i0 z,bxr.info? 61=some i0/\i0.zero=some z/\i0.size=2/\i0.bytes=8/\z.cells.size=2:=by
  have h:(bxr.info? 61).map (fun i=>(i.zero.map (fun z=>z.cells.size),i.size,i.bytes))=some (some 2,2,8):=by kernel_rfl
  cases hq:bxr.info? 61 with
  |none=>rw[hq]at h;cases h
  | some i0 =>
   rw[hq]at h
   cases hz:i0.zero with
   |none=>simp[hz]at h
   |some z=>simp[hz]at h;exact⟨i0,z,rfl,hz,h.2.1,h.2.2,h.1⟩
 have hc:0+k<=maxLen:=by unfold maxLen;omega
 have hold:(Builtin.firstCells i0.size 0 (.slice ad 0 0)).run bxr w.drew=.ok (([]:List Value)).toArray w.drew:=by
  cases ad with
  |none=>exact run_firstCells_none w.drew _ _ _ _
  |some a=>exact run_firstCells_some w.drew _ 0 a 0 0 [] bx8 (fun j v hj=>by simp at hj)
 obtain⟨G,hG⟩:∃G,G=grownCap w (0+k) 0 61:=⟨_,rfl⟩;have hGn:0+k<=G:=by rw[hG];exact grownCap_ge w _ _ _
 have hGm:G<=maxLen:=by rw[hG];exact grownCap_le_maxLen w (0+k) 0 61 hc
 obtain⟨ROW,hROW⟩:∃ROW:Array Value,ROW=([]:List Value).toArray++Builtin.zeroCells z.cells k++Builtin.zeroCells z.cells (G-(0+k)):=⟨_,rfl⟩
 have hrz:(Builtin.append_ #[28,3] 28 #[.slice ad 0 0, .int .i64 (k:Int)]).run bxr w=.ok (.slice (some ⟨w.heap.size,0,none⟩) k G) (w.drew.alloc (.cells ROW 61)):=by
  have h:=Lib.run_append_grow_zeros w 28 3 28 61 i0 z .i64 .i64 Tryz.underlying28 Tryz.underlying3 hi0 hz0 ad 0 0 [] hold k hk bx5 bx5 (by unfold maxLen at hc;omega) (by rw[hzb];omega) (by rw[hzb,bu1];exact growslice_fits bx5 hbig);rw[<- hG,<- hROW]at h;rw[h];simp
 have hRs:ROW.size=G*2:=by
  rw[hROW];simp only[bwc,buj,bwh,size_zeroCells,hzc];omega
 have mixed:=a8u;have hcM:G<=9223372036854775807:=by unfold maxLen at hGm;omega
 have hk0:¬((k:Int)<0):=by omega
 have hk1:(0:Int)<(k:Int):=by omega
 have hw1:IntKind.i64.wrap (k:Int)=(k:Int):=by rw[IntKind.wrap_i64];omega
 clear hG hROW hold
 rcases ad with _|⟨ab,ao,asp⟩
 all_goals go_enter Tryz.func254,Tryz.ntmps254
 all_goals go_wp2_with (at_builtin;refine Lib.wpList_append_run _ rfl _ _ _ _ rfl _ _ rfl rfl _ _ hrz ?_)
 all_goals go_ret
 all_goals first|exact⟨G,ROW,rfl,hGm,rfl,hRs⟩|exact⟨G,rfl,hGm,ROW,rfl,hRs⟩
def aot (w:World) (ad:Option Addr):Calls bxr 254 #[.slice ad 0 0, .int .i64 0] w fun e w'=>e=.returned (.slice ad 0 0)/\w'=w:=by
 have mixed:=a8u
 go_enter Tryz.func254,Tryz.ntmps254
 go_wp2
 go_ret
 exact⟨rfl,rfl⟩
def bmk(k a:Nat)(hk:k<=68719476736)(F:Nat->Nat->PV) :
 dv bxr 254 [.one (.p (kj (.slice none 0 0))), .one (.p (.raw (.int .i64 k)))] [] (.v (.one (.ref a 0))) [(a, .arr true 2 61 0 F)] []:=by
 refine b4s bx5 fun w ad=>?_
 rcases buz k with rfl|hk0
 · refine (aot w ad).mono ?_
   rintro e w' ⟨rfl,rfl⟩;exact⟨_,rfl,Below.refl _ _, .inl rfl⟩
 refine(an3 k hk0 bx5 w ad).mono ?_;rintro e w' ⟨G,ROW,rfl,hG,rfl,hR⟩;refine⟨_,rfl,⟨rfl,rfl,rfl, ?_,fun q hq=>bl4 w.drew _ hq,bwo _⟩, .inr ⟨⟨by simp, .inr ⟨_,G,ROW,rfl,bt6 _,heap_alloc_new w.drew _,bt6 _,hG,hR,by simp⟩⟩,fun g hg=>?_⟩⟩
 · show _<=(w.heap.push _).size
   rw[Array.size_push];omega
 have:w.heap.size=g:=by simpa [ct]using hg
 omega
end
section
open Go.Proofs
def axa(l:List Fd)(hl:l.length<=16777216):dv bxr 176 [.one (.p (fdl l))] [] (.v (.one (.ref 900 (ip l).length))) [(900, .arr true 2 61 (ip l).length (lf Fd.c (ip l)))] []:=by
 refine hfx (nt:=22) Tryz.func176 ?_;refine cr ?_;refine e9 0 rfl fun hn=>?_;refine w_6 ?_;refine d8 3 900 true 2 61 (lf Fd.c []) bxc rfl (CoP.sl rfl (.inr rfl) (fun h=>h) (fun i j hi _=>absurd hi (bt9 i))) (.inr rfl) rfl ?_;refine bw (ka 6 (ka 7 kn)) km (fun i=>⟨[(3,some (.v (.one (.ref 900 (ip (l.take i)).length)))),(8,some (vI i))],[(900,some (.arr true 2 61 (ip (l.take i)).length (lf Fd.c (ip (l.take i)))))]⟩) l.length kk ?_;rintro i hi;have hlen:=a7i (l.take i);rw[btp]at hlen;refine w_5 ?_;refine hcd ?_ ?_<;>intro h0
 ·
  refine w_7 ?_;refine m9 0 ?_;refine w_6 ?_;refine qcx (wgx Tryz.func224) (bqd (ip (l.take i)) (l.getD i default)) ?_;refine w_2 ?_;refine ax _ rfl ?_ ?_<;>intro r1
  ·
   have h1:=cj r1;have hc:=cj r1;refine w_3 ?_;refine m9 1 ?_;refine r9 2 true ?_;refine w_6 ?_
   first | (refine lpz (i+1) ⟨⟨⟨_, rfl, (bo (a9a bx5 hc))⟩, tt⟩, ⟨⟨_, rfl, (l5 (a9a bx5 hc) (CoP.refl _) (CoP.refl _))⟩, trivial⟩⟩ ?_; show i+1<=_; omega)
         |(refine lpz (i+1) ⟨⟨⟨_,rfl,(be (aaf bx5 hc))⟩,tt⟩,⟨⟨_,rfl,(az (aaf bx5 hc))⟩,trivial⟩⟩ ?_;show i+1<=_;omega)
  have h1:=cn r1;have hc:=cn r1;refine w_5 ?_
  first | (refine lpz (i+1) ⟨⟨⟨_, rfl, (bo (a9a bx5 hc))⟩, tt⟩, ⟨⟨_, rfl, (l5 (a9a bx5 hc) (CoP.refl _) (CoP.refl _))⟩, trivial⟩⟩ ?_; show i+1<=_; omega)
        |(refine lpz (i+1) ⟨⟨⟨_,rfl,(be (aaf bx5 hc))⟩,tt⟩,⟨⟨_,rfl,(az (aaf bx5 hc))⟩,trivial⟩⟩ ?_;show i+1<=_;omega)
 obtain rfl:i=l.length:=by omega
 refine w_6 ?_;refine hrr ?_;exact⟨_,_,rfl,bx7,CoR.of_eq (by rw[btb];rfl),⟨⟨_,rfl,jn (by rw[btb]) (by rw[btb])⟩,trivial⟩⟩
def bmr (l:List Fd) (hl:l.length<=16777216):a7 bxr 176 [pP (fdl l)] (ae [pP (fdl (ip l))]) :=
 dv.pure (args:=[pP (fdl l)]) (l:=[.one (.ref 900 (ip l).length)]) (axa l hl) rfl ⟨rfl,trivial⟩
end
section
def b6k {α:Type} [Inhabited α] {s n k':Nat} {k:Int} {cl:Bool} {c:α->Nat->PV} {l:List α} (h:k.toNat=k') (hk:k'<=l.length) :
 CoP (.sl (iu (bv n (some k)) none) s cl (sm (lf c l) none)) (psl s c (l.take k')):=by
 subst h;exact au9 hk
def b57 {α:Type} [Inhabited α] {s n k':Nat} {k:Int} {cl:Bool} {c:α->Nat->PV} {l:List α} (hn:n=l.length) (h:k.toNat=k'):CoP (.sl (iu n (some k)) s cl (sm (lf c l) (some k))) (psl s c (l.drop k')):=by
 subst h hn;exact bch
def amu{l:List Fd}{i:Nat}:[l.take i,l.drop (i+1)].flatten=jo l i:=by simp[jo]
def b9o {l:List Fd} {i:Nat} (hi:i<l.length) (hl:l.length<=16777216):[l.take i,l.drop (i+1)].flatten.length<=16777216:=by
 rw[amu,ng hi];omega
def bmb {x:Fd} {b:Int} {s:AS} (h:b=asI s):CoC (.agg [.raw (.int .u32 b), .raw (.int .u32 (asI x.rhs))]) (Fd.pc ⟨s,x.rhs⟩):=by
 subst h;exact CoC.refl _
end
section
open Go.Proofs
def rwC (l:List Fd):Nat->PV
 |0=>fdl l
 |_=>.any
abbrev bpd(ls:List (List Fd)):PV:=psl 1 rwC ls
def bd4 (ls:List (List Fd)) (h:ls.flatten.length<=16777216):a7 bxr 225 [pP (bpd ls)] (ae [pP (fdl ls.flatten)]):=by
 refine hpx (nt:=36) Tryz.func225 ?_;refine cr ?_;refine e9 0 rfl (fun hn=>?_);refine w_6 ?_;refine bw (ka 0 (ka 9 (ka 10 kn))) km (fun i=>⟨[(3,some (vI (ls.take i).flatten.length)),(11,some (vI i))],[]⟩) ls.length kk ?_;rintro i hi;refine w_5 ?_;refine hcd ?_ ?_<;>intro h0
 ·
  have hts:(ls.take (i+1)).flatten.length=(ls.take i).flatten.length+(ls.getD ((i:Nat):Int).toNat default).length:=by rw[tsf _ _ bx5,bt8];rfl
  have hfl:(ls.take i).flatten.length+(ls.getD ((i:Nat):Int).toNat default).length<=ls.flatten.length:=a8m ls i bx5;refine amk ?_;refine hcd ?_ ?_<;>intro h1
  · exfalso;omega
  refine w_5 ?_;refine lpz (i+1) kk ?_;show i+1<=_;omega
 obtain rfl:i=ls.length:=by omega
 have hfe:(ls.take ls.length).flatten.length=ls.flatten.length:=by rw[btb]
 refine w_4 ?_;refine fc9 (wgx Tryz.func254) (bmk (ls.take ls.length).flatten.length 900 bx5 (lf Fd.c [])) trivial ?_;refine cr ?_;refine bw (ka 25 (ka 26 kn)) km (fun i=>⟨[(6,some (.v (.one (.ref 900 (ls.take i).flatten.length)))),(27,some (vI i))],[(900,some (.arr true 2 61 (ls.take i).flatten.length (lf Fd.c (ls.take i).flatten)))]⟩) ls.length kk ?_;rintro i hi;refine w_5 ?_;refine hcd ?_ ?_<;>intro h2
 ·
  have hts:(ls.take (i+1)).flatten.length=(ls.take i).flatten.length+(ls.getD ((i:Nat):Int).toNat default).length:=by rw[tsf _ _ bx5,bt8];rfl
  have hfl:(ls.take i).flatten.length+(ls.getD ((i:Nat):Int).toNat default).length<=ls.flatten.length:=a8m ls i bx5;refine gh ?_;refine r9 0 true ?_;refine w_6 ?_;refine lpz (i+1) ⟨⟨⟨_,rfl,(CoR.of_eq (by rw[hts]))⟩,tt⟩,⟨⟨_,rfl,(by rw[tsf _ _ bx5];exact afl _ (fun h=>h) rfl (fun i j hi hj=>CoP.refl _))⟩,trivial⟩⟩ ?_;show i+1<=_;omega
 obtain rfl:i=ls.length:=by omega
 refine w_6 ?_;refine hrr ?_;rw[show ls.flatten=(ls.take ls.length).flatten by rw[btb]];exact f9 rfl rfl (CoL.refl _)
def ato (l:List Fd) (i:Nat) (hi:i<l.length) (hl:l.length<=16777216):a7 bxr 178 [pP (fdl l),pI i] (ae [pP (fdl (jo l i))]):=by
 refine hpx (nt:=14) Tryz.func178 ?_;refine w_5 ?_;have hll:=b9o hi hl;refine w_8 ?_;refine m9 0 ?_;refine fc9 (wgx Tryz.func225) (a7.eat (hcs:=[.one (.ref 0 2)]) (o1:=[(0, .arr true 1 28 2 (lf rwC [l.take i,l.drop (i+1)]))]) (bd4 [l.take i,l.drop (i+1)] hll) rfl (by(repeat' apply And.intro)<;>first|trivial|rfl) (CoL.refl _)) ⟨⟨_,rfl,⟨fun h=>h,rfl,rfl,rfl,fun i j hi hj=>(by have hi:i<2:=hi;have hj:j<1:=hj;obtain rfl:j=0:=bx5;rcases(show i=0\/i=1 by omega)with rfl|rfl;exact b6k rfl bx5;exact b57 rfl bx5)⟩⟩,trivial⟩ ?_;refine v_3 ?_;exact⟨CoC.one (CoP.of_eq (by rw[amu])),trivial⟩
def bfq (l:List Fd) (i:Nat) (hi:i<l.length) (hl:l.length<=16777216):a7 bxr 177 [pP (fdl l),pI i] (ae [pB (a6r l i)]):=by
 refine hpx (nt:=13) Tryz.func177 ?_;refine w_8 ?_;refine qcx (wgx Tryz.func178) (ato l i hi hl) ?_;refine w_4 ?_;refine qcx apm (b32 (jo l i) (l.getD i default)) ?_;refine v_3 ?_;exact CoL.refl _
def bin (l:List Fd) (x:Fd) (a:Nat):a7 bxr 175 [pP (fdl l),x.pc,pI a] (ae [pB (exB l x a)]):=by
 refine hpx (nt:=17) Tryz.func175 ?_;refine sx7 ?_;refine m9 0 ?_;refine mq ?_;refine rc rfl rfl rfl rfl rfl rfl apm (b32 l ⟨x.lhs&&&~~~((1:AS)<<<a),x.rhs⟩) (⟨CoC.refl _,bmb (a98 _ _),trivial⟩) rfl rfl ?_;refine v_3 ?_;exact CoL.refl _
end
section
def bqs(l:List Fd)(i k:Nat):List Fd:=gu (l.take i)++(bng ((l.getD i default).rhs&&&~~~(l.getD i default).lhs) k).map fun a=>(⟨(l.getD i default).lhs,(1:AS)<<<a⟩:Fd)
def aqg(x:Fd)(a:Nat):Fd:=⟨x.lhs&&&~~~((1:AS)<<<a),x.rhs⟩
def kg(i:Nat)(l:List Fd)(a:Nat):List Fd:=if en (l.getD i default).lhs a&&exB l (l.getD i default) a then l.set i (aqg (l.getD i default) a)else l
def su(l:List Fd)(i k:Nat):List Fd:=((ak (l.getD i default).lhs).take k).foldl (kg i) l
def ada(l:List Fd)(i:Nat):List Fd:=(ak (l.getD i default).lhs).foldl (kg i) l
def k8(l:List Fd)(i:Nat):List Fd:=(List.range i).foldl ada l
section
variable {a i:Nat}{l:List Fd}
def ao8:(kg i l a).length=l.length:=by
 unfold kg;split
 · rw[buv]
 rfl
def a8c:∀(m:List Nat) (l:List Fd),(m.foldl (kg i) l).length=l.length
 | [],l=>rfl
 |a::m,l=>by rw[bw1,a8c m,ao8]
variable {k:Nat}
def aoz:(su l i k).length=l.length:=a8c _ _
def b6x:(ada l i).length=l.length:=a8c _ _
def qw:∀{i:Nat},(k8 l i).length=l.length
 |0=>rfl
 | i+1=>by
  unfold k8;rw[bu3,btr];show(ada ((List.range i).foldl ada l) i).length=_;rw[b6x];exact qw (i:=i)
def yg (l:List Fd) (i:Nat):k8 l (i+1)=ada (k8 l i) i:=by
 unfold k8;rw[bu3,btr];rfl
def b1i(l:List Fd)(i:Nat):su l i 0=l:=by unfold su;rw[bwp];rfl
def b2n (hk:k=(ak (l.getD i default).lhs).length):su l i k=ada l i:=by
 unfold su ada;rw[hk,btb]
def a21 (hk:k<(ak (l.getD i default).lhs).length):su l i (k+1)=kg i (su l i k) ((ak (l.getD i default).lhs).getD k default):=by
 unfold su;rw[aj hk,btr];rfl
def ak0{x:Fd}(hi:i<l.length):(l.set i x).getD i default=x:=by simp[List.getD,hi]
def b45{b:Nat}(hi:i<l.length)(hb:b<32)(hne:b≠a):((kg i l a).getD i default).lhs.getLsbD b=(l.getD i default).lhs.getLsbD b:=by
 unfold kg;split
 · rw [ak0 hi]
   show((l.getD i default).lhs&&&~~~((1:AS)<<<a)).getLsbD b=_;rw[bta,bu9,er _ _ hb];simp[hb,hne]
 rfl
def ajp {b:Nat} (hb:b<32):∀(m:List Nat) (l:List Fd),i<l.length->(∀a∈m,b≠a)->((m.foldl (kg i) l).getD i default).lhs.getLsbD b=(l.getD i default).lhs.getLsbD b
 | [],l,_,_=>rfl
 | a::m,l,hi,h=>by
  rw[bw1,ajp hb m _ (by rw[ao8];exact hi) fun c hc=>h c (bub _ hc),b45 hi hb (h a buc)]
def awb(s:AS):(ak s).Pairwise (·<·):=List.Pairwise.filter _ List.pairwise_lt_range
def ap6{m:List Nat}(hk:k<m.length):m.getD k default=m[k]:=by simp[List.getD,hk]
def axz{m:List Nat}(hk:k<m.length):m.getD k default∈m:=by rw[ap6 hk];exact bti hk
def b2t (hi:i<l.length) (hk:k<(ak (l.getD i default).lhs).length):en ((su l i k).getD i default).lhs (((ak (l.getD i default).lhs).getD k default:Nat):Int)=true:=by
 have hm:(ak (l.getD i default).lhs).getD k default∈ak (l.getD i default).lhs:=axz hk;obtain⟨h1,h2⟩:=io.1 hm;rw[ou h1];unfold su;rw[ajp h1 _ _ hi,h2];intro a ha;obtain⟨j,hj,rfl⟩:=btt ha;rw[btp]at hj;rw[List.getElem_take,ap6 hk];have:=bv2.1 (awb (l.getD i default).lhs) j k bx5 hk bx5;exact Nat.ne_of_gt this
def ays(h:en (l.getD i default).lhs a=true)(h2:exB l (l.getD i default) a=true):kg i l a=l.set i (aqg (l.getD i default) a):=by unfold kg;rw[h,h2];rfl
def b06(h2:exB l (l.getD i default) a=false):kg i l a=l:=by unfold kg;rw[h2];simp
def au5{wr wr':Bool}{n:Nat}{e:TypeId}{l':List Fd}{v:Int}(hl:l'=l.set i (aqg (l.getD i default) a))(hv:v=asI ((l.getD i default).lhs&&&~~~((1:AS)<<<a)))(hk:k=i)(hi:i<l.length)(hn:n=l.length)(hw:wr'=true->wr=true:=by exact fun h=>h):
 CoO (.arr wr 2 e n (fz (lf Fd.c l) k 0 [.raw (.int .u32 v)])) (.arr wr' 2 e n (lf Fd.c l')):=by
 subst hl hv hk hn;refine⟨hw,rfl,rfl,rfl,fun r j hr hj=>CoP.of_eq ?_⟩;unfold fz lf;by_cases h:r=k
 · subst h
   rw[ak0 hi]
   rcases(by omega:j=0\/j=1)with rfl|rfl
   · rw [if_pos ⟨rfl,bt2 _,by simp⟩]
     rfl
   rw[if_neg bx8];rfl
 rw[if_neg bx5,getD_set_ne' h]
def ath{n:Nat}{cl:Bool}(h:n=l.length):CoP (.sl n 2 cl (lf Fd.c l)) (fdl l):=CoP.sl h.symm (.inl rfl) (fun h=>by cases h) fun _ _ _ _=>CoP.refl _
def oq:Nat->List Fd->Nat->List Fd
 |0,l,_=>l
 |f+1,l,i=>if i<l.length then(if a6r l i then oq f (jo l i) i else oq f l (i+1))else l
def atu (hi:i<l.length) (h:a6r l i=true):oq (l.length-i) l i=oq ((jo l i).length-i) (jo l i) i:=by
 rw[ng hi,show l.length-i=(l.length-1-i)+1 by omega];show(if i<l.length then(if a6r l i then _ else _)else l)=_;rw[if_pos hi,h];rfl
def aum (hi:i<l.length) (h:a6r l i=false):oq (l.length-i) l i=oq (l.length-(i+1)) l (i+1):=by
 rw[show l.length-i=(l.length-(i+1))+1 by omega];show(if i<l.length then(if a6r l i then _ else _)else l)=_;rw[if_pos hi,h];rfl
def b13(hi:¬i<l.length):oq (l.length-i) l i=l:=by rw[show l.length-i=0 by omega];rfl
def spl(l:List Fd):List Fd:=ip (gu l)
def a1d(l:List Fd):List Fd:=ip (k8 (spl l) (spl l).length)
def wk(l:List Fd):List Fd:=oq (a1d l).length (a1d l) 0
def au8(l:List Fd):(spl l).length<=32*l.length:=bth (a7i _) (a61 l)
def aey(l:List Fd):(a1d l).length<=32*l.length:=bth (a7i _) (by rw[qw];exact au8 l)
def xy(t:AS)(l:List Fd):Prop:=∀x∈l,sub x.lhs t
def bed{t:AS}(h:xy t l):xy t (kg i l a):=by
 unfold kg;split
 · rename_i hc
   intro x hx
   rcases bvr hx with hx|rfl
   · exact h x hx
   by_cases hi:i<l.length
   · have:=h (l.getD i default) (by rw[bt1,bt0 hi];exact bti hi)
     refine bz (ai.2 fun k hk hb=>?_) this;have hb:((l.getD i default).lhs&&&~~~((1:AS)<<<a)).getLsbD k=true:=hb;rw[bta,bt3]at hb;exact hb.1
   rw[bve bx5]at hx;exact h _ hx
 exact h
def ap0 {t:AS}:∀(m:List Nat) (l:List Fd),xy t l->xy t (m.foldl (kg i) l)
 | [],_,h=>h
 |a::m,l,h=>ap0 m _ (bed h)
def auj {t:AS} (h:xy t l):∀i,xy t (k8 l i)
 |0=>h
 |i+1=>by rw[yg];exact ap0 _ _ (auj h i)
def biq {t:AS} (h:xy t l):xy t (spl l):=by
 intro x hx;have hx:=oh.1 hx;unfold gu at hx;obtain⟨ys,hys,hxy⟩:=bwu.1 hx;obtain⟨f,hf,rfl⟩:=bto.1 hys;unfold pg at hxy;obtain⟨a,_,rfl⟩:=bto.1 hxy;exact h f hf
def b4u {n:Int} (h:aw n l=0):xy (a6 n) l:=by
 obtain⟨h0,h1,_,h3⟩:=d9 h;intro x hx;exact((a38 h0 h1).1 (btl.1 h3 x hx)).1
end
end
section
open Go.Proofs
def bb5 (l:List Fd) (hl:l.length<=4096):dv bxr 174 [.one (.p (fdl l))] [] (.v (.one (.ref 900 (spl l).length))) [(900, .arr true 2 61 (spl l).length (lf Fd.c (spl l)))] []:=by
 refine hfx (nt:=37) Tryz.func174 ?_;refine cr ?_;refine e9 0 rfl fun hn=>?_;refine w_6 ?_;refine d8 3 901 true 2 61 (lf Fd.c []) bxc rfl (CoP.sl rfl (.inr rfl) (fun h=>h) (fun i j hi _=>absurd hi (bt9 i))) (.inr rfl) rfl ?_;refine bw (ka 8 (ka 9 kn)) km (fun i=>⟨[(3,some (.v (.one (.ref 901 (gu (l.take i)).length)))),(10,some (vI i))],[(901,some (.arr true 2 61 (gu (l.take i)).length (lf Fd.c (gu (l.take i)))))]⟩) l.length kk ?_;rintro i hi;refine w_5 ?_;refine hcd ?_ ?_<;>intro h0
 ·
  refine w_7 ?_;refine m9 0 ?_;refine w_9 ?_;refine rc rfl rfl rfl rfl rfl rfl a3z (amf ((l.getD i default).rhs&&&~~~(l.getD i default).lhs)) (⟨cci (mc _ _),trivial⟩) rfl rfl ?_;refine w_4 ?_;refine bw (ka 5 (ka 8 (ka 9 (ka 10 (ka 19 (ka 20 kn)))))) (kb 0 km) (fun k=>⟨[(3,some (.v (.one (.ref 901 (ph l i k).length)))),(21,some (vI k))],[(901,some (.arr true 2 61 (ph l i k).length (lf Fd.c (ph l i k))))]⟩) ((ak ((l.getD i default).rhs&&&~~~(l.getD i default).lhs)).length) ⟨⟨⟨_,rfl,(be (ab8 l i))⟩,tt⟩,⟨⟨_,rfl,(az (ab8 l i))⟩,trivial⟩⟩ ?_;rintro k hk;have hml:=wd ((l.getD i default).rhs&&&~~~(l.getD i default).lhs);have hsl:=aw7 (l:=l) (i:=i) (k:=k) bx5;refine w_5 ?_;refine hcd ?_ ?_<;>intro h1
  · refine qb ?_;refine rq rfl rfl rfl rfl rfl ?_ (hp:=(bv7 _));refine qy ?_;refine m9 1 ?_;refine r9 2 true ?_;refine w_7 ?_;exact lpx (k+1) ⟨⟨⟨_,rfl,(bo (aau rfl bx5))⟩,tt⟩,⟨⟨_,rfl,(l5 (aau rfl bx5) (CoP.refl _) (CoP.of_eq (by exact congrArg (fun z=>PV.raw (.int .u32 z)) (bbj _))))⟩,uu⟩⟩
  obtain rfl:k=(ak ((l.getD i default).rhs&&&~~~(l.getD i default).lhs)).length:=by omega
  refine w_5 ?_;exact lpx (i+1) ⟨⟨⟨_,rfl,(be (aeb bx5 rfl).symm)⟩,tt⟩,⟨⟨_,rfl,(az (aeb bx5 rfl).symm)⟩,trivial⟩⟩
 obtain rfl:i=l.length:=by omega
 refine w_2 ?_;refine bj 3 rfl rfl rfl ?_;refine w_2 ?_;refine l6 rfl rfl rfl rfl rfl rfl (wgx Tryz.func176) (axa (gu l) (bth (a61 l) bx5)) (⟨CoP.of_eq (by rw[btb];rfl),trivial⟩) trivial rfl rfl ?_;refine w_2 ?_;refine hrr ?_;exact⟨_,_,rfl,bx7,CoR.refl _,uu⟩
def bqc(l:List Fd)(hl:l.length<=4096):a7 bxr 123 [pP (fdl l)] (ae [pP (fdl (wk l))]):=by
 refine hpx (nt:=60) Tryz.func123 ?_;refine w_7 ?_;refine fc9 (wgx Tryz.func174) (bb5 l hl) trivial ?_;refine w_4 ?_;have hsl:=au8 l;refine w_6 ?_;refine bw (ka 3 (ka 11 kn)) km (fun i=>⟨[(12,some (vI i))],[(900,some (.arr true 2 61 (spl l).length (lf Fd.c (k8 (spl l) i))))]⟩) ((spl l).length) kk ?_;rintro i hi;have htl:=qw (l:=spl l) (i:=i);refine w_5 ?_;refine hcd ?_ ?_<;>intro h0
 ·
  refine jk ?_;refine qcx a3z (amf ((k8 (spl l) i).getD i default).lhs) ?_;refine w_4 ?_;refine bw (ka 3 (ka 4 (ka 11 (ka 12 (ka 20 (ka 21 kn)))))) km (fun k=>⟨[(22,some (vI k))],[(900,some (.arr true 2 61 (spl l).length (lf Fd.c (su (k8 (spl l) i) i k))))]⟩) ((ak ((k8 (spl l) i).getD i default).lhs).length) ⟨tt,⟨⟨_,rfl,(jn (b1i _ _) rfl)⟩,trivial⟩⟩ ?_;rintro k hk;have hml:=wd ((k8 (spl l) i).getD i default).lhs;refine w_5 ?_;refine hcd ?_ ?_<;>intro h1
  ·
   have hkl:(su (k8 (spl l) i) i k).length=(spl l).length:=by rw[aoz,qw]
   have hhas:=b2t (l:=(k8 (spl l) i)) (i:=i) (k:=k) (by rw[qw];omega) bx5;refine a2y ?_;refine rc rfl rfl rfl rfl rfl rfl (wgx Tryz.func175) (bin (su (k8 (spl l) i) i k) ((su (k8 (spl l) i) i k).getD i default) ((ak ((k8 (spl l) i).getD i default).lhs).getD k default)) (⟨CoC.one (ath (by rw[aoz,qw])),CoC.refl _,CoC.refl _,trivial⟩) rfl rfl ?_;refine dq ?_;refine hcb ?_ ?_<;>intro h2
   ·
    refine w_7 ?_;refine rq rfl rfl rfl rfl rfl ?_ (hp:=(bv7 _));refine cr ?_
    first | (refine lpz (k+1) ⟨tt, ⟨⟨_, rfl, (au5 (i := i) (a := (ak ((k8 (spl l) i).getD i default).lhs).getD k default) (l := (su (k8 (spl l) i) i k)) (by rw[a21 bx5, ays hhas bx6]) (a98 _ _) bx5 bx5 hkl.symm)⟩, trivial⟩⟩ ?_; show k+1<=_; omega)
          |(refine lpz (k+1) ⟨tt,⟨⟨_,rfl,(jn (by rw[a21 bx5,b06 bx6]) rfl)⟩,trivial⟩⟩ ?_;show k+1<=_;omega)
   refine w_5 ?_
   first | (refine lpz (k+1) ⟨tt, ⟨⟨_, rfl, (au5 (i := i) (a := (ak ((k8 (spl l) i).getD i default).lhs).getD k default) (l := (su (k8 (spl l) i) i k)) (by rw[a21 bx5, ays hhas bx6]) (a98 _ _) bx5 bx5 hkl.symm)⟩, trivial⟩⟩ ?_; show k+1<=_; omega)
         |(refine lpz (k+1) ⟨tt,⟨⟨_,rfl,(jn (by rw[a21 bx5,b06 bx6]) rfl)⟩,trivial⟩⟩ ?_;show k+1<=_;omega)
  obtain rfl:k=(ak ((k8 (spl l) i).getD i default).lhs).length:=by omega
  refine w_5 ?_;exact lpx (i+1) ⟨tt,⟨⟨_,rfl,(jn (by rw[yg,b2n rfl]) rfl)⟩,trivial⟩⟩
 obtain rfl:i=(spl l).length:=by omega
 refine w_2 ?_;refine bj 3 rfl rfl rfl ?_;refine w_2 ?_;refine rc rfl rfl rfl rfl rfl rfl (wgx Tryz.func176) (bmr (k8 (spl l) (spl l).length) (by rw[qw];omega)) (⟨CoC.one (ath (by rw[qw])),trivial⟩) rfl rfl ?_;refine w_4 ?_;have hrl:=aey l;refine w_4 ?_;refine am (ι:=List Fd×Nat) kn km (fun x=>⟨[(3,some (bp (fdl x.1))),(7,some (vI x.2))],[]⟩) (fun x=>oq (x.1.length-x.2) x.1 x.2=wk l/\x.2<=x.1.length/\x.1.length<=131072) (fun x=>x.1.length-x.2) ((a1d l,0)) (⟨rfl,bt6 _,by show(a1d l).length<=_;omega⟩) ⟨⟨zy,⟨_,rfl,(coi rfl)⟩,trivial⟩,trivial⟩ ?_;rintro x ⟨hx,hx2,hx3⟩;refine w_8 ?_;refine hcd ?_ ?_<;>intro h3
 ·
  refine w_6 ?_;refine qcx (wgx Tryz.func177) (bfq x.1 x.2 bx5 bx5) ?_;refine dq ?_;refine ax _ rfl ?_ ?_<;>intro r4
  ·
   have h4:=r4;have hq:=r4;refine w_3 ?_;refine qcx (wgx Tryz.func178) (ato x.1 x.2 bx5 bx5) ?_;refine w_2 ?_
   first | (refine ⟨(jo x.1 x.2, x.2), ?_, ?_, ?_⟩
            · have ho:=ng (l:=x.1) (i:=x.2) bx5
              exact⟨by rw[<- hx,atu bx5 hq],by dsimp only;omega,by dsimp only;omega⟩
            · have ho:=ng (l:=x.1) (i:=x.2) bx5
              dsimp only;omega
            exact⟨⟨zy,⟨_,rfl,(coi bx9)⟩,trivial⟩,trivial⟩)
         |(refine lpz (x.1,x.2+1) ⟨⟨zy,⟨_,rfl,(coi bx9)⟩,trivial⟩,trivial⟩ ?_;exact⟨by rw[<- hx,aum bx5 hq],by dsimp only;omega,by dsimp only;omega⟩)
  have h4:=r4;have hq:=r4;refine w_5 ?_
  first | (refine ⟨(jo x.1 x.2, x.2), ?_, ?_, ?_⟩
           · have ho:=ng (l:=x.1) (i:=x.2) bx5
             exact⟨by rw[<- hx,atu bx5 hq],by dsimp only;omega,by dsimp only;omega⟩
           · have ho:=ng (l:=x.1) (i:=x.2) bx5
             dsimp only;omega
           exact⟨⟨zy,⟨_,rfl,(coi bx9)⟩,trivial⟩,trivial⟩)
        |(refine lpz (x.1,x.2+1) ⟨⟨zy,⟨_,rfl,(coi bx9)⟩,trivial⟩,trivial⟩ ?_;exact⟨by rw[<- hx,aum bx5 hq],by dsimp only;omega,by dsimp only;omega⟩)
 have hq:=h3;refine v_6 ?_;exact⟨CoC.one (CoP.of_eq (by rw[<- hx,b13 bx5])),trivial⟩
end
section
def jc(n:Int)(l:List Fd):List Fd:=if aw n l=0 then wk l else[]
def aef{n:Int}{l:List Fd}(h:aw n l=0):jc n l=wk l:=if_pos h
def ayx{n:Int}{l:List Fd}(h:¬aw n l=0):jc n l=[]:=if_neg h
def bjq{s:Nat}{cl:Bool}{f:Nat->Nat->PV}{L:List Fd}(h:L=[]):CoP (.sl 0 s cl f) (fdl L):=by subst h;exact amv
def a7k{s:Nat}{cl:Bool}{f:Nat->Nat->PV}{L:List AS}(h:L=[]):CoP (.sl 0 s cl f) (asl L):=by subst h;exact amv
def brr(l:List Fd)(i k:Nat):List Fd:=(List.range k).foldl (kg i) l
end
section
open Go.Proofs
def aqn:goodFn bxr 63:=wgx Tryz.func63
def awj (n:Int) (l:List Fd):a7 bxr 63 [pI n,pP (fdl l)] (ae [pP (fdl (jc n l)),pI (aw n l)]):=by
 refine hpx (nt:=15) Tryz.func63 ?_;refine cr ?_;refine qcx qj (tg n l) ?_;refine w_7 ?_;refine hcn ?_ ?_<;>intro h0
 · refine v_6 ?_;exact⟨CoC.one (bjq (ayx bx6)),CoC.refl _,trivial⟩
 refine w_4 ?_;refine qcx (wgx Tryz.func123) (bqc l (by have:=(d9 bx6).2.2.1;omega)) ?_;refine v_3 ?_;exact⟨CoC.one (CoP.of_eq (by rw[aef bx6])),cci bx5,trivial⟩
end
section
def adr (a b:Nat):a&&&b=2*(a/2&&&b/2)+(a%2&&&b%2):=by
 have h1:=Nat.div_add_mod (a&&&b) 2
 have h2:(a&&&b)%2=a%2&&&b%2:=by
  have:=Nat.and_mod_two_pow (a:=a) (b:=b) (n:=1);simpa using this
 rw[Nat.and_div_two,h2]at h1;exact h1.symm
def atx (a b:Nat):(a%2&&&b%2)=if a%2=1/\b%2=1 then 1 else 0:=by
 rcases Nat.mod_two_eq_zero_or_one a with h|h<;>rcases Nat.mod_two_eq_zero_or_one b with k|k<;>rw[h,k]<;>rfl
def aki {x s:Nat} (h:x&&&s=x):(x/2&&&s/2=x/2)/\(x%2=1->s%2=1):=by
 have h1:=adr x s;rw[h,atx]at h1;split at h1<;>rename_i hc
 · exact⟨by omega,fun _=>hc.2⟩
 exact⟨by omega,fun hx=>by omega⟩
def b70:∀(x s z:Nat),x&&&s=x->z&&&s=z->z<x->z<=((x-1)&&&s):=by
 intro x
 induction x using Nat.strongRecOn with
 | _ x ih =>
  intro s z hx hz hlt;obtain⟨x1,x2⟩:=aki hx;obtain⟨z1,z2⟩:=aki hz;rw[adr (x-1) s,atx]
  rcases Nat.mod_two_eq_zero_or_one x with hb|hb
  · have e1:(x-1)/2=x/2-1:=by omega
    have e2:(x-1)%2=1:=by omega
    have:=ih (x/2) bx5 (s/2) (z/2) x1 z1 bx5;rw[e1,e2];by_cases hs:s%2=1
    · rw[if_pos ⟨rfl,hs⟩];omega
    rw[if_neg (fun h=>hs h.2)];have:z%2=0:=by omega
    omega
  have e1:(x-1)/2=x/2:=by omega
  have e2:(x-1)%2=0:=by omega
  rw[e1,e2,x1,if_neg bx5];omega
section
variable {s z:AS}
def aqc:sub z s<->z.toNat&&&s.toNat=z.toNat:=by
 rw[<- bwe,BitVec.toNat_inj,ai];constructor
 · intro h
   apply bu7;intro k hk;rw[bta]
   cases hz:z.getLsbD k with
   |false=>rfl
   |true=>rw[h k hk hz];rfl
 intro h i _ hi;rw[<- h,bta]at hi;simp at hi;exact hi.2
def as2 (h:sub z s):bsz z<=bsz s:=by
 unfold bsz;apply List.countP_mono_left;intro i hi hb;exact ai.1 h i (btg.1 hi) hb
def a60 (s:AS):Nat->AS->List AS
 |0,_=>[]
 |n+1,x=>x::if x=0 then[]else a60 s n ((x-1)&&&s)
variable {x:AS}
def a5c (h:x≠0):(x-1).toNat=x.toNat-1:=by
 have h0:x.toNat≠0:=fun e=>h (bu2 e);have:=x.isLt;rw[BitVec.toNat_sub];show(2^32-1+x.toNat)%2^32=_;omega
def a51:sub ((x-1)&&&s) s:=by
 rw[aqc,bwe,Nat.and_assoc,Nat.and_self]
def sd (h:x≠0):((x-1)&&&s).toNat<x.toNat:=by
 have h0:x.toNat≠0:=fun e=>h (bu2 e);rw[bwe,a5c h];have:((x.toNat-1)&&&s.toNat)<=x.toNat-1:=Nat.and_le_left;omega
def ac2 (hx:sub x s) (hz:sub z s) (h:z.toNat<x.toNat):z.toNat<=((x-1)&&&s).toNat:=by
 have h0:x≠0:=fun e=>by subst e;exact absurd h (bt9 _)
 rw[bwe,a5c h0];exact b70 _ _ _ (aqc.1 hx) (aqc.1 hz) h
def aqs:∀(n:Nat) (x:AS),sub x s->x.toNat<n->∀z,z∈a60 s n x<->sub z s/\z.toNat<=x.toNat
 |0,x,_,h,z=>absurd h (bt9 _)
 | n + 1,x,hx,h,z=>by
  unfold a60;by_cases h0:x=0
  · rw [if_pos h0,btu]
    subst h0;constructor
    · rintro rfl;exact⟨hx,bt2 _⟩
    rintro⟨_,h⟩;exact bu2 (bx0 h (bt6 _))
  rw[if_neg h0,btd,aqs n _ a51 (by have:=sd (s:=s) h0;omega)];constructor
  · rintro (rfl|⟨h1,h2⟩)
    · exact⟨hx,bt2 _⟩
    have:=sd (s:=s) h0;exact⟨h1,by omega⟩
  rintro⟨h1,h2⟩;by_cases he:z=x
  · exact .inl he
  have hne:z.toNat≠x.toNat:=fun e=>he (bu2 e);exact .inr ⟨h1,ac2 hx h1 bx5⟩
def a4r(s:AS):List AS:=ord (a60 s (s.toNat+1) s)
def sub_self(s:AS):sub s s:=by rw[aqc,Nat.and_self]
def ag0(h:sub z s):z.toNat<=s.toNat:=by rw[<- aqc.1 h];exact Nat.and_le_right
def qn:z∈a4r s<->sub z s:=by
 unfold a4r;rw[ly,aqs _ _ (sub_self s) (Nat.lt_succ_self _)];exact⟨fun h=>h.1,fun h=>⟨h,ag0 h⟩⟩
def b39{l:List AS}(ho:yx l)(h:∀z,z∈l<->sub z s):l=a4r s:=a2x ho (a59 _) fun z=>by rw[h z];exact qn.symm
def b6(s:AS):List AS:=if 12<bsz s then[]else a4r s
def aa1(h:(12:Int)<bsz s):b6 s=[]:=if_pos bx5
def aha(h:¬(12:Int)<bsz s):b6 s=a4r s:=if_neg bx5
def a95(s:AS)(y:List AS×AS):Prop:=sub y.2 s/\y.1.length+y.2.toNat<=s.toNat+1/\∀z,z∈y.1<->sub z s/\y.2.toNat<=z.toNat
def aj1 (s:AS):a95 s ([s],s):=⟨sub_self s,by simp only[bv0];omega,fun z=>by
 rw[btu];constructor
 · rintro rfl;exact⟨sub_self _,bt2 _⟩
 rintro⟨h1,h2⟩;exact bu2 (bx0 (ag0 h1) h2)⟩
def ajt{y:List AS×AS}(h:a95 s y)(h0:y.2≠0):a95 s (y.1++[(y.2-1)&&&s],(y.2-1)&&&s):=by
 obtain⟨h1,h2,h3⟩:=h;have hl:=sd (s:=s) h0;refine⟨a51,by simp only[bt8,bv0];omega,fun z=>?_⟩;rw[btn,btu,h3];constructor
 · rintro (⟨k1,k2⟩|rfl)
   · exact⟨k1,by dsimp only;omega⟩
   exact⟨a51,bt2 _⟩
 rintro⟨k1,k2⟩;dsimp only at k2;by_cases hz:y.2.toNat<=z.toNat
 · exact .inl ⟨k1,hz⟩
 have:=ac2 h1 k1 bx5;exact .inr (bu2 bx5)
def aqp {y:List AS×AS} (h:a95 s y) (h0:y.2=0):ord y.1=a4r s:=b39 (a59 _) fun z=>by
 rw[ly,h.2.2,h0];exact⟨fun h=>h.1,fun h=>⟨h,bt6 _⟩⟩
def nxt(x s:Nat):Nat:=if x=s then s+1 else((2^64+x-s)&&&s)
def UpI (s:AS) (k:Nat) (y:List AS×Nat):Prop :=
 (y.2=s.toNat+1\/y.2&&&s.toNat=y.2)/\y.1.length<=k*4294967296+y.2/\yx y.1/\∀z,z∈y.1<->sub z s/\(bsz z<k\/bsz z=k/\z.toNat<y.2)
def UpK(s:AS)(k:Nat)(l:List AS):Prop:=l.length<=k*4294967296/\yx l/\∀z,z∈l<->sub z s/\bsz z<k
abbrev pU(n:Nat):PC:=.one (.raw (.int .u64 (n:Int)))
abbrev vU(n:Nat):HR:=bp (.raw (.int .u64 (n:Int)))
def a1e(h:x≠0):bu .and .u32 (asI x-1) (asI s)=asI ((x-1)&&&s):=by rw[aq3 h,it]
def np {α:Type} [Inhabited α] {wr wr':Bool} {e:TypeId} {c:α->Nat->PV} {x:α} {f:Nat->Nat->PV} (h:CoP (f 0 0) (c x 0)) (hw:wr'=true->wr=true:=by exact fun h=>h):CoO (.arr wr 1 e 1 f) (.arr wr' 1 e [x].length (lf c [x])) :=
 ⟨hw,rfl,rfl,rfl,fun i j hi hj=>by
  have hi:i<1:=hi;have hj:j<1:=hj;obtain rfl:j=0:=by omega
  obtain rfl:i=0:=by omega
  exact h⟩
def a48 {n:Nat} (h:n<4294967296):(n:Int)=asI (BitVec.ofNat 32 n):=by
 unfold asI;rw[bw9];omega
end
end
section
open Go.Proofs
def a6n:goodFn bxr 55:=wgx Tryz.func55
def al7 (s:AS):a7 bxr 55 [pA s] (ae [pP (asl (b6 s))]):=by
 refine hpx (nt:=23) Tryz.func55 ?_;refine w_8 ?_;refine qcx a08 (a9j s) ?_;refine w_2 ?_;refine hcd ?_ ?_<;>intro h0
 · refine v_4 ?_;exact⟨CoC.one (a7k (aa1 h0)),trivial⟩
 refine w_4 ?_;refine m9 0 ?_;refine w_9 ?_;refine am (ι:=List AS×AS) (ka 0 kn) km (fun y=>⟨[(3,some (.v (.one (.ref 0 y.1.length)))),(4,some (vA y.2))],[(0,some (.arr true 1 50 y.1.length (lf sC y.1)))]⟩) (fun y=>a95 s y) (fun y=>y.2.toNat) (([s],s)) (aj1 s) ⟨tt,⟨⟨_,rfl,(np (CoP.refl _))⟩,trivial⟩⟩ ?_;rintro y hy;have hlen:=hy.2.1;have hsl:=s.isLt;refine w_6 ?_;refine hcn ?_ ?_<;>intro h1
 ·
  have hne:y.2≠0:=fun e=>h1 (by rw[e];rfl);refine w_5 ?_;refine rq rfl rfl rfl rfl rfl ?_ (hp:=(x5 hne));refine w_7 ?_;refine m9 1 ?_;refine r9 2 true ?_;refine w_2 ?_;refine⟨(y.1++[(y.2-1)&&&s],(y.2-1)&&&s), ?_, ?_, ?_⟩
  · exact ajt hy hne
  · exact sd hne
  exact⟨⟨⟨_,rfl,(bo rfl)⟩,⟨_,rfl,(df (a1e hne))⟩,tt⟩,⟨⟨_,rfl,(bq rfl (CoP.of_eq (by rw[a1e hne];rfl)))⟩,trivial⟩⟩
 have hz:y.2=0:=cb.1 h1;refine w_2 ?_;refine bj 3 rfl rfl rfl ?_;refine w_2 ?_;refine qcx uo (a40 y.1 bx5) ?_;refine v_2 ?_;exact⟨CoC.one (CoP.of_eq (by rw[aha h0,aqp hy hz])),trivial⟩
end
end Go.Hx

/- A part of the proof: SrW Cs10 V8 Cs11 Gr V9 Cs12 V10 Cs13 V11 Cs14 V12 Cs15 V13 Cs16 Hx24 Cs17 V15. -/
import Derived.Shelf.SlSortCmp.NoneTotal
import Derived.Test.YtmoggbnlhllhaaaGreatDoorTx14
import Derived.Test.YtmoggbnlhllhaaaGreatDoorTx15
set_option linter.all false
set_option maxRecDepth 100000
namespace Go.Hx
section
open Go.Proofs Go.RowKit Go.Sort
section
variable {w:World}
def apn{w':World}(h:Below w.heap.size w w'):∃q os,w'=grow (w.drewN q) os:=by
 refine⟨w'.drawn-w.drawn,w'.heap.extract w.heap.size w'.heap.size, ?_⟩;have hd:=h.drawn;obtain⟨h1,h2,h3,h4,h5,_⟩:=h
 cases w with
 |mk hp tp dr os out =>
 cases w' with
 |mk hp' tp' dr' os' out' =>
 dsimp only at *;subst h1 h2 h3;unfold grow World.drewN;simp only[World.mk.injEq,true_and,and_true];refine⟨?_,by omega⟩;apply Array.ext_getElem?;intro k;rw[Array.getElem?_append];by_cases hk:k<hp.size
 · rw[if_pos hk,h5 k hk]
 rw[if_neg hk,Array.getElem?_extract];by_cases hk2:k<hp'.size
 · rw [if_pos bmq]
   congr 1;omega
 rw[if_neg bmq,blm bmq]
variable {os:Array Obj}{α:Type}{d:Array α}{enc:α->Value}
def aoa [Inhabited α] {g m:Nat} {cur:Array Value} {e:TypeId} {fr:Nat×Nat} (h:w.heap[g]? = some (.cells cur e fr)):
 (sortWorld enc w g 0 m d os).heap[g]? = some (.cells (putCells enc 0 d cur) e fr):=by
 have hlt:=(biu.1 h).1;unfold sortWorld;rw[heap_grow_old _ _ (by simpa using hlt)];unfold putRow mapBlock;simp only[heap_ahead,blv,if_true,h];rfl
def a2q [Inhabited α] {g m:Nat} {b:Nat} (hb:b<w.heap.size) (hne:b≠g):(sortWorld enc w g 0 m d os).heap[b]? = w.heap[b]?:=by
 unfold sortWorld;rw[heap_grow_old _ _ (by simpa using hb)];unfold putRow mapBlock;simp only[heap_ahead,blv,if_neg (Ne.symm hne)]
def ap9 [Inhabited α] {g m:Nat}:Below 0 w (sortWorld enc w g 0 m d os) :=
 ⟨rfl,rfl,rfl,by unfold sortWorld;simp,fun k hk=>absurd hk (bip k),by unfold sortWorld grow;simp⟩
def aws[Inhabited α]{cur:Array Value}(h:d.size<=cur.size):(putCells enc 0 d cur).toList.take d.size=d.toList.map enc:=by
 apply bla;intro k;rw[bjs,bjl,blw,blw];by_cases hk:k<d.size
 · rw [if_pos hk]
   unfold putCells;rw[Array.getElem?_mapIdx,bko bmq,bko hk];simp only[bjd,bjo,Nat.sub_zero];rw[if_pos ⟨bio _,hk⟩,getElem!_pos d k hk]
 rw[if_neg hk,blm bmq];rfl
def arm{P:Program}{ρ:Go.Shelf.Ren}[Inhabited α](L:SlLaysF.n6 P ρ)(enc:α->Value)(h1:∀x,(enc x).oneCell'=true)(cf:α->α->Int)(hO:SWO (ltOf cf))(hT:∀x y,(ltOf cf) x y=false->(ltOf cf) y x=false->x=y)(g:Nat)(caps:Nat->PV)(hg:∀args w,(callFunc g args).run P w=.ok (.enter g args) w)(hc:∀x y,aa P g [.one (.raw (enc x)), .one (.raw (enc y))] (ag [.one (.raw (.int .i64 (cf x y)))]))(id:Nat)(e:TypeId)(l:List α)(hsz:l.length<=8589934592):
 dv P (ρ.f 6) [.one (.ref id l.length), .one (.p (.fn g 0 caps))] [(id, .arr true 1 e l.length (lf (fun x _=>.raw (enc x)) l))] (.tup [])
  [(id, .arr true 1 e l.length (lf (fun x _=>.raw (enc x)) (l.mergeSort fun x y=>!(ltOf cf) y x)))] [id]:=by
 intro w c us hM hus
 match us,hus with
 | [u,v],⟨hu,hv,_⟩ =>
  obtain⟨cs,rfl,hcl,_⟩:=hv;have hcs:cs=[]:=bkf hcl;subst hcs;have hl1:lk [(id,ae.arr true 1 e l.length (lf (fun x _=>.raw (enc x)) l))] id=some (.arr true 1 e l.length (lf (fun x _=>.raw (enc x)) l)):=by simp[lk]
  have hu2:=(hu.2.2 _ _ _ _ hl1 rfl).2 rfl;subst hu2;have hob:=hM.objs id _ hl1;obtain⟨h0,hmax,h5⟩:=hob;have hlen:(l.mergeSort fun x y=>!(ltOf cf) y x).length=l.length:=List.length_mergeSort _
  have hev:∀f':Nat->Nat->PV,Evo c (lk [(id,ae.arr true 1 e l.length (lf (fun x _=>.raw (enc x)) l))]) c (lk [(id,ae.arr true 1 e l.length f')]) id:=fun f' =>
   .inr (.inr ⟨_, .arr true 1 e l.length f',1,e,l.length,l.length,hl1,rfl,by simp[lk],rfl,bil _,fun _=>rfl,fun _ _ _ _ _ _ _ h=>by cases h⟩)
  rcases bka l.length with hz|hpos
  ·
   have hl:l=[]:=bkf hz;subst hl
   have hform:∃ad cap,c.own id=.slice ad 0 cap:=by
    rcases h5 with⟨_,xs,h2,_⟩|⟨_,_,ad,cap,hv,_⟩
    · rcases h2.2 with⟨hv,_⟩|⟨g,cap,cur,hv,_⟩
      · exact⟨none,0,hv⟩
      exact⟨_,cap,hv⟩
    exact⟨ad,cap,hv⟩
   obtain⟨ad,cap,hown⟩:=hform;have hms:([]:List α).mergeSort (fun x y=>!(ltOf cf) y x)=[]:=by simp
   rw[hown,hms];refine(AnyF.slices_SortFunc_none { L with } ad cap (.func (.func g) #[] #[]) w).mono ?_;rintro e' w' ⟨rfl,rfl⟩
   exact ⟨_,c,rfl,⟨[],rfl,trivial⟩,hM,Below.refl _ _,fun _ _ _=>⟨rfl,rfl⟩,fun id0 ob b ho hb=>.inr ⟨id0,ob,ho,hb⟩,fun id0 hid=>by
    rw[bjb.1 hid]
    exact Evo.refl _ _ _⟩
  obtain ⟨h6,xs,h2,h4⟩:c.blk id=dx (c.own id)/\∃xs,w.ownsRow 0 e 1 (c.own id) l.length xs/\∀i j,i<l.length->j<1->∃x,xs[i*1+j]? = some x/\aq c.imm (lf (fun x _=>.raw (enc x)) l i j) x:=by
   rcases h5 with h5|⟨h6|h6,_⟩
   · exact h5
   · cases h6
   omega
  obtain⟨hxl,hrow⟩:=h2
  rcases hrow with⟨_,hz⟩|⟨b,cap,cur,hown,hbase,hheap,hnc,hcm,hcs,htake⟩
  · omega
  have hblk:c.blk id b:=by rw[h6,hown];rfl
  have hlt:b<w.heap.size:=(biu.1 hheap).1
  have hcell:∀j,(hj:j<l.length)->cur[j]? = some (enc l[j]):=fun j hj=>by
   obtain⟨x,hx,hr⟩:=h4 j 0 hj bmq;rw[bll,bkh,<- htake,bjs,if_pos bmq,blw]at hx;rw[hx];have hr:x=enc (l.getD j default)/\_:=hr;rw[hr.1,bir,bik hj];rfl
  have hH:Holds enc w b 0 l.toArray:=fun j hj=>by
   have hj:j<l.length:=by simpa using hj
   rw[bjo];refine⟨?_,by simp[World.frozen?,hheap]⟩;have:l.toArray[j]! = l[j]:=by rw[getElem!_pos l.toArray j (by simpa using hj)];simp
   rw[this];simp[World.cell?,hheap,hcell j hj]
  have hcmp:CmpLays1 P g #[] enc cf b 0 l.toArray.size w:=by
   intro m os dk hdk x y
   have hcimm:∀b' ob,c.imm b'=some ob->(sortWorld enc w b 0 m dk os).heap[b']? = some ob:=fun b' ob hb'=>by
    have hne:b'≠b:=fun he=>by
     have:=hM.sep id _ b hl1 hblk;rw[<- he,hb']at this;cases this
    have hw:=hM.imm b' ob hb';rw[a2q (biu.1 hw).1 hne];exact hw
   have h:=hc x y (sortWorld enc w b 0 m dk os) c.imm [enc x,enc y] c.tab hcimm ⟨⟨rfl,h1 x⟩,⟨rfl,h1 y⟩,trivial⟩;refine h.mono ?_;rintro e' w' ⟨v,imm',rfl,hr,_,_,hb⟩;obtain⟨q,os',hq⟩:=apn hb;exact⟨by rw[hr.1],q,os',hq⟩
  have hS:=Any.slices_SortFunc_total L enc h1 cf hO g #[] b 0 cap l.toArray w hg hcmp hH hlt (by rw[bk5];omega) hT;rw[hown];refine Calls.mono hS ?_;rintro e' w' ⟨rfl,m,os,rfl⟩;generalize hSd:(l.mergeSort fun x y=>!(ltOf cf) y x)=S at *
  refine ⟨_,c,rfl,⟨[],rfl,trivial⟩,⟨fun id0 ob ho=>?_,fun id0 id1 ob0 ob1 b' ho0 ho1 _ _=>(l6 ho0).1.trans (l6 ho1).1.symm,fun b' ob hb'=>?_,fun id0 ob b' ho hb'=>?_⟩,ap9,
   fun b' hb' hno=>⟨a2q hb' (fun he=>hno id _ hl1 (by rw[he];exact hblk)),rfl⟩,fun id0 ob b' ho hb'=>.inr ⟨id,_,hl1,by rw[<- (l6 ho).1];exact hb'⟩,fun id0 hid=>by
    rw[bjb.1 hid]
    exact hev _⟩
  · obtain ⟨rfl,rfl⟩:=l6 ho
    refine⟨h0,hmax, .inl ⟨h6,S.map enc,⟨by simp[hlen], .inr ⟨b,cap,putCells enc 0 S.toArray cur,hown,hbase,aoa hheap,hnc,hcm,by simpa [putCells]using hcs, ?_⟩⟩,fun i j hi hj=>?_⟩⟩
    · have:=aws (enc:=enc) (d:=S.toArray) (cur:=cur) (by rw[bk5,hlen,hcs];omega)
      rw[bk5,hlen]at this;rw[bll];exact this
    obtain rfl:j=0:=by omega
    have hi':i<S.length:=by rw[hlen];exact hi
    refine⟨enc S[i], ?_, ?_⟩
    · rw [bll,bkh,bjl,bik hi']
      rfl
    show aq c.imm (.raw (enc (S.getD i default))) _;rw[bir,bik hi'];exact⟨rfl,h1 _⟩
  · have hne:b'≠b:=fun he=>by
     have:=hM.sep id _ b hl1 hblk;rw[<- he,hb']at this;cases this
    have hw:=hM.imm b' ob hb';rw[a2q (biu.1 hw).1 hne];exact hw
  have:=(l6 ho).1;subst this;exact hM.sep id0 _ b' hl1 hb'
 | [],h=>exact h.elim
 | [_],⟨_,h⟩=>exact h.elim
 |_::_::_::_,⟨_,_,h⟩=>exact h.elim
def a1c{a b:AS}:ltOf a2y a b=bef a b:=au7
def ax9:SWO (ltOf a2y) where
 irrefl x:=by rw[a1c];exact a16 x
 trans x y z h k:=by rw[a1c]at *;exact yw h k
 ntrans x y z h k:=by
  rw[a1c]at *;rw[bj5,ne_eq,re]at *;omega
def srt(l:List AS):List AS:=l.mergeSort fun x y=>!bef y x
def alx:a6 bnb 175:=⟨Tryz.f175,Tryz.func175,by kernel_rfl,by kernel_rfl⟩
def bn1{p:Prop}(h:p:=by kernel_rfl):p:=h
def ayn (id:Nat) (caps:Nat->PV) (l:List AS) (hsz:l.length<=8589934592):dv bnb 175 [.one (.ref id l.length), .one (.p (.fn 176 0 caps))] [(id, .arr true 1 35 l.length (lf sC l))] (.tup [])
 [(id, .arr true 1 35 l.length (lf sC (srt l)))] [id]:=by
 have h:=arm Tryz.laysSort (fun s:AS=>.int .u32 (asI s)) (fun _=>rfl) a2y ax9 (fun x y h k=>by
  rw[a1c]at h k;apply Classical.byContradiction;intro hne
  rcases acx hne with h2|h2
  · rw[h]at h2;cases h2
  rw[k]at h2;cases h2) 176 caps (enters_of Tryz.func176 bn1 rfl) (fun x y=>aur x y) id 35 l hsz
 have e:(fun x y:AS=>!(ltOf a2y) y x)=fun x y=>!bef y x:=by
  funext x y;rw[a1c]
 rw[e]at h;exact h
def b29{l:List AS}{x:AS}:x∈srt l<->x∈l:=by unfold srt;exact List.mem_mergeSort
def a5w(l:List AS):(srt l).length=l.length:=List.length_mergeSort _
def a51:∀{l:List AS} {p:Option AS},l.Pairwise (fun a b=>bef b a=false)->(∀x,p=some x->∀y∈l,bef y x=false)->(ng p l).Pairwise (fun a b=>bef a b=true)/\∀x,p=some x->∀y∈ng p l,bef x y=true
 | [],p,_,_=>⟨by simp[ng],fun x _ y hy=>by simp[ng]at hy⟩
 | z :: l,p,h,hp=>by
  obtain⟨h1,h2⟩:=bj9.1 h;simp only[ng];split
  · rename_i e
    subst e;exact a51 h2 fun x hx y hy=>hp x hx y (bj0 _ hy)
  rename_i hne
  obtain ⟨q1,q2⟩:=a51 (p:=some z) h2 fun x hx y hy=>by
   simp only[bij]at hx;subst hx;exact h1 y hy
  refine⟨bj9.2 ⟨fun y hy=>q2 z rfl y hy,q1⟩,fun x hx y hy=>?_⟩
  have hxz:bef x z=true:=by
   have h3:=hp x hx z bj6
   rcases acx (a:=x) (b:=z) (fun e=>hne (by rw[hx,e]))with h4|h4
   · exact h4
   rw[h3]at h4;cases h4
  rcases biv.1 hy with rfl|hy
  · exact hxz
  exact yw hxz (q2 z rfl y hy)
def a2j (l:List AS):j6 (srt l)=ord l:=by
 refine b4x (a51 ?_ fun x hx=>by cases hx).1 fun z=>by rw[avd,b29]
 have h:=List.pairwise_mergeSort (le:=fun x y:AS=>!bef y x) (fun a b c h k=>by
  simp only[bjq]at *;rw[bj5,ne_eq,re]at *
  omega) (fun a b=>by
  simp only[bjx,bjq];rw[bj5,bj5,ne_eq,ne_eq,re,re]
  omega) l
 refine h.imp fun {a b} hab=>?_;simpa using hab
end
end
section
abbrev bx(a:PV):PV:=.vp 1 fun j=>[a].getD j .any
def a3s(W:AS->AS->Bool)(l:List AS)(x:AS):Bool:=l.any fun b=>decide (x≠b)&&W x b
def aok(W:AS->AS->Bool)(l:List AS):List AS:=(ord l).filter fun x=>!a3s W (ord l) x
def a7v(a b:AS):Bool:=decide (sub a b)
def nf(l:List AS):List AS:=aok a7v l
def au1 (l:List AS):(ord l).Nodup:=(a21 l).imp fun {a b} h e=>by
 subst e;rw[a16]at h;cases h
def okT(l:List AS)(i k:Nat):Bool:=(List.range k).all fun j=>decide (j=i)||!a7v (l.getD i default) (l.getD j default)
def bft(l:List AS)(i:Nat):List AS:=((ord l).take i).filter fun x=>!a3s a7v (ord l) x
end
section
open Go.Proofs
def a6i:a6 bnb 108:=wgx Tryz.func108
def ag8 (l:List AS) (hl:l.length<=8589934592):aa bnb 108 [pP (asl l)] (ag [pP (asl (ord l))]):=by
 refine hpx (nt:=10) Tryz.func108 ?_;refine w_7 ?_;refine fc9 adc (adk l.length false (lf sC l) bmq) trivial ?_;refine w_5 ?_;refine fc9 alx (ayn 0 _ l hl) uu ?_;refine w_4 ?_;refine sn rfl rfl rfl rfl rfl rfl anm ((axv (srt l)).swap 900 0) (⟨congrArg (HV.ref 0) (a5w l).symm,trivial⟩) ⟨⟨_,rfl,ku rfl (a5w l).symm⟩,trivial⟩ rfl rfl ?_;refine v_2 ?_;exact⟨CoC.one (CoP.of_eq (by rw[a2j])),trivial⟩
def b34:a6 bnb 194:=wgx Tryz.func194
def b1x (b x:AS) (g k:Nat) (caps:Nat->PV) (W:AS->AS->Bool) (hg:a6 bnb g) (hW:∀x y,aa bnb g (pA x::pA y::i7 caps k 0) (ag [pB (W x y)])):aa bnb 194 [pA b,pP (bx (asC x)),pP (bx (.fn g k caps))] (ag [pB (decide (x≠b)&&W x b)]):=by
 refine hpx (nt:=14) Tryz.func194 ?_;refine db ?_;refine be rfl rfl ?_ ?_<;>intro r0
 ·
  have h0:=tz2 (iu r0);(iterate 3 refine qy ?_ (hg:=(gtt r0)));refine rc rfl rfl rfl rfl rfl rfl hg (hW x b) (CoL.refl _) rfl (gtt r0) ?_;refine w_3 ?_
  exact hx8 rfl rfl rfl (⟨ccb (by simp_all [dq]),trivial⟩)
 have h0:=tz1 (iz r0);(iterate 4 refine k9 (gft r0) ?_);refine w_3 ?_
 exact hx8 rfl rfl rfl (⟨ccb (by simp_all [dq]),trivial⟩)
def b1p:a6 bnb 193:=wgx Tryz.func193
def b79 (x:AS) (l:List AS) (g k:Nat) (caps:Nat->PV) (W:AS->AS->Bool) (hg:a6 bnb g) (hW:∀x y,aa bnb g (pA x::pA y::i7 caps k 0) (ag [pB (W x y)])):aa bnb 193 [pA x,pP (bx (asl l)),pP (bx (.fn g k caps))] (ag [pB (a3s W l x)]):=by
 refine hpx (nt:=8) Tryz.func193 ?_;refine sx7 ?_;refine m9 0 ?_;refine w_3 ?_;refine ja 3 rfl rfl rfl ?_;refine w_3 ?_;refine qcx a6q (afo l 194 2 (fun i=>[bx (asC x),bx (.fn g k caps)].getD i .any) (fun b=>decide (x≠b)&&W x b) b34 (fun b=>b1x b x g k caps W hg hW)) ?_;refine v_2 ?_;exact CoL.refl _
def b16:a6 bnb 130:=wgx Tryz.func130
def bat (l:List AS) (hl:l.length<=8589934592) (g k:Nat) (caps:Nat->PV) (W:AS->AS->Bool) (hg:a6 bnb g) (hW:∀x y,aa bnb g (pA x::pA y::i7 caps k 0) (ag [pB (W x y)])):aa bnb 130 [pP (asl l),pP (.fn g k caps)] (ag [pP (asl (aok W l))]):=by
 refine hpx (nt:=12) Tryz.func130 ?_;refine sx7 ?_;refine m9 2 ?_;refine w_5 ?_;refine qcx a6i (ag8 l hl) ?_;refine m9 3 ?_;refine w_3 ?_;refine ja 5 rfl rfl rfl ?_;refine ja 3 rfl rfl rfl ?_;refine w_2 ?_;refine fc9 adc (adk (ord l).length false (lf sC (ord l)) (bj2 (w4 l) bmq)) trivial ?_;refine qy ?_;refine fc9 b21 ((bba (ord l) 193 2 (fun i=>[bx (asl (ord l)),bx (.fn g k caps)].getD i .any) (a3s W (ord l)) b1p (fun x=>b79 x (ord l) g k caps W hg hW)).swap 900 0) uu ?_;refine v_2 ?_;exact CoL.refl _
def b1v:a6 bnb 131:=wgx Tryz.func131
def bcy (a b:AS):aa bnb 131 [pA a,pA b] (ag [pB (a7v a b)]):=by
 refine hpx (nt:=9) Tryz.func131 ?_;refine gz ?_;exact hx8 rfl rfl rfl (⟨ccb (decide_eq_decide.2 gh),trivial⟩)
def aro:a6 bnb 73:=wgx Tryz.func73
def ah5 (l:List AS) (hl:l.length<=8589934592):aa bnb 73 [pP (asl l)] (ag [pP (asl (nf l))]):=by
 refine hpx (nt:=5) Tryz.func73 ?_;refine w_7 ?_;refine qcx b16 (bat l hl 131 0 _ a7v b1v (fun a b=>bcy a b)) ?_;refine v_2 ?_;exact CoL.refl _
end
section
def fy(l:List Fd):List Fd:=l.foldl (fun o x=>if x∈o then o else o++[x]) []
section
variable {i:Nat}{l:List Fd}
def a9o (hi:i<l.length):fy (l.take (i+1))=if l.getD i default∈fy (l.take i)then fy (l.take i)else fy (l.take i)++[l.getD i default]:=by
 unfold fy;rw[ar hi,bj8];rfl
def ajr{s:Fd}:(l.any fun x=>decide (x=s))=decide (s∈l):=by
 rw[bma,blh,decide_eq_true_iff];constructor
 · rintro ⟨x,hx,h⟩
   exact of_decide_eq_true h▸hx
 intro h;exact⟨s,h,decide_eq_true rfl⟩
def a5z (hi:i<l.length) (h:((fy (l.take i)).any fun x=>decide (x=l.getD i default))=false):fy (l.take (i+1))=fy (l.take i)++[l.getD i default]:=by
 rw[ajr]at h;rw[a9o hi,if_neg (of_decide_eq_false h)]
def a6p (hi:i<l.length) (h:((fy (l.take i)).any fun x=>decide (x=l.getD i default))=true):fy (l.take (i+1))=fy (l.take i):=by
 rw[ajr]at h;rw[a9o hi,if_pos (of_decide_eq_true h)]
def aew:∀(l o:List Fd),(l.foldl (fun o x=>if x∈o then o else o++[x]) o).length<=o.length+l.length/\∀z,z∈l.foldl (fun o x=>if x∈o then o else o++[x]) o<->z∈o\/z∈l
 | [],o=>⟨by simp,fun z=>by simp⟩
 | x :: l,o=>by
  obtain⟨h1,h2⟩:=aew l (if x∈o then o else o++[x]);simp only[blq];refine⟨?_,fun z=>?_⟩
  · refine bj2 h1 ?_
    split<;>simp<;>omega
  rw[h2 z,biv];split
  · rename_i hx
    constructor
    · rintro(h|h)<;>simp[h]
    rintro(h|rfl|h)
    · exact .inl h
    · exact .inl hx
    exact .inr h
  rw[bj1,bjb];constructor
  · rintro((h|h)|h)<;>simp[h]
  rintro(h|h|h)<;>simp[h]
def a47 (l:List Fd):(fy l).length<=l.length:=by
 have:=(aew l []).1;simpa [fy]using this
def bfv(l:List Fd)(i k:Nat):Bool:=(l.take k).any fun x=>decide (x=l.getD i default)
def a17(f:Fd):List Fd:=(bc (f.rhs&&&~~~f.lhs)).map fun a=>(⟨f.lhs,(1:AS)<<<a⟩:Fd)
def jp(l:List Fd):List Fd:=(l.map a17).flatten
def n4(l:List Fd)(i k:Nat):List Fd:=jp (l.take i)++(a17 (l.getD i default)).take k
def a1i(f:Fd):(a17 f).length=(bc (f.rhs&&&~~~f.lhs)).length:=by unfold a17;rw[bjf]
def a2p(s:AS):(bc s).length<=32:=by rw[<- aek];exact atn s
def a7r(l:List Fd)(i:Nat):n4 l i 0=jp (l.take i):=by unfold n4;rw[bm1,bjn]
def a7b {k:Nat} {m:List Nat} (hm:m=bc ((l.getD i default).rhs&&&~~~(l.getD i default).lhs)) (hk:k<m.length):n4 l i (k+1)=n4 l i k++[⟨(l.getD i default).lhs,(1:AS)<<<m.getD k default⟩]:=by
 subst hm;unfold n4;generalize l.getD i default=x at *;rw[List.take_add_one,bjy];congr 1;congr 1;unfold a17;rw[bjl,bik hk,bir,bik hk];rfl
def abb (hi:i<l.length) {k:Nat} (hk:k=(bc ((l.getD i default).rhs&&&~~~(l.getD i default).lhs)).length):n4 l i k=jp (l.take (i+1)):=by
 subst hk;unfold n4 jp;rw[<- a1i,biz,ar hi,bju,bkk];simp
def a1g (l:List Fd):(jp l).length<=32*l.length:=by
 induction l with
 |nil=>simp[jp]
 | cons x l ih =>
  have h:jp (x::l)=a17 x++jp l:=by simp[jp]
  have h2:=a1i x;have h3:=a2p (x.rhs&&&~~~x.lhs);rw[h,biq,bjv];omega
def aq9 {k:Nat} (hi:i<=l.length):(n4 l i k).length<=32*l.length+32:=by
 have h1:=a1g (l.take i);have h2:=a2p ((l.getD i default).rhs&&&~~~(l.getD i default).lhs);rw[bjc]at h1;unfold n4;rw[biq,bjc,a1i];omega
def exB(l:List Fd)(x:Fd)(a:Nat):Bool:=imp l ⟨x.lhs&&&~~~((1:AS)<<<a),x.rhs⟩
def a68 (s:AS) (a:Nat):d6 .andNot .u32 (asI s) (IntKind.wrap .u32 (1*2^(min a 32)))=asI (s&&&~~~((1:AS)<<<a)):=by
 rw[show IntKind.wrap .u32 (1*2^(min a 32))=asI ((1:AS)<<<a) from ze 1 a,apz]
def b42(a:Nat):IntKind.wrap .u32 (1*2^(min a 32))=asI ((1:AS)<<<a):=ze 1 a
def kp(l:List Fd)(i:Nat):List Fd:=l.take i++l.drop (i+1)
def adx(l:List Fd)(i:Nat):Bool:=imp (kp l i) (l.getD i default)
def lp(hi:i<l.length):(kp l i).length=l.length-1:=by unfold kp;rw[biq,bjc,bm3];omega
end
end
section
open Go.Proofs Go.Lib Go.RowKit
set_option maxHeartbeats 4000000 in
set_option maxRecDepth 100000 in
def ak1(k:Nat)(hk:0<k)(hbig:k*8<=140737488355328)(w:World)(ad:Option Addr) :
 Calls bnb 264 #[.slice ad 0 0, .int .i64 k] w fun e w'=>∃G ROW,e=.returned (.slice (some ⟨w.heap.size,0,none⟩) 0 G)/\G<=maxLen/\w'=w.drew.alloc (.cells ROW 37)/\ROW.size=G*2:=by
 obtain ⟨i0,z,hi0,hz0,hzs,hzb,hzc⟩:∃i0 z,bnb.info? 37=some i0/\i0.zero=some z/\i0.size=2/\i0.bytes=8/\z.cells.size=2:=by
  have h:(bnb.info? 37).map (fun i=>(i.zero.map (fun z=>z.cells.size),i.size,i.bytes))=some (some 2,2,8):=by kernel_rfl
  cases hq:bnb.info? 37 with
  |none=>rw[hq]at h;cases h
  | some i0 =>
   rw[hq]at h
   cases hz:i0.zero with
   |none=>simp[hz]at h
   |some z=>simp[hz]at h;exact⟨i0,z,rfl,hz,h.2.1,h.2.2,h.1⟩
 have hc:0+k<=maxLen:=by unfold maxLen;omega
 have hold:(Builtin.firstCells i0.size 0 (.slice ad 0 0)).run bnb w.drew=.ok (([]:List Value)).toArray w.drew:=by
  cases ad with
  |none=>exact run_firstCells_none w.drew _ _ _ _
  |some a=>exact run_firstCells_some w.drew _ 0 a 0 0 [] bmu (fun j v hj=>by simp at hj)
 obtain⟨G,hG⟩:∃G,G=grownCap w (0+k) 0 37:=⟨_,rfl⟩;have hGn:0+k<=G:=by rw[hG];exact grownCap_ge w _ _ _
 have hGm:G<=maxLen:=by rw[hG];exact grownCap_le_maxLen w (0+k) 0 37 hc
 obtain⟨ROW,hROW⟩:∃ROW:Array Value,ROW=([]:List Value).toArray++Builtin.zeroCells z.cells k++Builtin.zeroCells z.cells (G-(0+k)):=⟨_,rfl⟩
 have hrz:(Builtin.append_ #[38,3] 38 #[.slice ad 0 0, .int .i64 (k:Int)]).run bnb w=.ok (.slice (some ⟨w.heap.size,0,none⟩) k G) (w.drew.alloc (.cells ROW 37)):=by
  have h:=Lib.run_append_grow_zeros w 38 3 38 37 i0 z .i64 .i64 Tryz.underlying38 Tryz.underlying3 hi0 hz0 ad 0 0 [] hold k hk bmq bmq (by unfold maxLen at hc;omega) (by rw[hzb];omega) (by rw[hzb,bjo];exact growslice_fits bmq hbig);rw[<- hG,<- hROW]at h;rw[h];simp
 have hRs:ROW.size=G*2:=by
  rw[hROW];simp only[bly,bk5,bmc,size_zeroCells,hzc];omega
 have mixed:=a3n;have hcM:G<=9223372036854775807:=by unfold maxLen at hGm;omega
 have hk0:¬((k:Int)<0):=by omega
 have hk1:(0:Int)<(k:Int):=by omega
 have hw1:IntKind.i64.wrap (k:Int)=(k:Int):=by rw[IntKind.wrap_i64];omega
 clear hG hROW hold
 rcases ad with _|⟨ab,ao,asp⟩
 all_goals go_enter Tryz.func264,Tryz.ntmps264
 all_goals go_wp2_with (at_builtin;refine Lib.wpList_append_run _ rfl _ _ _ _ rfl _ _ rfl rfl _ _ hrz ?_)
 all_goals go_ret
 all_goals first|exact⟨G,ROW,rfl,hGm,rfl,hRs⟩|exact⟨G,rfl,hGm,ROW,rfl,hRs⟩
def ajp (w:World) (ad:Option Addr):Calls bnb 264 #[.slice ad 0 0, .int .i64 0] w fun e w'=>e=.returned (.slice ad 0 0)/\w'=w:=by
 have mixed:=a3n
 go_enter Tryz.func264,Tryz.ntmps264
 go_wp2
 go_ret
 exact⟨rfl,rfl⟩
def bac(k a:Nat)(hk:k<=68719476736)(F:Nat->Nat->PV) :
 dv bnb 264 [.one (.p (k6 (.slice none 0 0))), .one (.p (.raw (.int .i64 k)))] [] (.v (.one (.ref a 0))) [(a, .arr true 2 37 0 F)] []:=by
 refine axh bmq fun w ad=>?_
 rcases bka k with rfl|hk0
 · refine (ajp w ad).mono ?_
   rintro e w' ⟨rfl,rfl⟩;exact⟨_,rfl,Below.refl _ _, .inl rfl⟩
 refine(ak1 k hk0 bmq w ad).mono ?_;rintro e w' ⟨G,ROW,rfl,hG,rfl,hR⟩;refine⟨_,rfl,⟨rfl,rfl,rfl, ?_,fun q hq=>b6b w.drew _ hq,bm0 _⟩, .inr ⟨⟨by simp, .inr ⟨_,G,ROW,rfl,bio _,heap_alloc_new w.drew _,bio _,hG,hR,by simp⟩⟩,fun g hg=>?_⟩⟩
 · show _<=(w.heap.push _).size
   rw[Array.size_push];omega
 have:w.heap.size=g:=by simpa [c6]using hg
 omega
end
section
open Go.Proofs
def amc:a6 bnb 225:=wgx Tryz.func225
def asm(l:List Fd)(hl:l.length<=16777216):dv bnb 225 [.one (.p (fdl l))] [] (.v (.one (.ref 900 (fy l).length))) [(900, .arr true 2 37 (fy l).length (lf Fd.c (fy l)))] []:=by
 refine hfx (nt:=22) Tryz.func225 ?_;refine db ?_;refine j4 0 rfl fun hn=>?_;refine w_6 ?_;refine d4 3 900 true 2 37 (lf Fd.c []) bmx rfl (CoP.sl rfl (.inr rfl) (fun h=>h) (fun i j hi _=>absurd hi (bip i))) (.inr rfl) rfl ?_;refine bp (ka 6 (ka 7 kn)) km (fun i=>⟨[(3,some (.v (.one (.ref 900 (fy (l.take i)).length)))),(8,some (vI i))],[(900,some (.arr true 2 37 (fy (l.take i)).length (lf Fd.c (fy (l.take i)))))]⟩) l.length kk ?_;rintro i hi;have hlen:=a47 (l.take i);rw[bjc]at hlen;refine w_5 ?_;refine hcd ?_ ?_<;>intro h0
 ·
  refine w_7 ?_;refine m9 0 ?_;refine w_6 ?_;refine qcx b45 (bel (fy (l.take i)) (l.getD i default)) ?_;refine w_2 ?_;refine az _ rfl ?_ ?_<;>intro r1
  ·
   have h1:=iu r1;have hc:=iu r1;refine w_3 ?_;refine m9 1 ?_;refine r9 2 true ?_;refine w_6 ?_
   first | (refine lpz (i+1) ⟨⟨⟨_, rfl, (bq (a5z bmq hc))⟩, tt⟩, ⟨⟨_, rfl, (jq (a5z bmq hc) (CoP.refl _) (CoP.refl _))⟩, trivial⟩⟩ ?_; show i+1<=_; omega)
         |(refine lpz (i+1) ⟨⟨⟨_,rfl,(bz (a6p bmq hc))⟩,tt⟩,⟨⟨_,rfl,(bm (a6p bmq hc))⟩,trivial⟩⟩ ?_;show i+1<=_;omega)
  have h1:=iz r1;have hc:=iz r1;refine w_5 ?_
  first | (refine lpz (i+1) ⟨⟨⟨_, rfl, (bq (a5z bmq hc))⟩, tt⟩, ⟨⟨_, rfl, (jq (a5z bmq hc) (CoP.refl _) (CoP.refl _))⟩, trivial⟩⟩ ?_; show i+1<=_; omega)
        |(refine lpz (i+1) ⟨⟨⟨_,rfl,(bz (a6p bmq hc))⟩,tt⟩,⟨⟨_,rfl,(bm (a6p bmq hc))⟩,trivial⟩⟩ ?_;show i+1<=_;omega)
 obtain rfl:i=l.length:=by omega
 refine w_6 ?_;refine hrr ?_;exact⟨_,_,rfl,bms,CoR.of_eq (by rw[biz];rfl),⟨⟨_,rfl,ku (by rw[biz]) (by rw[biz])⟩,trivial⟩⟩
def bbs (l:List Fd) (hl:l.length<=16777216):aa bnb 225 [pP (fdl l)] (ag [pP (fdl (fy l))]) :=
 dv.pure (args:=[pP (fdl l)]) (l:=[.one (.ref 900 (fy l).length)]) (asm l hl) rfl ⟨rfl,trivial⟩
end
section
def ay5 {α:Type} [Inhabited α] {s n k':Nat} {k:Int} {cl:Bool} {c:α->Nat->PV} {l:List α} (h:k.toNat=k') (hk:k'<=l.length) :
 CoP (.sl (gw (c8 n (some k)) none) s cl (pn (lf c l) none)) (psl s c (l.take k')):=by
 subst h;exact anv hk
def awz {α:Type} [Inhabited α] {s n k':Nat} {k:Int} {cl:Bool} {c:α->Nat->PV} {l:List α} (hn:n=l.length) (h:k.toNat=k'):CoP (.sl (gw n (some k)) s cl (pn (lf c l) (some k))) (psl s c (l.drop k')):=by
 subst h hn;exact b03
def ahl{l:List Fd}{i:Nat}:[l.take i,l.drop (i+1)].flatten=kp l i:=by simp[kp]
def b39 {l:List Fd} {i:Nat} (hi:i<l.length) (hl:l.length<=16777216):[l.take i,l.drop (i+1)].flatten.length<=16777216:=by
 rw[ahl,lp hi];omega
def bd7 {x:Fd} {b:Int} {s:AS} (h:b=asI s):CoC (.agg [.raw (.int .u32 b), .raw (.int .u32 (asI x.rhs))]) (Fd.pc ⟨s,x.rhs⟩):=by
 subst h;exact CoC.refl _
end
section
open Go.Proofs
def rwC (l:List Fd):Nat->PV
 |0=>fdl l
 |_=>.any
abbrev be2(ls:List (List Fd)):PV:=psl 1 rwC ls
def azx:a6 bnb 264:=wgx Tryz.func264
def b10:a6 bnb 254:=wgx Tryz.func254
def b1z (ls:List (List Fd)) (h:ls.flatten.length<=16777216):aa bnb 254 [pP (be2 ls)] (ag [pP (fdl ls.flatten)]):=by
 refine hpx (nt:=36) Tryz.func254 ?_;refine db ?_;refine j4 0 rfl (fun hn=>?_);refine w_6 ?_;refine bp (ka 0 (ka 9 (ka 10 kn))) km (fun i=>⟨[(3,some (vI (ls.take i).flatten.length)),(11,some (vI i))],[]⟩) ls.length kk ?_;rintro i hi;refine w_5 ?_;refine hcd ?_ ?_<;>intro h0
 ·
  have hts:(ls.take (i+1)).flatten.length=(ls.take i).flatten.length+(ls.getD ((i:Nat):Int).toNat default).length:=by rw[tsf _ _ bmq,biq];rfl
  have hfl:(ls.take i).flatten.length+(ls.getD ((i:Nat):Int).toNat default).length<=ls.flatten.length:=a4r ls i bmq;refine avg ?_;refine hcd ?_ ?_<;>intro h1
  · exfalso;omega
  refine w_5 ?_;refine lpz (i+1) kk ?_;show i+1<=_;omega
 obtain rfl:i=ls.length:=by omega
 have hfe:(ls.take ls.length).flatten.length=ls.flatten.length:=by rw[biz]
 refine w_4 ?_;refine fc9 azx (bac (ls.take ls.length).flatten.length 900 bmq (lf Fd.c [])) trivial ?_;refine db ?_;refine bp (ka 25 (ka 26 kn)) km (fun i=>⟨[(6,some (.v (.one (.ref 900 (ls.take i).flatten.length)))),(27,some (vI i))],[(900,some (.arr true 2 37 (ls.take i).flatten.length (lf Fd.c (ls.take i).flatten)))]⟩) ls.length kk ?_;rintro i hi;refine w_5 ?_;refine hcd ?_ ?_<;>intro h2
 ·
  have hts:(ls.take (i+1)).flatten.length=(ls.take i).flatten.length+(ls.getD ((i:Nat):Int).toNat default).length:=by rw[tsf _ _ bmq,biq];rfl
  have hfl:(ls.take i).flatten.length+(ls.getD ((i:Nat):Int).toNat default).length<=ls.flatten.length:=a4r ls i bmq;refine gz ?_;refine r9 0 true ?_;refine w_6 ?_;refine lpz (i+1) ⟨⟨⟨_,rfl,(CoR.of_eq (by rw[hts]))⟩,tt⟩,⟨⟨_,rfl,(by rw[tsf _ _ bmq];exact aag _ (fun h=>h) rfl (fun i j hi hj=>CoP.refl _))⟩,trivial⟩⟩ ?_;show i+1<=_;omega
 obtain rfl:i=ls.length:=by omega
 refine w_6 ?_;refine hrr ?_;rw[show ls.flatten=(ls.take ls.length).flatten by rw[biz]];exact f9 rfl rfl (CoL.refl _)
def ank:a6 bnb 227:=wgx Tryz.func227
def amm (l:List Fd) (i:Nat) (hi:i<l.length) (hl:l.length<=16777216):aa bnb 227 [pP (fdl l),pI i] (ag [pP (fdl (kp l i))]):=by
 refine hpx (nt:=14) Tryz.func227 ?_;refine w_5 ?_;have hll:=b39 hi hl;refine w_8 ?_;refine m9 0 ?_;refine fc9 b10 (aa.eat (hcs:=[.one (.ref 0 2)]) (o1:=[(0, .arr true 1 38 2 (lf rwC [l.take i,l.drop (i+1)]))]) (b1z [l.take i,l.drop (i+1)] hll) rfl (by(repeat' apply And.intro)<;>first|trivial|rfl) (CoL.refl _)) ⟨⟨_,rfl,⟨fun h=>h,rfl,rfl,rfl,fun i j hi hj=>(by have hi:i<2:=hi;have hj:j<1:=hj;obtain rfl:j=0:=bmq;rcases(show i=0\/i=1 by omega)with rfl|rfl;exact ay5 rfl bmq;exact awz rfl bmq)⟩⟩,trivial⟩ ?_;refine v_3 ?_;exact⟨CoC.one (CoP.of_eq (by rw[ahl])),trivial⟩
def b25:a6 bnb 226:=wgx Tryz.func226
def b9w (l:List Fd) (i:Nat) (hi:i<l.length) (hl:l.length<=16777216):aa bnb 226 [pP (fdl l),pI i] (ag [pB (adx l i)]):=by
 refine hpx (nt:=13) Tryz.func226 ?_;refine w_8 ?_;refine qcx ank (amm l i hi hl) ?_;refine w_4 ?_;refine qcx an1 (b9u (kp l i) (l.getD i default)) ?_;refine v_3 ?_;exact CoL.refl _
def b2h:a6 bnb 224:=wgx Tryz.func224
def b67 (l:List Fd) (x:Fd) (a:Nat):aa bnb 224 [pP (fdl l),x.pc,pI a] (ag [pB (exB l x a)]):=by
 refine hpx (nt:=17) Tryz.func224 ?_;refine sx7 ?_;refine m9 0 ?_;refine kg ?_;refine rc rfl rfl rfl rfl rfl rfl an1 (b9u l ⟨x.lhs&&&~~~((1:AS)<<<a),x.rhs⟩) (⟨CoC.refl _,bd7 (a68 _ _),trivial⟩) rfl rfl ?_;refine v_3 ?_;exact CoL.refl _
end
section
def bfh(l:List Fd)(i k:Nat):List Fd:=jp (l.take i)++(bav ((l.getD i default).rhs&&&~~~(l.getD i default).lhs) k).map fun a=>(⟨(l.getD i default).lhs,(1:AS)<<<a⟩:Fd)
def aqd(x:Fd)(a:Nat):Fd:=⟨x.lhs&&&~~~((1:AS)<<<a),x.rhs⟩
def s6(i:Nat)(l:List Fd)(a:Nat):List Fd:=if ir (l.getD i default).lhs a&&exB l (l.getD i default) a then l.set i (aqd (l.getD i default) a)else l
def ow(l:List Fd)(i k:Nat):List Fd:=((bc (l.getD i default).lhs).take k).foldl (s6 i) l
def a8z(l:List Fd)(i:Nat):List Fd:=(bc (l.getD i default).lhs).foldl (s6 i) l
def ke(l:List Fd)(i:Nat):List Fd:=(List.range i).foldl a8z l
section
variable {a i:Nat}{l:List Fd}
def akl:(s6 i l a).length=l.length:=by
 unfold s6;split
 · rw[bkq]
 rfl
def a44:∀(m:List Nat) (l:List Fd),(m.foldl (s6 i) l).length=l.length
 | [],l=>rfl
 |a::m,l=>by rw[blq,a44 m,akl]
variable {k:Nat}
def aji:(ow l i k).length=l.length:=a44 _ _
def auj:(a8z l i).length=l.length:=a44 _ _
def np:∀{i:Nat},(ke l i).length=l.length
 |0=>rfl
 | i+1=>by
  unfold ke;rw[bjj,bj8];show(a8z ((List.range i).foldl a8z l) i).length=_;rw[auj];exact np (i:=i)
def as7 (l:List Fd) (i:Nat):ke l (i+1)=a8z (ke l i) i:=by
 unfold ke;rw[bjj,bj8];rfl
def atx(l:List Fd)(i:Nat):ow l i 0=l:=by unfold ow;rw[bm1];rfl
def axf (hk:k=(bc (l.getD i default).lhs).length):ow l i k=a8z l i:=by
 unfold ow a8z;rw[hk,biz]
def ya (hk:k<(bc (l.getD i default).lhs).length):ow l i (k+1)=s6 i (ow l i k) ((bc (l.getD i default).lhs).getD k default):=by
 unfold ow;rw[ar hk,bj8];rfl
def aea{x:Fd}(hi:i<l.length):(l.set i x).getD i default=x:=by simp[List.getD,hi]
def awj{b:Nat}(hi:i<l.length)(hb:b<32)(hne:b≠a):((s6 i l a).getD i default).lhs.getLsbD b=(l.getD i default).lhs.getLsbD b:=by
 unfold s6;split
 · rw [aea hi]
   show((l.getD i default).lhs&&&~~~((1:AS)<<<a)).getLsbD b=_;rw[bk6,bmd,wh _ _ hb];simp[hb,hne]
 rfl
def aes {b:Nat} (hb:b<32):∀(m:List Nat) (l:List Fd),i<l.length->(∀a∈m,b≠a)->((m.foldl (s6 i) l).getD i default).lhs.getLsbD b=(l.getD i default).lhs.getLsbD b
 | [],l,_,_=>rfl
 | a::m,l,hi,h=>by
  rw[blq,aes hb m _ (by rw[akl];exact hi) fun c hc=>h c (bj0 _ hc),awj hi hb (h a bj6)]
def aog(s:AS):(bc s).Pairwise (·<·):=List.Pairwise.filter _ bmi
def agm{m:List Nat}(hk:k<m.length):m.getD k default=m[k]:=by simp[List.getD,hk]
def as9{m:List Nat}(hk:k<m.length):m.getD k default∈m:=by rw[agm hk];exact bin hk
def auq (hi:i<l.length) (hk:k<(bc (l.getD i default).lhs).length):ir ((ow l i k).getD i default).lhs (((bc (l.getD i default).lhs).getD k default:Nat):Int)=true:=by
 have hm:(bc (l.getD i default).lhs).getD k default∈bc (l.getD i default).lhs:=as9 hk;obtain⟨h1,h2⟩:=un.1 hm;rw[tc h1];unfold ow;rw[aes h1 _ _ hi,h2];intro a ha;obtain⟨j,hj,rfl⟩:=bj7 ha;rw[bjc]at hj;rw[List.getElem_take,agm hk];have:=bji.1 (aog (l.getD i default).lhs) j k bmq hk bmq;exact Nat.ne_of_gt this
def atw(h:ir (l.getD i default).lhs a=true)(h2:exB l (l.getD i default) a=true):s6 i l a=l.set i (aqd (l.getD i default) a):=by unfold s6;rw[h,h2];rfl
def asi(h2:exB l (l.getD i default) a=false):s6 i l a=l:=by unfold s6;rw[h2];simp
def an5{wr wr':Bool}{n:Nat}{e:TypeId}{l':List Fd}{v:Int}(hl:l'=l.set i (aqd (l.getD i default) a))(hv:v=asI ((l.getD i default).lhs&&&~~~((1:AS)<<<a)))(hk:k=i)(hi:i<l.length)(hn:n=l.length)(hw:wr'=true->wr=true:=by exact fun h=>h):
 CoO (.arr wr 2 e n (k8 (lf Fd.c l) k 0 [.raw (.int .u32 v)])) (.arr wr' 2 e n (lf Fd.c l')):=by
 subst hl hv hk hn;refine⟨hw,rfl,rfl,rfl,fun r j hr hj=>CoP.of_eq ?_⟩;unfold k8 lf;by_cases h:r=k
 · subst h
   rw[aea hi]
   rcases(by omega:j=0\/j=1)with rfl|rfl
   · rw [if_pos ⟨rfl,bil _,by simp⟩]
     rfl
   rw[if_neg bmu];rfl
 rw[if_neg bmq,getD_set_ne' h]
def an8{n:Nat}{cl:Bool}(h:n=l.length):CoP (.sl n 2 cl (lf Fd.c l)) (fdl l):=CoP.sl h.symm (.inl rfl) (fun h=>by cases h) fun _ _ _ _=>CoP.refl _
def sa:Nat->List Fd->Nat->List Fd
 |0,l,_=>l
 |f+1,l,i=>if i<l.length then(if adx l i then sa f (kp l i) i else sa f l (i+1))else l
def alz (hi:i<l.length) (h:adx l i=true):sa (l.length-i) l i=sa ((kp l i).length-i) (kp l i) i:=by
 rw[lp hi,show l.length-i=(l.length-1-i)+1 by omega];show(if i<l.length then(if adx l i then _ else _)else l)=_;rw[if_pos hi,h];rfl
def amw (hi:i<l.length) (h:adx l i=false):sa (l.length-i) l i=sa (l.length-(i+1)) l (i+1):=by
 rw[show l.length-i=(l.length-(i+1))+1 by omega];show(if i<l.length then(if adx l i then _ else _)else l)=_;rw[if_pos hi,h];rfl
def ats(hi:¬i<l.length):sa (l.length-i) l i=l:=by rw[show l.length-i=0 by omega];rfl
def spl(l:List Fd):List Fd:=fy (jp l)
def a06(l:List Fd):List Fd:=fy (ke (spl l) (spl l).length)
def aie(l:List Fd):List Fd:=sa (a06 l).length (a06 l) 0
def anw(l:List Fd):(spl l).length<=32*l.length:=bj2 (a47 _) (a1g l)
def aba(l:List Fd):(a06 l).length<=32*l.length:=bj2 (a47 _) (by rw[np];exact anw l)
def bgb(t:AS)(l:List Fd):Prop:=∀x∈l,sub x.lhs t
end
end
section
open Go.Proofs
def b20:a6 bnb 223:=wgx Tryz.func223
def b3k (l:List Fd) (hl:l.length<=4096):dv bnb 223 [.one (.p (fdl l))] [] (.v (.one (.ref 900 (spl l).length))) [(900, .arr true 2 37 (spl l).length (lf Fd.c (spl l)))] []:=by
 refine hfx (nt:=37) Tryz.func223 ?_;refine db ?_;refine j4 0 rfl fun hn=>?_;refine w_6 ?_;refine d4 3 901 true 2 37 (lf Fd.c []) bmx rfl (CoP.sl rfl (.inr rfl) (fun h=>h) (fun i j hi _=>absurd hi (bip i))) (.inr rfl) rfl ?_;refine bp (ka 8 (ka 9 kn)) km (fun i=>⟨[(3,some (.v (.one (.ref 901 (jp (l.take i)).length)))),(10,some (vI i))],[(901,some (.arr true 2 37 (jp (l.take i)).length (lf Fd.c (jp (l.take i)))))]⟩) l.length kk ?_;rintro i hi;refine w_5 ?_;refine hcd ?_ ?_<;>intro h0
 ·
  refine w_7 ?_;refine m9 0 ?_;refine w_9 ?_;refine rc rfl rfl rfl rfl rfl rfl aij (axm ((l.getD i default).rhs&&&~~~(l.getD i default).lhs)) (⟨cci (apz _ _),trivial⟩) rfl rfl ?_;refine w_4 ?_;refine bp (ka 5 (ka 8 (ka 9 (ka 10 (ka 19 (ka 20 kn)))))) (kb 0 km) (fun k=>⟨[(3,some (.v (.one (.ref 901 (n4 l i k).length)))),(21,some (vI k))],[(901,some (.arr true 2 37 (n4 l i k).length (lf Fd.c (n4 l i k))))]⟩) ((bc ((l.getD i default).rhs&&&~~~(l.getD i default).lhs)).length) ⟨⟨⟨_,rfl,(bz (a7r l i))⟩,tt⟩,⟨⟨_,rfl,(bm (a7r l i))⟩,trivial⟩⟩ ?_;rintro k hk;have hml:=a2p ((l.getD i default).rhs&&&~~~(l.getD i default).lhs);have hsl:=aq9 (l:=l) (i:=i) (k:=k) bmq;refine w_5 ?_;refine hcd ?_ ?_<;>intro h1
  · refine mf ?_;refine rq rfl rfl rfl rfl rfl ?_ (hp:=(bjp _));refine qy ?_;refine m9 1 ?_;refine r9 2 true ?_;refine w_7 ?_;exact lpx (k+1) ⟨⟨⟨_,rfl,(bq (a7b rfl bmq))⟩,tt⟩,⟨⟨_,rfl,(jq (a7b rfl bmq) (CoP.refl _) (CoP.of_eq (by exact congrArg (fun z=>PV.raw (.int .u32 z)) (b42 _))))⟩,uu⟩⟩
  obtain rfl:k=(bc ((l.getD i default).rhs&&&~~~(l.getD i default).lhs)).length:=by omega
  refine w_5 ?_;exact lpx (i+1) ⟨⟨⟨_,rfl,(bz (abb bmq rfl).symm)⟩,tt⟩,⟨⟨_,rfl,(bm (abb bmq rfl).symm)⟩,trivial⟩⟩
 obtain rfl:i=l.length:=by omega
 refine w_2 ?_;refine bh 3 rfl rfl rfl ?_;refine w_2 ?_;refine sn rfl rfl rfl rfl rfl rfl amc (asm (jp l) (bj2 (a1g l) bmq)) (⟨CoP.of_eq (by rw[biz];rfl),trivial⟩) trivial rfl rfl ?_;refine w_2 ?_;refine hrr ?_;exact⟨_,_,rfl,bms,CoR.refl _,uu⟩
def b0x:a6 bnb 191:=wgx Tryz.func191
def bdn(l:List Fd)(hl:l.length<=4096):aa bnb 191 [pP (fdl l)] (ag [pP (fdl (aie l))]):=by
 refine hpx (nt:=60) Tryz.func191 ?_;refine w_7 ?_;refine fc9 b20 (b3k l hl) trivial ?_;refine w_4 ?_;have hsl:=anw l;refine w_6 ?_;refine bp (ka 3 (ka 11 kn)) km (fun i=>⟨[(12,some (vI i))],[(900,some (.arr true 2 37 (spl l).length (lf Fd.c (ke (spl l) i))))]⟩) ((spl l).length) kk ?_;rintro i hi;have htl:=np (l:=spl l) (i:=i);refine w_5 ?_;refine hcd ?_ ?_<;>intro h0
 ·
  refine ic ?_;refine qcx aij (axm ((ke (spl l) i).getD i default).lhs) ?_;refine w_4 ?_;refine bp (ka 3 (ka 4 (ka 11 (ka 12 (ka 20 (ka 21 kn)))))) km (fun k=>⟨[(22,some (vI k))],[(900,some (.arr true 2 37 (spl l).length (lf Fd.c (ow (ke (spl l) i) i k))))]⟩) ((bc ((ke (spl l) i).getD i default).lhs).length) ⟨tt,⟨⟨_,rfl,(ku (atx _ _) rfl)⟩,trivial⟩⟩ ?_;rintro k hk;have hml:=a2p ((ke (spl l) i).getD i default).lhs;refine w_5 ?_;refine hcd ?_ ?_<;>intro h1
  ·
   have hkl:(ow (ke (spl l) i) i k).length=(spl l).length:=by rw[aji,np]
   have hhas:=auq (l:=(ke (spl l) i)) (i:=i) (k:=k) (by rw[np];omega) bmq;refine za ?_;refine rc rfl rfl rfl rfl rfl rfl b2h (b67 (ow (ke (spl l) i) i k) ((ow (ke (spl l) i) i k).getD i default) ((bc ((ke (spl l) i).getD i default).lhs).getD k default)) (⟨CoC.one (an8 (by rw[aji,np])),CoC.refl _,CoC.refl _,trivial⟩) rfl rfl ?_;refine ce ?_;refine hcb ?_ ?_<;>intro h2
   ·
    refine w_7 ?_;refine rq rfl rfl rfl rfl rfl ?_ (hp:=(bjp _));refine db ?_
    first | (refine lpz (k+1) ⟨tt, ⟨⟨_, rfl, (an5 (i := i) (a := (bc ((ke (spl l) i).getD i default).lhs).getD k default) (l := (ow (ke (spl l) i) i k)) (by rw[ya bmq, atw hhas bmr]) (a68 _ _) bmq bmq hkl.symm)⟩, trivial⟩⟩ ?_; show k+1<=_; omega)
          |(refine lpz (k+1) ⟨tt,⟨⟨_,rfl,(ku (by rw[ya bmq,asi bmr]) rfl)⟩,trivial⟩⟩ ?_;show k+1<=_;omega)
   refine w_5 ?_
   first | (refine lpz (k+1) ⟨tt, ⟨⟨_, rfl, (an5 (i := i) (a := (bc ((ke (spl l) i).getD i default).lhs).getD k default) (l := (ow (ke (spl l) i) i k)) (by rw[ya bmq, atw hhas bmr]) (a68 _ _) bmq bmq hkl.symm)⟩, trivial⟩⟩ ?_; show k+1<=_; omega)
         |(refine lpz (k+1) ⟨tt,⟨⟨_,rfl,(ku (by rw[ya bmq,asi bmr]) rfl)⟩,trivial⟩⟩ ?_;show k+1<=_;omega)
  obtain rfl:k=(bc ((ke (spl l) i).getD i default).lhs).length:=by omega
  refine w_5 ?_;exact lpx (i+1) ⟨tt,⟨⟨_,rfl,(ku (by rw[as7,axf rfl]) rfl)⟩,trivial⟩⟩
 obtain rfl:i=(spl l).length:=by omega
 refine w_2 ?_;refine bh 3 rfl rfl rfl ?_;refine w_2 ?_;refine rc rfl rfl rfl rfl rfl rfl amc (bbs (ke (spl l) (spl l).length) (by rw[np];omega)) (⟨CoC.one (an8 (by rw[np])),trivial⟩) rfl rfl ?_;refine w_4 ?_;have hrl:=aba l;refine w_4 ?_;refine b7 (ι:=List Fd×Nat) kn km (fun x=>⟨[(3,some (bo (fdl x.1))),(7,some (vI x.2))],[]⟩) (fun x=>sa (x.1.length-x.2) x.1 x.2=aie l/\x.2<=x.1.length/\x.1.length<=131072) (fun x=>x.1.length-x.2) ((a06 l,0)) (⟨rfl,bio _,by show(a06 l).length<=_;omega⟩) ⟨⟨zy,⟨_,rfl,(coi rfl)⟩,trivial⟩,trivial⟩ ?_;rintro x ⟨hx,hx2,hx3⟩;refine w_8 ?_;refine hcd ?_ ?_<;>intro h3
 ·
  refine w_6 ?_;refine qcx b25 (b9w x.1 x.2 bmq bmq) ?_;refine ce ?_;refine az _ rfl ?_ ?_<;>intro r4
  ·
   have h4:=r4;have hq:=r4;refine w_3 ?_;refine qcx ank (amm x.1 x.2 bmq bmq) ?_;refine w_2 ?_
   first | (refine ⟨(kp x.1 x.2, x.2), ?_, ?_, ?_⟩
            · have ho:=lp (l:=x.1) (i:=x.2) bmq
              exact⟨by rw[<- hx,alz bmq hq],by dsimp only;omega,by dsimp only;omega⟩
            · have ho:=lp (l:=x.1) (i:=x.2) bmq
              dsimp only;omega
            exact⟨⟨zy,⟨_,rfl,(coi bmv)⟩,trivial⟩,trivial⟩)
         |(refine lpz (x.1,x.2+1) ⟨⟨zy,⟨_,rfl,(coi bmv)⟩,trivial⟩,trivial⟩ ?_;exact⟨by rw[<- hx,amw bmq hq],by dsimp only;omega,by dsimp only;omega⟩)
  have h4:=r4;have hq:=r4;refine w_5 ?_
  first | (refine ⟨(kp x.1 x.2, x.2), ?_, ?_, ?_⟩
           · have ho:=lp (l:=x.1) (i:=x.2) bmq
             exact⟨by rw[<- hx,alz bmq hq],by dsimp only;omega,by dsimp only;omega⟩
           · have ho:=lp (l:=x.1) (i:=x.2) bmq
             dsimp only;omega
           exact⟨⟨zy,⟨_,rfl,(coi bmv)⟩,trivial⟩,trivial⟩)
        |(refine lpz (x.1,x.2+1) ⟨⟨zy,⟨_,rfl,(coi bmv)⟩,trivial⟩,trivial⟩ ?_;exact⟨by rw[<- hx,amw bmq hq],by dsimp only;omega,by dsimp only;omega⟩)
 have hq:=h3;refine v_6 ?_;exact⟨CoC.one (CoP.of_eq (by rw[<- hx,ats bmq])),trivial⟩
end
section
def zx(n:Int)(l:List Fd):List Fd:=if cg n l=0 then aie l else[]
def b7x{n:Int}{l:List Fd}(h:cg n l=0):zx n l=aie l:=if_pos h
def b5b{n:Int}{l:List Fd}(h:¬cg n l=0):zx n l=[]:=if_neg h
def bds{s:Nat}{cl:Bool}{f:Nat->Nat->PV}{L:List Fd}(h:L=[]):CoP (.sl 0 s cl f) (fdl L):=by subst h;exact aid
def b5k{s:Nat}{cl:Bool}{f:Nat->Nat->PV}{L:List AS}(h:L=[]):CoP (.sl 0 s cl f) (asl L):=by subst h;exact aid
def bhz(l:List Fd)(i k:Nat):List Fd:=(List.range k).foldl (s6 i) l
end
section
open Go.Proofs
def b4h:a6 bnb 125:=wgx Tryz.func125
def bcr (n:Int) (l:List Fd):aa bnb 125 [pI n,pP (fdl l)] (ag [pP (fdl (zx n l)),pI (cg n l)]):=by
 refine hpx (nt:=15) Tryz.func125 ?_;refine db ?_;refine qcx a15 (abd n l) ?_;refine w_7 ?_;refine hcn ?_ ?_<;>intro h0
 · refine v_6 ?_;exact⟨CoC.one (bds (b5b bmr)),CoC.refl _,trivial⟩
 refine w_4 ?_;refine qcx b0x (bdn l (by have:=(n7 bmr).2.2.1;omega)) ?_;refine v_3 ?_;exact⟨CoC.one (CoP.of_eq (by rw[b7x bmr])),cci bmq,trivial⟩
end
section
def a9t (a b:Nat):a&&&b=2*(a/2&&&b/2)+(a%2&&&b%2):=by
 have h1:=Nat.div_add_mod (a&&&b) 2
 have h2:(a&&&b)%2=a%2&&&b%2:=by
  have:=Nat.and_mod_two_pow (a:=a) (b:=b) (n:=1);simpa using this
 rw[Nat.and_div_two,h2]at h1;exact h1.symm
def amu (a b:Nat):(a%2&&&b%2)=if a%2=1/\b%2=1 then 1 else 0:=by
 rcases Nat.mod_two_eq_zero_or_one a with h|h<;>rcases Nat.mod_two_eq_zero_or_one b with k|k<;>rw[h,k]<;>rfl
def ae0 {x s:Nat} (h:x&&&s=x):(x/2&&&s/2=x/2)/\(x%2=1->s%2=1):=by
 have h1:=a9t x s;rw[h,amu]at h1;split at h1<;>rename_i hc
 · exact⟨by omega,fun _=>hc.2⟩
 exact⟨by omega,fun hx=>by omega⟩
def au8:∀(x s z:Nat),x&&&s=x->z&&&s=z->z<x->z<=((x-1)&&&s):=by
 intro x
 induction x using Nat.strongRecOn with
 | _ x ih =>
  intro s z hx hz hlt;obtain⟨x1,x2⟩:=ae0 hx;obtain⟨z1,z2⟩:=ae0 hz;rw[a9t (x-1) s,amu]
  rcases Nat.mod_two_eq_zero_or_one x with hb|hb
  · have e1:(x-1)/2=x/2-1:=by omega
    have e2:(x-1)%2=1:=by omega
    have:=ih (x/2) bmq (s/2) (z/2) x1 z1 bmq;rw[e1,e2];by_cases hs:s%2=1
    · rw[if_pos ⟨rfl,hs⟩];omega
    rw[if_neg (fun h=>hs h.2)];have:z%2=0:=by omega
    omega
  have e1:(x-1)/2=x/2:=by omega
  have e2:(x-1)%2=0:=by omega
  rw[e1,e2,x1,if_neg bmq];omega
section
variable {s:AS}
def ajl{z:AS}:sub z s<->z.toNat&&&s.toNat=z.toNat:=by
 rw[<- blj,BitVec.toNat_inj,er];constructor
 · intro h
   apply bke;intro k hk;rw[bk6]
   cases hz:z.getLsbD k with
   |false=>rfl
   |true=>rw[h k hk hz];rfl
 intro h i _ hi;rw[<- h,bk6]at hi;simp at hi;exact hi.2
def a2b (s:AS):Nat->AS->List AS
 |0,_=>[]
 |n+1,x=>x::if x=0 then[]else a2b s n ((x-1)&&&s)
variable {x:AS}
def aiw (h:x≠0):(x-1).toNat=x.toNat-1:=by
 have h0:x.toNat≠0:=fun e=>h (bk7 e);have:=x.isLt;rw[BitVec.toNat_sub];show(2^32-1+x.toNat)%2^32=_;omega
def a81:sub ((x-1)&&&s) s:=by
 rw[ajl,blj,Nat.and_assoc,Nat.and_self]
def a0u (h:x≠0):((x-1)&&&s).toNat<x.toNat:=by
 have h0:x.toNat≠0:=fun e=>h (bk7 e);rw[blj,aiw h];have:((x.toNat-1)&&&s.toNat)<=x.toNat-1:=Nat.and_le_left;omega
def ag2 {z:AS} (hx:sub x s) (hz:sub z s) (h:z.toNat<x.toNat):z.toNat<=((x-1)&&&s).toNat:=by
 have h0:x≠0:=fun e=>by subst e;exact absurd h (bip _)
 rw[blj,aiw h0];exact au8 _ _ _ (ajl.1 hx) (ajl.1 hz) h
def ahe:∀(n:Nat) (x:AS),sub x s->x.toNat<n->∀z,z∈a2b s n x<->sub z s/\z.toNat<=x.toNat
 |0,x,_,h,z=>absurd h (bip _)
 | n + 1,x,hx,h,z=>by
  unfold a2b;by_cases h0:x=0
  · rw [if_pos h0,bjb]
    subst h0;constructor
    · rintro rfl;exact⟨hx,bil _⟩
    rintro⟨_,h⟩;exact bk7 (Nat.le_antisymm h (bio _))
  rw[if_neg h0,biv,ahe n _ a81 (by have:=a0u (s:=s) h0;omega)];constructor
  · rintro (rfl|⟨h1,h2⟩)
    · exact⟨hx,bil _⟩
    have:=a0u (s:=s) h0;exact⟨h1,by omega⟩
  rintro⟨h1,h2⟩;by_cases he:z=x
  · exact .inl he
  have hne:z.toNat≠x.toNat:=fun e=>he (bk7 e);exact .inr ⟨h1,ag2 hx h1 bmq⟩
def a2t(s:AS):List AS:=ord (a2b s (s.toNat+1) s)
def sub_self(s:AS):sub s s:=by rw[ajl,Nat.and_self]
def ayq{z:AS}(h:sub z s):z.toNat<=s.toNat:=by rw[<- ajl.1 h];exact Nat.and_le_right
def aqh {z:AS}:z∈a2t s<->sub z s:=by
 unfold a2t;rw[adf,ahe _ _ (sub_self s) (bmp _)];exact⟨fun h=>h.1,fun h=>⟨h,ayq h⟩⟩
def aux{l:List AS}(ho:ut l)(h:∀z,z∈l<->sub z s):l=a2t s:=zi ho (a21 _) fun z=>by rw[h z];exact aqh.symm
def d8(s:AS):List AS:=if 12<bsz s then[]else a2t s
def b2j(h:(12:Int)<bsz s):d8 s=[]:=if_pos bmq
def b3h(h:¬(12:Int)<bsz s):d8 s=a2t s:=if_neg bmq
def aaf(s:AS)(y:List AS×AS):Prop:=sub y.2 s/\y.1.length+y.2.toNat<=s.toNat+1/\∀z,z∈y.1<->sub z s/\y.2.toNat<=z.toNat
def aql (s:AS):aaf s ([s],s):=⟨sub_self s,by simp only[bkz];omega,fun z=>by
 rw[bjb];constructor
 · rintro rfl;exact⟨sub_self _,bil _⟩
 rintro⟨h1,h2⟩;exact bk7 (Nat.le_antisymm (ayq h1) h2)⟩
def arb{y:List AS×AS}(h:aaf s y)(h0:y.2≠0):aaf s (y.1++[(y.2-1)&&&s],(y.2-1)&&&s):=by
 obtain⟨h1,h2,h3⟩:=h;have hl:=a0u (s:=s) h0;refine⟨a81,by simp only[biq,bkz];omega,fun z=>?_⟩;rw[bj1,bjb,h3];constructor
 · rintro (⟨k1,k2⟩|rfl)
   · exact⟨k1,by dsimp only;omega⟩
   exact⟨a81,bil _⟩
 rintro⟨k1,k2⟩;dsimp only at k2;by_cases hz:y.2.toNat<=z.toNat
 · exact .inl ⟨k1,hz⟩
 have:=ag2 h1 k1 bmq;exact .inr (bk7 bmq)
def av0 {y:List AS×AS} (h:aaf s y) (h0:y.2=0):ord y.1=a2t s:=aux (a21 _) fun z=>by
 rw[adf,h.2.2,h0];exact⟨fun h=>h.1,fun h=>⟨h,bio _⟩⟩
def nxt(x s:Nat):Nat:=if x=s then s+1 else((2^64+x-s)&&&s)
def UpI (s:AS) (k:Nat) (y:List AS×Nat):Prop :=
 (y.2=s.toNat+1\/y.2&&&s.toNat=y.2)/\y.1.length<=k*4294967296+y.2/\ut y.1/\∀z,z∈y.1<->sub z s/\(bsz z<k\/bsz z=k/\z.toNat<y.2)
def UpK(s:AS)(k:Nat)(l:List AS):Prop:=l.length<=k*4294967296/\ut l/\∀z,z∈l<->sub z s/\bsz z<k
abbrev pU(n:Nat):PC:=.one (.raw (.int .u64 (n:Int)))
abbrev vU(n:Nat):HR:=bo (.raw (.int .u64 (n:Int)))
def akp(h:x≠0):d6 .and .u32 (asI x-1) (asI s)=asI ((x-1)&&&s):=by rw[akk h,z8]
def oj {α:Type} [Inhabited α] {wr wr':Bool} {e:TypeId} {c:α->Nat->PV} {x:α} {f:Nat->Nat->PV} (h:CoP (f 0 0) (c x 0)) (hw:wr'=true->wr=true:=by exact fun h=>h):CoO (.arr wr 1 e 1 f) (.arr wr' 1 e [x].length (lf c [x])) :=
 ⟨hw,rfl,rfl,rfl,fun i j hi hj=>by
  have hi:i<1:=hi;have hj:j<1:=hj;obtain rfl:j=0:=by omega
  obtain rfl:i=0:=by omega
  exact h⟩
end
end
section
open Go.Proofs
def at2:a6 bnb 54:=wgx Tryz.func54
def ayl (s:AS):aa bnb 54 [pA s] (ag [pP (asl (d8 s))]):=by
 refine hpx (nt:=23) Tryz.func54 ?_;refine w_8 ?_;refine qcx a5t (afq s) ?_;refine w_2 ?_;refine hcd ?_ ?_<;>intro h0
 · refine v_4 ?_;exact⟨CoC.one (b5k (b2j h0)),trivial⟩
 refine w_4 ?_;refine m9 0 ?_;refine w_9 ?_;refine b7 (ι:=List AS×AS) (ka 0 kn) km (fun y=>⟨[(3,some (.v (.one (.ref 0 y.1.length)))),(4,some (vA y.2))],[(0,some (.arr true 1 35 y.1.length (lf sC y.1)))]⟩) (fun y=>aaf s y) (fun y=>y.2.toNat) (([s],s)) (aql s) ⟨tt,⟨⟨_,rfl,(oj (CoP.refl _))⟩,trivial⟩⟩ ?_;rintro y hy;have hlen:=hy.2.1;have hsl:=s.isLt;refine w_6 ?_;refine hcn ?_ ?_<;>intro h1
 ·
  have hne:y.2≠0:=fun e=>h1 (by rw[e];rfl);refine w_5 ?_;refine rq rfl rfl rfl rfl rfl ?_ (hp:=(agj hne));refine w_7 ?_;refine m9 1 ?_;refine r9 2 true ?_;refine w_2 ?_;refine⟨(y.1++[(y.2-1)&&&s],(y.2-1)&&&s), ?_, ?_, ?_⟩
  · exact arb hy hne
  · exact a0u hne
  exact⟨⟨⟨_,rfl,(bq rfl)⟩,⟨_,rfl,(nk (akp hne))⟩,tt⟩,⟨⟨_,rfl,(bn rfl (CoP.of_eq (by rw[akp hne];rfl)))⟩,trivial⟩⟩
 have hz:y.2=0:=dq.1 h1;refine w_2 ?_;refine bh 3 rfl rfl rfl ?_;refine w_2 ?_;refine qcx a6i (ag8 y.1 bmq) ?_;refine v_2 ?_;exact⟨CoC.one (CoP.of_eq (by rw[b3h h0,av0 hy hz])),trivial⟩
end
section
def bea(l:List Fd)(p x:AS):Bool:=decide (clo l x&&&p≠x)&&decide (clo l x&&&p≠p)
def ayh(l:List Fd)(p:AS):Option AS:=(d8 p).find? (bea l p)
def bda(l:List Fd)(p x:AS):Fd:=⟨x,(clo l x&&&p)&&&~~~x⟩
def afw (l:List Fd) (p:AS):Fd:=match ayh l p with
 |some x=>bda l p x
 |none=>⟨0,0⟩
def vv(l:List Fd)(p:AS):Bool:=(ayh l p).isSome
def ae6 {s:AS}:∀(n:Nat) (x:AS),(a2b s n x).length<=x.toNat+1
 |0,x=>bio _
 | n+1,x=>by
  unfold a2b;by_cases h0:x=0
  · rw[if_pos h0];simp
  rw[if_neg h0,bjv];have h1:=ae6 (s:=s) n ((x-1)&&&s);have h2:=a0u (s:=s) h0;omega
def ym (s:AS):(d8 s).length<=4294967296:=by
 unfold d8 a2t;have h1:=ae6 (s:=s) (s.toNat+1) s;have h2:=w4 (a2b s (s.toNat+1) s);have h3:=s.isLt;split
 · simp
 omega
end
section
open Go.RowKit
section
variable {w0:World}{nt:Nat}{c:Ctx}{s:S}{a:Act}{w:World}
def ai.short(h:ai w0 nt c s a w){id id' sz n m:Nat}{el:TypeId}{f:Nat->Nat->PV}(ho:s.o id=some (.arr true sz el n f))(hm:m<=n)(hnm:NM s id')(hno:s.o id'=none){u:Value}(hu:b9 c s.o (.win id n 0 m) u) :
 ∃c',c'.old=c.old/\ai w0 nt c' ((s.setO id none).setO id' (some (.arr true sz el m f))) a w/\al c' ((s.setO id none).setO id' (some (.arr true sz el m f))).o (.v (.one (.ref id' m))) u:=by
 have hne:id≠id':=fun e=>by rw[<- e,ho]at hno;cases hno
 obtain⟨ad,ad',cap,q1,q2,q3,q4,q5,q6⟩:=a5v hu ho rfl;obtain⟨h0,h1,h5⟩:=h.objs id _ ho
 have hold:∀k ob,((s.setO id none).setO id' (some (.arr true sz el m f))).o k=some ob->k≠id'->s.o k=some ob/\k≠id:=fun k ob hk hk'=>by
  simp only[S.setO,if_neg hk']at hk;by_cases hki:k=id
  · subst hki;simp at hk
  rw[if_neg hki]at hk;exact⟨hk,hki⟩
 obtain ⟨bk,hbk,hok⟩:∃bk:Nat->Prop,(∀b,bk b->c.blk id b)/\∀c':Ctx,c'.imm=c.imm->c'.own id'=u->c'.blk id'=bk->∀o':am,df 0 c' o' w id' (.arr true sz el m f):=by
  rcases h5 with⟨h6,xs,h2,h4⟩|⟨h6|h6,h7,h8⟩
  · obtain ⟨hxl,hrow⟩:=h2
    rcases hrow with⟨hv0,hz⟩|⟨g,cap',cur,hown,hbase,hheap,hnc,hcm,hcs,htake⟩
    · rw [hv0]at q1
      simp only[Value.slice.injEq]at q1;obtain⟨rfl,_,rfl⟩:=q1;obtain rfl:n=0:=by omega
      obtain rfl:m=0:=by omega
      refine⟨noB,fun b hb=>hb.elim,fun c' e1 e2 e3 o'=>⟨h0,bio _, .inr ⟨.inr rfl,e3, ?_⟩⟩⟩;rw[e2,q2];exact⟨ad',0,rfl,bil _,bio _,fun _=>rfl,fun h=>absurd h (bl7 0)⟩
    rw[hown]at q1;simp only[Value.slice.injEq,true_and]at q1;obtain⟨rfl,rfl⟩:=q1;by_cases hcap:cap'=0
    · subst hcap
      obtain rfl:m=0:=by omega
      refine⟨noB,fun b hb=>hb.elim,fun c' e1 e2 e3 o'=>⟨h0,bio _, .inr ⟨.inr rfl,e3, ?_⟩⟩⟩;rw[e2,q2];exact⟨ad',0,rfl,bil _,bio _,fun _=>rfl,fun h=>absurd h (bl7 0)⟩
    obtain rfl:=q6 bmq;simp only[bjd,d5,Nat.zero_mul,bkh,Nat.sub_zero]at q2;have hmul:m*sz<=n*sz:=biy _ hm;refine⟨dx u,fun b hb=>by rw[h6,hown];rw[q2]at hb;exact hb,fun c' e1 e2 e3 o'=>⟨h0,bj2 hm h1, .inl ⟨by rw[e2,e3],xs.take (m*sz),⟨by rw[bjc,hxl,bjw hmul], .inr ⟨g,cap',cur,by rw[e2,q2],hbase,hheap,by omega,hcm,hcs, ?_⟩⟩,fun i j hi hj=>?_⟩⟩⟩
    · rw[<- htake,List.take_take,bjw hmul]
    obtain⟨x,hx,hr⟩:=h4 i j bmq hj;refine⟨x, ?_,by rw[e1];exact hr⟩;rw[bjs,if_pos (acj hi hj)];exact hx
  · cases h6
  subst h6;obtain rfl:m=0:=by omega
  refine⟨noB,fun b hb=>hb.elim,fun c' e1 e2 e3 o'=>⟨h0,bio _, .inr ⟨.inr rfl,e3, ?_⟩⟩⟩;obtain⟨ad2,cap2,r1,r2,r3,r4,_⟩:=h8;rw[q1]at r1;simp only[Value.slice.injEq,true_and]at r1;obtain⟨rfl,rfl⟩:=r1;obtain rfl:cap=0:=r4 rfl;rw[e2,q2];exact⟨ad',0,rfl,bil _,bio _,fun _=>rfl,fun h=>absurd h (bl7 0)⟩
 have hevo:∀k,k≠id'->Evo c s.o { c with own:=fun k=>if k=id' then u else c.own k,blk:=fun k=>if k=id' then bk else c.blk k } ((s.setO id none).setO id' (some (.arr true sz el m f))).o k:=fun k hk=>by
  by_cases hki:k=id
  · subst hki
    exact .inl (by simp[S.setO,hk])
  exact Evo.of_same (by simp[S.setO,hk,hki]) (by simp[hk])
 refine⟨{ c with own:=fun k=>if k=id' then u else c.own k,blk:=fun k=>if k=id' then bk else c.blk k },rfl,⟨h.defers,h.size,h.below,fun d x hx=>?_,fun k ob hk=>?_,fun i i' obi obi' b hi hi' hb hb'=>?_,h.imm,fun k ob b hk hb=>?_,h.was,h.frm,fun k ob b hk hb=>?_,fun k hk=>?_⟩, ?_⟩
 · exact(h.tmps d x hx).evo (Imm.le.refl c.imm) fun k hkm=>hevo k (by rintro rfl;exact hnm.1 d x hx hkm)
 · by_cases hk':k=id'
   · subst hk'
     obtain rfl:ob=.arr true sz el m f:=by simpa [S.setO]using hk.symm
     refine hok _ ?_ ?_ ?_ _<;>first|rfl|exact if_pos rfl
   obtain⟨hk1,hk2⟩:=hold k ob hk hk';exact(h.objs k ob hk1).keep (Imm.le.refl c.imm) (by simp[hk']) (by simp[hk']) (fun j hj=>hevo j (by rintro rfl;exact hnm.2.1 k ob hk1 hj)) fun b _=>rfl
 · have hone:∀k ob b,k≠id'->((s.setO id none).setO id' (some (.arr true sz el m f))).o k=some ob->c.blk k b->bk b->False:=fun k ob b hk' hk hb hbb=>by
    obtain⟨hk1,hk2⟩:=hold k ob hk hk';exact hk2 (h.inj k id ob _ b hk1 ho hb (hbk b hbb))
   by_cases e1:i=id'
   · by_cases e2:i'=id'
     · rw[e1,e2]
     exact(hone i' obi' b e2 hi' (by simpa [e2]using hb') (by simpa [e1]using hb)).elim
   by_cases e2:i'=id'
   · exact(hone i obi b e1 hi (by simpa [e1]using hb) (by simpa [e2]using hb')).elim
   exact h.inj i i' obi obi' b (hold i obi hi e1).1 (hold i' obi' hi' e2).1 (by simpa [e1]using hb) (by simpa [e2]using hb')
 · by_cases hk':k=id'
   · exact h.sep id _ b ho (hbk b (by simpa [hk']using hb))
   exact h.sep k ob b (hold k ob hk hk').1 (by simpa [hk']using hb)
 · by_cases hk':k=id'
   · exact h.fsep id _ b ho (hbk b (by simpa [hk']using hb))
   exact h.fsep k ob b (hold k ob hk hk').1 (by simpa [hk']using hb)
 · exact(h.fixed k hk).trans (hevo k (by have:=hnm.2.2;omega))
 refine⟨hu.1,fun l=>by simp[S.setO],fun ob2 s2 e2 n2 ho2 hd2=>?_⟩;simp only[S.setO,if_true,bij]at ho2;subst ho2;simp only[ae.dim,bij,bim]at hd2;obtain⟨rfl,rfl,rfl⟩:=hd2;exact⟨bil _,fun _=>by simp⟩
end
section
variable {ro:Option Nat}{P:Program}{nt:Nat}{st:HSt}{Q:Exit->HSt->Prop}
def awk {c:Code} (d id2:Nat) {id n n' i m s:Nat} {e:TypeId} {f:Nat->Nat->PV} (hd:b6 st.t d=some (.v (.one (.win id n i m)))) (ho:b6 st.o id=some (.arr true s e n' f)) (hn:n'=n) (hi:i=0) (hm:m<=n) (hnew:jx id2 st=true)
 (h:HW (ro:=ro) P nt c ⟨(d,some (.v (.one (.ref id2 m))))::st.t,(id2,some (.arr true s e m f))::(id,none)::st.o⟩ Q):HW (ro:=ro) P nt c st Q:=by
 subst hn hi;obtain⟨hnm,hno⟩:=dp hnew;refine uh ⟨st.t,(id2,some (.arr true s e m f))::(id,none)::st.o⟩ d (.v (.one (.ref id2 m))) (fun w0 m0 a w hr=>?_) h;obtain⟨cc,hold,hrr⟩:=hr;obtain⟨c',e1,e2,e3⟩:=hrr.short ho hm hnm hno (hrr.tmps d _ hd)
 have e4:(HSt.den ⟨st.t,(id2,some (.arr true s e m f))::(id,none)::st.o⟩)=(st.den.setO id none).setO id2 (some (.arr true s e m f)):=by
  unfold HSt.den S.setO;simp[ay]
 exact⟨c',e1.trans hold,by rw[e4];exact e2,by rw[e4];exact e3⟩
def ae3 {c:Code} (d id2:Nat) {id n n' s:Nat} {e:TypeId} {f:Nat->Nat->PV} (hd:b6 st.t d=some (.v (.one (.ref id n)))) (ho:b6 st.o id=some (.arr true s e n' f)) (hn:n'=n) (hnew:jx id2 st=true)
 (h:HW (ro:=ro) P nt c ⟨(d,some (.v (.one (.ref id2 n))))::st.t,(id2,some (.arr true s e n f))::(id,none)::st.o⟩ Q):HW (ro:=ro) P nt c st Q:=by
 subst hn;obtain⟨hnm,hno⟩:=dp hnew;refine uh ⟨st.t,(id2,some (.arr true s e n' f))::(id,none)::st.o⟩ d (.v (.one (.ref id2 n'))) (fun w0 m0 a w hr=>?_) h;obtain⟨cc,hold,hrr⟩:=hr;have hu:b9 cc st.den.o (.ref id n') (a.tmps.getD d undef):=hrr.tmps d _ hd
 have hw:b9 cc st.den.o (.win id n' 0 n') (a.tmps.getD d undef):=by
  refine⟨hu.1,hu.2.1,fun ob s2 e2 n2 ho2 hd2=>⟨(hu.2.2 _ _ _ _ ho2 hd2).1,fun hk=>?_⟩⟩;have he:=(hu.2.2 _ _ _ _ ho2 hd2).2 hk;obtain rfl:ob=.arr true s e n' f:=Option.some.inj (ho2.symm.trans ho);simp only[ae.dim,bij,bim]at hd2;obtain⟨rfl,rfl,rfl⟩:=hd2;obtain⟨ad,cap,hv,hc1,hc2⟩:=a65 (hrr.objs _ _ ho2);exact⟨ad,ad,cap,hv,by rw[he,hv];rfl,by omega,hc1,hc2,fun _=>by cases ad<;>simp[a32]⟩
 obtain⟨c',e1,e2,e3⟩:=hrr.short ho (bil _) hnm hno hw
 have e4:(HSt.den ⟨st.t,(id2,some (.arr true s e n' f))::(id,none)::st.o⟩)=(st.den.setO id none).setO id2 (some (.arr true s e n' f)):=by
  unfold HSt.den S.setO;simp[ay]
 exact⟨c',e1.trans hold,by rw[e4];exact e2,by rw[e4];exact e3⟩
end
end
section
def afz {l:List AS} {k:Nat} (hk:l.length<=k) (h:∀j,0<j->j<k->¬l.getD j default=l.getD (j-1) default):j6 l=l:=by
 have:=su (bil l.length) fun j h1 h2=>h j h1 bmq;rw[biz]at this;exact this
def aey {l m:List AS} {k p q:Nat} (hC:CpI l k p q m) (hq:¬q<l.length):(j6 l).length=p/\m.take p=j6 l:=by
 have e:=hC.pre;have h1:=hC.ql;have h2:=hC.len;have h3:=hC.pq;rw[show q=l.length by omega,biz]at e;exact⟨by rw[<- e];simp;omega,e⟩
def b4g {l m:List AS} {k p q n a d:Nat} {z:List Value} {e:TypeId} (hC:CpI l k p q m) (hq:¬q<l.length) (ha:p<=a) (hn:n=p):CoO (.arr true 1 e n (qf (lf sC m) a d z)) (.arr true 1 e (j6 l).length (lf sC (j6 l))):=by
 obtain⟨h1,h2⟩:=aey hC hq;subst hn;refine⟨fun h=>h,rfl,rfl,h1,fun i j hi hj=>CoP.of_eq ?_⟩;show qf (lf sC m) a d z i j=lf sC (j6 l) i j;unfold qf;rw[if_neg bmq];simp only[lf,List.getD];have e:(j6 l)[i]? = m[i]?:=by rw[<- h2,bjs,if_pos hi]
 rw[e]
def fe{id n m:Nat}(h:n=m):CoR (.v (.one (.ref id n))) (.v (.one (.ref id m))):=by rw[h];exact CoR.refl _
end
section
open Go.Proofs
def aru(l:List AS):dv bnb 177 [.one (.ref 900 l.length)] [(900, .arr true 1 35 l.length (lf sC l))] (.v (.one (.ref 901 (j6 l).length))) [(901, .arr true 1 35 (j6 l).length (lf sC (j6 l)))] []:=by
 refine hfx (nt:=61) Tryz.func177 ?_;refine f4 ?_;refine afm 900 rfl fun hlen=>?_;refine db ?_;refine hcd ?_ ?_<;>intro h0
 · refine w_5 ?_;refine ae3 2 901 rfl rfl rfl rfl ?_;refine hrr ?_;have he:=afz (l:=l) (k:=l.length) (bil _) (fun j h1 h2=>by omega);exact⟨_,_,rfl,bms,fe (by rw[he]),⟨⟨_,rfl,ku he (by rw[he])⟩,trivial⟩⟩
 refine w_7 ?_;refine b7 (ι:=Nat) (ka 0 kn) (kb 900 km) (fun k=>⟨[(3,some (vI k))],[]⟩) (fun k=>1<=k/\k<=l.length/\∀j,0<j->j<k->¬l.getD j default=l.getD (j-1) default) (fun k=>l.length-k) (1) (⟨bil _,by omega,fun j h1 h2=>by omega⟩) kk ?_;rintro k ⟨hk1,hk,hI⟩;refine w_8 ?_;refine hcd ?_ ?_<;>intro h1
 ·
  refine za ?_;refine hcd ?_ ?_<;>intro h2
  ·
   refine kg ?_;refine b7 (ι:=Nat×Nat×List AS) (ka 0 (ka 4 kn)) km (fun x=>⟨[(3,some (vI x.1)),(5,some (vI ((x.2.1:Int)-k)))],[(900,some (.arr true 1 35 l.length (lf sC x.2.2)))]⟩) (fun x=>CpI l k x.1 x.2.1 x.2.2) (fun x=>l.length-x.2.1) ((k,k+1,l)) (CpI.start hk1 bmq hI (wa bmr rfl bmq)) ⟨⟨zy,⟨_,rfl,(coi bmv)⟩,trivial⟩,uu⟩ ?_;rintro⟨p,q,m⟩ hC;have hC0:=hC;obtain⟨hml,hkq,hpq,hql,_,_⟩:=hC0;dsimp only at hC hml hkq hpq hql;refine w_8 ?_;refine hcd ?_ ?_<;>intro h3
   ·
    simp only[gw,c8,bit]at h3;refine za ?_;refine hcn ?_ ?_<;>intro h4
    ·
     refine ay2 ?_
     first | (refine lpz (p+1, q+1, m.set p (m.getD q default)) ⟨⟨⟨_, rfl, (coi bmy)⟩, ⟨_, rfl, (coi bmy)⟩, tt⟩, ⟨⟨_, rfl, (qt id hml.symm bmq (by dsimp only; omega) bn0)⟩, trivial⟩⟩ ?_; exact hC.keep bmq (w7 bmr bn0 bn0))
           |(refine lpz (p,q+1,m) ⟨⟨⟨_,rfl,(coi bmv)⟩,⟨_,rfl,(coi bmv)⟩,tt⟩,uu⟩ ?_;exact hC.skip bmq (wa bmr bn3 bn3))
    refine w_6 ?_
    first | (refine lpz (p+1, q+1, m.set p (m.getD q default)) ⟨⟨⟨_, rfl, (coi bmy)⟩, ⟨_, rfl, (coi bmy)⟩, tt⟩, ⟨⟨_, rfl, (qt id hml.symm bmq (by dsimp only; omega) bn0)⟩, trivial⟩⟩ ?_; exact hC.keep bmq (w7 bmr bn0 bn0))
          |(refine lpz (p,q+1,m) ⟨⟨⟨_,rfl,(coi bmv)⟩,⟨_,rfl,(coi bmv)⟩,tt⟩,uu⟩ ?_;exact hC.skip bmq (wa bmr bn3 bn3))
   simp only[gw,c8,bit]at h3;refine w_6 ?_;refine r9 0 true ?_;refine w_8 ?_;refine awk 2 901 rfl rfl rfl rfl (by simp only[gw,c8,bit];omega) rfl ?_;refine hrr ?_;have he:=(aey hC bmq).1;exact⟨_,_,rfl,bms,fe (by rw[he];simp[gw,c8]),⟨⟨_,rfl,b4g hC bmq (by simp[c8]) (by simp[gw,c8])⟩,trivial⟩⟩
  refine w_6 ?_;refine lpz (k+1) kk ?_;refine⟨by omega,by show k+1<=_;omega,fun j h1 h2=>?_⟩
  rcases Nat.lt_or_eq_of_le (Nat.le_of_lt_succ h2)with h|h
  · exact hI j h1 h
  subst h;exact w7 bmr rfl bmq
 refine w_6 ?_;refine ae3 2 901 rfl rfl rfl rfl ?_;refine hrr ?_;have he:=afz (l:=l) (k:=k) bmq hI;exact⟨_,_,rfl,bms,fe (by rw[he]),⟨⟨_,rfl,ku he (by rw[he])⟩,trivial⟩⟩
def b05 (l:List AS) (hl:l.length<=8589934592):dv bnb 108 [.one (.p (asl l))] [] (.v (.one (.ref 901 (ord l).length))) [(901, .arr true 1 35 (ord l).length (lf sC (ord l)))] []:=by
 refine hfx (nt:=10) Tryz.func108 ?_;refine w_7 ?_;refine fc9 adc (adk l.length false (lf sC l) bmq) trivial ?_;refine w_5 ?_;refine fc9 alx (ayn 0 _ l hl) uu ?_;refine w_4 ?_;refine sn rfl rfl rfl rfl rfl rfl anm ((aru (srt l)).swap 900 0) (⟨congrArg (HV.ref 0) (a5w l).symm,trivial⟩) ⟨⟨_,rfl,ku rfl (a5w l).symm⟩,trivial⟩ rfl rfl ?_;refine w_2 ?_;refine hrr ?_;exact⟨_,_,rfl,bms,fe (by rw[a2j]),⟨⟨_,rfl,ku (a2j _).symm (by rw[a2j])⟩,trivial⟩⟩
end
end Go.Hx

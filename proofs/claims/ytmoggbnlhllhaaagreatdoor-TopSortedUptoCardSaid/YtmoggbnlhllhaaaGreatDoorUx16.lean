/- A part of the proof: SrW Cs10 V8 Cs11 Gr V9 Cs12 V10 Cs13 V11 Cs14 V12 Cs15 V13 Cs16 Hx24 Cs17. -/
import Derived.Shelf.SlSortCmp.NoneTotal
import Derived.Test.YtmoggbnlhllhaaaGreatDoorUx14
import Derived.Test.YtmoggbnlhllhaaaGreatDoorUx15
set_option linter.all false
set_option maxRecDepth 100000
namespace Go.Hx
section
open Go.Proofs Go.RowKit Go.Sort
section
variable {w:World}
def aqy{w':World}(h:Below w.heap.size w w'):∃q os,w'=grow (w.drewN q) os:=by
 refine⟨w'.drawn-w.drawn,w'.heap.extract w.heap.size w'.heap.size, ?_⟩;have hd:=h.drawn;obtain⟨h1,h2,h3,h4,h5,_⟩:=h
 cases w with
 |mk hp tp dr os out =>
 cases w' with
 |mk hp' tp' dr' os' out' =>
 dsimp only at *;subst h1 h2 h3;unfold grow World.drewN;simp only[World.mk.injEq,true_and,and_true];refine⟨?_,by omega⟩;apply Array.ext_getElem?;intro k;rw[Array.getElem?_append];by_cases hk:k<hp.size
 · rw[if_pos hk,h5 k hk]
 rw[if_neg hk,Array.getElem?_extract];by_cases hk2:k<hp'.size
 · rw [if_pos bpw]
   congr 1;omega
 rw[if_neg bpw,bp3 bpw]
variable {os:Array Obj}{α:Type}{d:Array α}{enc:α->Value}
def ara [Inhabited α] {g m:Nat} {cur:Array Value} {e:TypeId} {fr:Nat×Nat} (h:w.heap[g]? = some (.cells cur e fr)):
 (sortWorld enc w g 0 m d os).heap[g]? = some (.cells (putCells enc 0 d cur) e fr):=by
 have hlt:=(bm5.1 h).1;unfold sortWorld;rw[heap_grow_old _ _ (by simpa using hlt)];unfold putRow mapBlock;simp only[heap_ahead,bp9,if_true,h];rfl
def a3n [Inhabited α] {g m:Nat} {b:Nat} (hb:b<w.heap.size) (hne:b≠g):(sortWorld enc w g 0 m d os).heap[b]? = w.heap[b]?:=by
 unfold sortWorld;rw[heap_grow_old _ _ (by simpa using hb)];unfold putRow mapBlock;simp only[heap_ahead,bp9,if_neg (Ne.symm hne)]
def aq8 [Inhabited α] {g m:Nat}:Below 0 w (sortWorld enc w g 0 m d os) :=
 ⟨rfl,rfl,rfl,by unfold sortWorld;simp,fun k hk=>absurd hk (bm6 k),by unfold sortWorld grow;simp⟩
def ay4[Inhabited α]{cur:Array Value}(h:d.size<=cur.size):(putCells enc 0 d cur).toList.take d.size=d.toList.map enc:=by
 apply bot;intro k;rw[bnb,bn1,bpa,bpa];by_cases hk:k<d.size
 · rw [if_pos hk]
   unfold putCells;rw[Array.getElem?_mapIdx,bno bpw,bno hk];simp only[bmq,bn9,Nat.sub_zero];rw[if_pos ⟨bm3 _,hk⟩,getElem!_pos d k hk]
 rw[if_neg hk,bp3 bpw];rfl
def au8{P:Program}{ρ:Go.Shelf.Ren}[Inhabited α](L:SlLaysF.n6 P ρ)(enc:α->Value)(h1:∀x,(enc x).oneCell'=true)(cf:α->α->Int)(hO:SWO (ltOf cf))(hT:∀x y,(ltOf cf) x y=false->(ltOf cf) y x=false->x=y)(g:Nat)(caps:Nat->PV)(hg:∀args w,(callFunc g args).run P w=.ok (.enter g args) w)(hc:∀x y,a7 P g [.one (.raw (enc x)), .one (.raw (enc y))] (af [.one (.raw (.int .i64 (cf x y)))]))(id:Nat)(e:TypeId)(l:List α)(hsz:l.length<=8589934592):
 dg P (ρ.f 6) [.one (.ref id l.length), .one (.p (.fn g 0 caps))] [(id, .arr true 1 e l.length (lf (fun x _=>.raw (enc x)) l))] (.tup [])
  [(id, .arr true 1 e l.length (lf (fun x _=>.raw (enc x)) (l.mergeSort fun x y=>!(ltOf cf) y x)))] [id]:=by
 intro w c us hM hus
 match us,hus with
 | [u,v],⟨hu,hv,_⟩ =>
  obtain⟨cs,rfl,hcl,_⟩:=hv;have hcs:cs=[]:=bns hcl;subst hcs;have hl1:lk [(id,aa.arr true 1 e l.length (lf (fun x _=>.raw (enc x)) l))] id=some (.arr true 1 e l.length (lf (fun x _=>.raw (enc x)) l)):=by simp[lk]
  have hu2:=(hu.2.2 _ _ _ _ hl1 rfl).2 rfl;subst hu2;have hob:=hM.objs id _ hl1;obtain⟨h0,hmax,h5⟩:=hob;have hlen:(l.mergeSort fun x y=>!(ltOf cf) y x).length=l.length:=List.length_mergeSort _
  have hev:∀f':Nat->Nat->PV,Evo c (lk [(id,aa.arr true 1 e l.length (lf (fun x _=>.raw (enc x)) l))]) c (lk [(id,aa.arr true 1 e l.length f')]) id:=fun f' =>
   .inr (.inr ⟨_, .arr true 1 e l.length f',1,e,l.length,l.length,hl1,rfl,by simp[lk],rfl,bm1 _,fun _=>rfl,fun _ _ _ _ _ _ _ h=>by cases h⟩)
  rcases bnp l.length with hz|hpos
  ·
   have hl:l=[]:=bns hz;subst hl
   have hform:∃ad cap,c.own id=.slice ad 0 cap:=by
    rcases h5 with⟨_,xs,h2,_⟩|⟨_,_,ad,cap,hv,_⟩
    · rcases h2.2 with⟨hv,_⟩|⟨g,cap,cur,hv,_⟩
      · exact⟨none,0,hv⟩
      exact⟨_,cap,hv⟩
    exact⟨ad,cap,hv⟩
   obtain⟨ad,cap,hown⟩:=hform;have hms:([]:List α).mergeSort (fun x y=>!(ltOf cf) y x)=[]:=by simp
   rw[hown,hms];refine(AnyF.slices_SortFunc_none { L with } ad cap (.func (.func g) #[] #[]) w).mono ?_;rintro e' w' ⟨rfl,rfl⟩
   exact ⟨_,c,rfl,⟨[],rfl,trivial⟩,hM,Below.refl _ _,fun _ _ _=>⟨rfl,rfl⟩,fun id0 ob b ho hb=>.inr ⟨id0,ob,ho,hb⟩,fun id0 hid=>by
    rw[bmu.1 hid]
    exact Evo.refl _ _ _⟩
  obtain ⟨h6,xs,h2,h4⟩:c.blk id=ep (c.own id)/\∃xs,w.ownsRow 0 e 1 (c.own id) l.length xs/\∀i j,i<l.length->j<1->∃x,xs[i*1+j]? = some x/\aq c.imm (lf (fun x _=>.raw (enc x)) l i j) x:=by
   rcases h5 with h5|⟨h6|h6,_⟩
   · exact h5
   · cases h6
   omega
  obtain⟨hxl,hrow⟩:=h2
  rcases hrow with⟨_,hz⟩|⟨b,cap,cur,hown,hbase,hheap,hnc,hcm,hcs,htake⟩
  · omega
  have hblk:c.blk id b:=by rw[h6,hown];rfl
  have hlt:b<w.heap.size:=(bm5.1 hheap).1
  have hcell:∀j,(hj:j<l.length)->cur[j]? = some (enc l[j]):=fun j hj=>by
   obtain⟨x,hx,hr⟩:=h4 j 0 hj bpw;rw[bp2,bnt,<- htake,bnb,if_pos bpw,bpa]at hx;rw[hx];have hr:x=enc (l.getD j default)/\_:=hr;rw[hr.1,bm7,blz hj];rfl
  have hH:Holds enc w b 0 l.toArray:=fun j hj=>by
   have hj:j<l.length:=by simpa using hj
   rw[bn9];refine⟨?_,by simp[World.frozen?,hheap]⟩;have:l.toArray[j]! = l[j]:=by rw[getElem!_pos l.toArray j (by simpa using hj)];simp
   rw[this];simp[World.cell?,hheap,hcell j hj]
  have hcmp:CmpLays1 P g #[] enc cf b 0 l.toArray.size w:=by
   intro m os dk hdk x y
   have hcimm:∀b' ob,c.imm b'=some ob->(sortWorld enc w b 0 m dk os).heap[b']? = some ob:=fun b' ob hb'=>by
    have hne:b'≠b:=fun he=>by
     have:=hM.sep id _ b hl1 hblk;rw[<- he,hb']at this;cases this
    have hw:=hM.imm b' ob hb';rw[a3n (bm5.1 hw).1 hne];exact hw
   have h:=hc x y (sortWorld enc w b 0 m dk os) c.imm [enc x,enc y] c.tab hcimm ⟨⟨rfl,h1 x⟩,⟨rfl,h1 y⟩,trivial⟩;refine h.mono ?_;rintro e' w' ⟨v,imm',rfl,hr,_,_,hb⟩;obtain⟨q,os',hq⟩:=aqy hb;exact⟨by rw[hr.1],q,os',hq⟩
  have hS:=Any.slices_SortFunc_total L enc h1 cf hO g #[] b 0 cap l.toArray w hg hcmp hH hlt (by rw[bnk];omega) hT;rw[hown];refine Calls.mono hS ?_;rintro e' w' ⟨rfl,m,os,rfl⟩;generalize hSd:(l.mergeSort fun x y=>!(ltOf cf) y x)=S at *
  refine ⟨_,c,rfl,⟨[],rfl,trivial⟩,⟨fun id0 ob ho=>?_,fun id0 id1 ob0 ob1 b' ho0 ho1 _ _=>(lq ho0).1.trans (lq ho1).1.symm,fun b' ob hb'=>?_,fun id0 ob b' ho hb'=>?_⟩,aq8,
   fun b' hb' hno=>⟨a3n hb' (fun he=>hno id _ hl1 (by rw[he];exact hblk)),rfl⟩,fun id0 ob b' ho hb'=>.inr ⟨id,_,hl1,by rw[<- (lq ho).1];exact hb'⟩,fun id0 hid=>by
    rw[bmu.1 hid]
    exact hev _⟩
  · obtain ⟨rfl,rfl⟩:=lq ho
    refine⟨h0,hmax, .inl ⟨h6,S.map enc,⟨by simp[hlen], .inr ⟨b,cap,putCells enc 0 S.toArray cur,hown,hbase,ara hheap,hnc,hcm,by simpa [putCells]using hcs, ?_⟩⟩,fun i j hi hj=>?_⟩⟩
    · have:=ay4 (enc:=enc) (d:=S.toArray) (cur:=cur) (by rw[bnk,hlen,hcs];omega)
      rw[bnk,hlen]at this;rw[bp2];exact this
    obtain rfl:j=0:=by omega
    have hi':i<S.length:=by rw[hlen];exact hi
    refine⟨enc S[i], ?_, ?_⟩
    · rw [bp2,bnt,bn1,blz hi']
      rfl
    show aq c.imm (.raw (enc (S.getD i default))) _;rw[bm7,blz hi'];exact⟨rfl,h1 _⟩
  · have hne:b'≠b:=fun he=>by
     have:=hM.sep id _ b hl1 hblk;rw[<- he,hb']at this;cases this
    have hw:=hM.imm b' ob hb';rw[a3n (bm5.1 hw).1 hne];exact hw
  have:=(lq ho).1;subst this;exact hM.sep id0 _ b' hl1 hb'
 | [],h=>exact h.elim
 | [_],⟨_,h⟩=>exact h.elim
 |_::_::_::_,⟨_,_,h⟩=>exact h.elim
def a1o{a b:AS}:ltOf a3q a b=bef a b:=awl
def axa:SWO (ltOf a3q) where
 irrefl x:=by rw[a1o];exact a1k x
 trans x y z h k:=by rw[a1o]at *;exact a01 h k
 ntrans x y z h k:=by
  rw[a1o]at *;rw[bmh,ne_eq,sd]at *;omega
def srt(l:List AS):List AS:=l.mergeSort fun x y=>!bef y x
def ao9:a6 bqh 175:=⟨Tryz.f175,Tryz.func175,by kernel_rfl,by kernel_rfl⟩
def b0v (id:Nat) (caps:Nat->PV) (l:List AS) (hsz:l.length<=8589934592):dg bqh 175 [.one (.ref id l.length), .one (.p (.fn 176 0 caps))] [(id, .arr true 1 35 l.length (lf sC l))] (.tup [])
 [(id, .arr true 1 35 l.length (lf sC (srt l)))] [id]:=by
 have h:=au8 Tryz.laysSort (fun s:AS=>.int .u32 (asI s)) (fun _=>rfl) a3q axa (fun x y h k=>by
  rw[a1o]at h k;apply Classical.byContradiction;intro hne
  rcases aej hne with h2|h2
  · rw[h]at h2;cases h2
  rw[k]at h2;cases h2) 176 caps (enters_of Tryz.func176 (by kernel_rfl) rfl) (fun x y=>axc x y) id 35 l hsz
 have e:(fun x y:AS=>!(ltOf a3q) y x)=fun x y=>!bef y x:=by
  funext x y;rw[a1o]
 rw[e]at h;exact h
def b41{l:List AS}{x:AS}:x∈srt l<->x∈l:=by unfold srt;exact List.mem_mergeSort
def a6x(l:List AS):(srt l).length=l.length:=List.length_mergeSort _
def a5t:∀{l:List AS} {p:Option AS},l.Pairwise (fun a b=>bef b a=false)->(∀x,p=some x->∀y∈l,bef y x=false)->(o7 p l).Pairwise (fun a b=>bef a b=true)/\∀x,p=some x->∀y∈o7 p l,bef x y=true
 | [],p,_,_=>⟨by simp[o7],fun x _ y hy=>by simp[o7]at hy⟩
 | z :: l,p,h,hp=>by
  obtain⟨h1,h2⟩:=bmn.1 h;simp only[o7];split
  · rename_i e
    subst e;exact a5t h2 fun x hx y hy=>hp x hx y (bmr _ hy)
  rename_i hne
  obtain ⟨q1,q2⟩:=a5t (p:=some z) h2 fun x hx y hy=>by
   simp only[bly]at hx;subst hx;exact h1 y hy
  refine⟨bmn.2 ⟨fun y hy=>q2 z rfl y hy,q1⟩,fun x hx y hy=>?_⟩
  have hxz:bef x z=true:=by
   have h3:=hp x hx z bmp
   rcases aej (a:=x) (b:=z) (fun e=>hne (by rw[hx,e]))with h4|h4
   · exact h4
   rw[h3]at h4;cases h4
  rcases bm9.1 hy with rfl|hy
  · exact hxz
  exact a01 hxz (q2 z rfl y hy)
def a34 (l:List AS):jg (srt l)=ord l:=by
 refine bbb (a5t ?_ fun x hx=>by cases hx).1 fun z=>by rw[ax7,b41]
 have h:=List.pairwise_mergeSort (le:=fun x y:AS=>!bef y x) (fun a b c h k=>by
  simp only[bn8]at *;rw[bmh,ne_eq,sd]at *
  omega) (fun a b=>by
  simp only[bnf,bn8];rw[bmh,bmh,ne_eq,ne_eq,sd,sd]
  omega) l
 refine h.imp fun {a b} hab=>?_;simpa using hab
end
end
section
abbrev bx(a:PV):PV:=.vp 1 fun j=>[a].getD j .any
def a5w(W:AS->AS->Bool)(l:List AS)(x:AS):Bool:=l.any fun b=>decide (x≠b)&&W x b
def aq2(W:AS->AS->Bool)(l:List AS):List AS:=(ord l).filter fun x=>!a5w W (ord l) x
def a9l(a b:AS):Bool:=decide (sub a b)
def o8(l:List AS):List AS:=aq2 a9l l
def aud (l:List AS):(ord l).Nodup:=(a35 l).imp fun {a b} h e=>by
 subst e;rw[a1k]at h;cases h
def okT(l:List AS)(i k:Nat):Bool:=(List.range k).all fun j=>decide (j=i)||!a9l (l.getD i default) (l.getD j default)
def bj0(l:List AS)(i:Nat):List AS:=((ord l).take i).filter fun x=>!a5w a9l (ord l) x
end
section
open Go.Proofs
def a0t:a6 bqh 108:=wgx Tryz.func108
def am4 (l:List AS) (hl:l.length<=8589934592):a7 bqh 108 [pP (asl l)] (af [pP (asl (ord l))]):=by
 refine hpx (nt:=10) Tryz.func108 ?_;refine w_7 ?_;refine fc9 ad5 (ad7 l.length false (lf sC l) bpw) trivial ?_;refine w_5 ?_;refine fc9 ao9 (b0v 0 _ l hl) uu ?_;refine w_4 ?_;refine nj rfl rfl rfl rfl rfl rfl ap2 ((ayx (srt l)).swap 900 0) (⟨congrArg (HV.ref 0) (a6x l).symm,trivial⟩) ⟨⟨_,rfl,ja rfl (a6x l).symm⟩,trivial⟩ rfl rfl ?_;refine v_2 ?_;exact⟨CoC.one (CoP.of_eq (by rw[a34])),trivial⟩
def b6j:a6 bqh 194:=wgx Tryz.func194
def b6l (b x:AS) (g k:Nat) (caps:Nat->PV) (W:AS->AS->Bool) (hg:a6 bqh g) (hW:∀x y,a7 bqh g (pA x::pA y::er caps k 0) (af [pB (W x y)])):a7 bqh 194 [pA b,pP (bx (asC x)),pP (bx (.fn g k caps))] (af [pB (decide (x≠b)&&W x b)]):=by
 refine hpx (nt:=14) Tryz.func194 ?_;refine eu ?_;refine am rfl rfl ?_ ?_<;>intro r0
 ·
  have h0:=tz2 (dc r0);(iterate 3 refine qy ?_ (hg:=(gtt r0)));refine rc rfl rfl rfl rfl rfl rfl hg (hW x b) (CoL.refl _) rfl (gtt r0) ?_;refine w_3 ?_
  exact hx8 rfl rfl rfl (⟨ccb (by simp_all [d7]),trivial⟩)
 have h0:=tz1 (df r0);(iterate 4 refine k9 (gft r0) ?_);refine w_3 ?_
 exact hx8 rfl rfl rfl (⟨ccb (by simp_all [d7]),trivial⟩)
def b6f:a6 bqh 193:=wgx Tryz.func193
def bc7 (x:AS) (l:List AS) (g k:Nat) (caps:Nat->PV) (W:AS->AS->Bool) (hg:a6 bqh g) (hW:∀x y,a7 bqh g (pA x::pA y::er caps k 0) (af [pB (W x y)])):a7 bqh 193 [pA x,pP (bx (asl l)),pP (bx (.fn g k caps))] (af [pB (a5w W l x)]):=by
 refine hpx (nt:=8) Tryz.func193 ?_;refine sx7 ?_;refine m9 0 ?_;refine w_3 ?_;refine c8 3 rfl rfl rfl ?_;refine w_3 ?_;refine qcx a7b (ahc l 194 2 (fun i=>[bx (asC x),bx (.fn g k caps)].getD i .any) (fun b=>decide (x≠b)&&W x b) b6j (fun b=>b6l b x g k caps W hg hW)) ?_;refine v_2 ?_;exact CoL.refl _
def b4z:a6 bqh 130:=wgx Tryz.func130
def bee (l:List AS) (hl:l.length<=8589934592) (g k:Nat) (caps:Nat->PV) (W:AS->AS->Bool) (hg:a6 bqh g) (hW:∀x y,a7 bqh g (pA x::pA y::er caps k 0) (af [pB (W x y)])):a7 bqh 130 [pP (asl l),pP (.fn g k caps)] (af [pP (asl (aq2 W l))]):=by
 refine hpx (nt:=12) Tryz.func130 ?_;refine sx7 ?_;refine m9 2 ?_;refine w_5 ?_;refine qcx a0t (am4 l hl) ?_;refine m9 3 ?_;refine w_3 ?_;refine c8 5 rfl rfl rfl ?_;refine c8 3 rfl rfl rfl ?_;refine w_2 ?_;refine fc9 ad5 (ad7 (ord l).length false (lf sC (ord l)) (bme (xx l) bpw)) trivial ?_;refine qy ?_;refine fc9 b4e ((bcw (ord l) 193 2 (fun i=>[bx (asl (ord l)),bx (.fn g k caps)].getD i .any) (a5w W (ord l)) b6f (fun x=>bc7 x (ord l) g k caps W hg hW)).swap 900 0) uu ?_;refine v_2 ?_;exact CoL.refl _
def b3v:a6 bqh 131:=wgx Tryz.func131
def bf4 (a b:AS):a7 bqh 131 [pA a,pA b] (af [pB (a9l a b)]):=by
 refine hpx (nt:=9) Tryz.func131 ?_;refine l6 ?_;exact hx8 rfl rfl rfl (⟨ccb (decide_eq_decide.2 gv),trivial⟩)
def atj:a6 bqh 73:=wgx Tryz.func73
def ajn (l:List AS) (hl:l.length<=8589934592):a7 bqh 73 [pP (asl l)] (af [pP (asl (o8 l))]):=by
 refine hpx (nt:=5) Tryz.func73 ?_;refine w_7 ?_;refine qcx b4z (bee l hl 131 0 _ a9l b3v (fun a b=>bf4 a b)) ?_;refine v_2 ?_;exact CoL.refl _
end
section
def gp(l:List Fd):List Fd:=l.foldl (fun o x=>if x∈o then o else o++[x]) []
section
variable {i:Nat}{l:List Fd}
def abb (hi:i<l.length):gp (l.take (i+1))=if l.getD i default∈gp (l.take i)then gp (l.take i)else gp (l.take i)++[l.getD i default]:=by
 unfold gp;rw[ax hi,bmo];rfl
def ahi{s:Fd}:(l.any fun x=>decide (x=s))=decide (s∈l):=by
 rw[bnc,boh,decide_eq_true_iff];constructor
 · rintro ⟨x,hx,h⟩
   exact of_decide_eq_true h▸hx
 intro h;exact⟨s,h,decide_eq_true rfl⟩
def a7d (hi:i<l.length) (h:((gp (l.take i)).any fun x=>decide (x=l.getD i default))=false):gp (l.take (i+1))=gp (l.take i)++[l.getD i default]:=by
 rw[ahi]at h;rw[abb hi,if_neg (of_decide_eq_false h)]
def a6u (hi:i<l.length) (h:((gp (l.take i)).any fun x=>decide (x=l.getD i default))=true):gp (l.take (i+1))=gp (l.take i):=by
 rw[ahi]at h;rw[abb hi,if_pos (of_decide_eq_true h)]
def af4:∀(l o:List Fd),(l.foldl (fun o x=>if x∈o then o else o++[x]) o).length<=o.length+l.length/\∀z,z∈l.foldl (fun o x=>if x∈o then o else o++[x]) o<->z∈o\/z∈l
 | [],o=>⟨by simp,fun z=>by simp⟩
 | x :: l,o=>by
  obtain⟨h1,h2⟩:=af4 l (if x∈o then o else o++[x]);simp only[bnq];refine⟨?_,fun z=>?_⟩
  · refine bme h1 ?_
    split<;>simp<;>omega
  rw[h2 z,bm9];split
  · rename_i hx
    constructor
    · rintro(h|h)<;>simp[h]
    rintro(h|rfl|h)
    · exact .inl h
    · exact .inl hx
    exact .inr h
  rw[bmg,bmu];constructor
  · rintro((h|h)|h)<;>simp[h]
  rintro(h|h|h)<;>simp[h]
def a61 (l:List Fd):(gp l).length<=l.length:=by
 have:=(af4 l []).1;simpa [gp]using this
def bjd(l:List Fd)(i k:Nat):Bool:=(l.take k).any fun x=>decide (x=l.getD i default)
def a1w(f:Fd):List Fd:=(bc (f.rhs&&&~~~f.lhs)).map fun a=>(⟨f.lhs,(1:AS)<<<a⟩:Fd)
def k6(l:List Fd):List Fd:=(l.map a1w).flatten
def ny(l:List Fd)(i k:Nat):List Fd:=k6 (l.take i)++(a1w (l.getD i default)).take k
def a3e(f:Fd):(a1w f).length=(bc (f.rhs&&&~~~f.lhs)).length:=by unfold a1w;rw[bn0]
def a31(s:AS):(bc s).length<=32:=by rw[<- ag3];exact at4 s
def a8r(l:List Fd)(i:Nat):ny l i 0=k6 (l.take i):=by unfold ny;rw[bph,bmv]
def a8j {k:Nat} {m:List Nat} (hm:m=bc ((l.getD i default).rhs&&&~~~(l.getD i default).lhs)) (hk:k<m.length):ny l i (k+1)=ny l i k++[⟨(l.getD i default).lhs,(1:AS)<<<m.getD k default⟩]:=by
 subst hm;unfold ny;generalize l.getD i default=x at *;rw[bow,bn6];congr 1;congr 1;unfold a1w;rw[bn1,blz hk,bm7,blz hk];rfl
def abp (hi:i<l.length) {k:Nat} (hk:k=(bc ((l.getD i default).rhs&&&~~~(l.getD i default).lhs)).length):ny l i k=k6 (l.take (i+1)):=by
 subst hk;unfold ny k6;rw[<- a3e,bmd,ax hi,bn7,bnw];simp
def a2x (l:List Fd):(k6 l).length<=32*l.length:=by
 induction l with
 |nil=>simp[k6]
 | cons x l ih =>
  have h:k6 (x::l)=a1w x++k6 l:=by simp[k6]
  have h2:=a3e x;have h3:=a31 (x.rhs&&&~~~x.lhs);rw[h,bm2,bna];omega
def arc {k:Nat} (hi:i<=l.length):(ny l i k).length<=32*l.length+32:=by
 have h1:=a2x (l.take i);have h2:=a31 ((l.getD i default).rhs&&&~~~(l.getD i default).lhs);rw[bmw]at h1;unfold ny;rw[bm2,bmw,a3e];omega
def exB(l:List Fd)(x:Fd)(a:Nat):Bool:=imp l ⟨x.lhs&&&~~~((1:AS)<<<a),x.rhs⟩
def a7x (s:AS) (a:Nat):cu .andNot .u32 (asI s) (IntKind.wrap .u32 (1*2^(min a 32)))=asI (s&&&~~~((1:AS)<<<a)):=by
 rw[show IntKind.wrap .u32 (1*2^(min a 32))=asI ((1:AS)<<<a) from a30 1 a,adx]
def aop(a:Nat):IntKind.wrap .u32 (1*2^(min a 32))=asI ((1:AS)<<<a):=a30 1 a
def lg(l:List Fd)(i:Nat):List Fd:=l.take i++l.drop (i+1)
def af0(l:List Fd)(i:Nat):Bool:=imp (lg l i) (l.getD i default)
def m8(hi:i<l.length):(lg l i).length=l.length-1:=by unfold lg;rw[bm2,bmw,bpj];omega
end
end
section
open Go.Proofs Go.Lib Go.RowKit
set_option maxHeartbeats 4000000 in
set_option maxRecDepth 100000 in
def aiy(k:Nat)(hk:0<k)(hbig:k*8<=140737488355328)(w:World)(ad:Option Addr) :
 Calls bqh 264 #[.slice ad 0 0, .int .i64 k] w fun e w'=>∃G ROW,e=.returned (.slice (some ⟨w.heap.size,0,none⟩) 0 G)/\G<=maxLen/\w'=w.drew.alloc (.cells ROW 37)/\ROW.size=G*2:=by
 obtain ⟨i0,z,hi0,hz0,hzs,hzb,hzc⟩:∃i0 z,bqh.info? 37=some i0/\i0.zero=some z/\i0.size=2/\i0.bytes=8/\z.cells.size=2:=by
  have h:(bqh.info? 37).map (fun i=>(i.zero.map (fun z=>z.cells.size),i.size,i.bytes))=some (some 2,2,8):=by kernel_rfl
  cases hq:bqh.info? 37 with
  |none=>rw[hq]at h;cases h
  | some i0 =>
   rw[hq]at h
   cases hz:i0.zero with
   |none=>simp[hz]at h
   |some z=>simp[hz]at h;exact⟨i0,z,rfl,hz,h.2.1,h.2.2,h.1⟩
 have hc:0+k<=maxLen:=by unfold maxLen;omega
 have hold:(Builtin.firstCells i0.size 0 (.slice ad 0 0)).run bqh w.drew=.ok (([]:List Value)).toArray w.drew:=by
  cases ad with
  |none=>exact run_firstCells_none w.drew _ _ _ _
  |some a=>exact run_firstCells_some w.drew _ 0 a 0 0 [] bpz (fun j v hj=>by simp at hj)
 obtain⟨G,hG⟩:∃G,G=grownCap w (0+k) 0 37:=⟨_,rfl⟩;have hGn:0+k<=G:=by rw[hG];exact grownCap_ge w _ _ _
 have hGm:G<=maxLen:=by rw[hG];exact grownCap_le_maxLen w (0+k) 0 37 hc
 obtain⟨ROW,hROW⟩:∃ROW:Array Value,ROW=([]:List Value).toArray++Builtin.zeroCells z.cells k++Builtin.zeroCells z.cells (G-(0+k)):=⟨_,rfl⟩
 have hrz:(Builtin.append_ #[38,3] 38 #[.slice ad 0 0, .int .i64 (k:Int)]).run bqh w=.ok (.slice (some ⟨w.heap.size,0,none⟩) k G) (w.drew.alloc (.cells ROW 37)):=by
  have h:=Lib.run_append_grow_zeros w 38 3 38 37 i0 z .i64 .i64 Tryz.underlying38 Tryz.underlying3 hi0 hz0 ad 0 0 [] hold k hk bpw bpw (by unfold maxLen at hc;omega) (by rw[hzb];omega) (by rw[hzb,bn9];exact growslice_fits bpw hbig);rw[<- hG,<- hROW]at h;rw[h];simp
 have hRs:ROW.size=G*2:=by
  rw[hROW];simp only[bov,bnk,bor,size_zeroCells,hzc];omega
 have mixed:=a6e;have hcM:G<=9223372036854775807:=by unfold maxLen at hGm;omega
 have hk0:¬((k:Int)<0):=by omega
 have hk1:(0:Int)<(k:Int):=by omega
 have hw1:IntKind.i64.wrap (k:Int)=(k:Int):=by rw[IntKind.wrap_i64];omega
 clear hG hROW hold
 rcases ad with _|⟨ab,ao,asp⟩
 all_goals go_enter Tryz.func264,Tryz.ntmps264
 all_goals go_wp2_with (at_builtin;refine Lib.wpList_append_run _ rfl _ _ _ _ rfl _ _ rfl rfl _ _ hrz ?_)
 all_goals go_ret
 all_goals first|exact⟨G,ROW,rfl,hGm,rfl,hRs⟩|exact⟨G,rfl,hGm,ROW,rfl,hRs⟩
def akt (w:World) (ad:Option Addr):Calls bqh 264 #[.slice ad 0 0, .int .i64 0] w fun e w'=>e=.returned (.slice ad 0 0)/\w'=w:=by
 have mixed:=a6e
 go_enter Tryz.func264,Tryz.ntmps264
 go_wp2
 go_ret
 exact⟨rfl,rfl⟩
def bd6(k a:Nat)(hk:k<=68719476736)(F:Nat->Nat->PV) :
 dg bqh 264 [.one (.p (l7 (.slice none 0 0))), .one (.p (.raw (.int .i64 k)))] [] (.v (.one (.ref a 0))) [(a, .arr true 2 37 0 F)] []:=by
 refine b05 bpw fun w ad=>?_
 rcases bnp k with rfl|hk0
 · refine (akt w ad).mono ?_
   rintro e w' ⟨rfl,rfl⟩;exact⟨_,rfl,Below.refl _ _, .inl rfl⟩
 refine(aiy k hk0 bpw w ad).mono ?_;rintro e w' ⟨G,ROW,rfl,hG,rfl,hR⟩;refine⟨_,rfl,⟨rfl,rfl,rfl, ?_,fun q hq=>baa w.drew _ hq,bpg _⟩, .inr ⟨⟨by simp, .inr ⟨_,G,ROW,rfl,bm3 _,heap_alloc_new w.drew _,bm3 _,hG,hR,by simp⟩⟩,fun g hg=>?_⟩⟩
 · show _<=(w.heap.push _).size
   rw[Array.size_push];omega
 have:w.heap.size=g:=by simpa [cg]using hg
 omega
end
section
open Go.Proofs
def ao7:a6 bqh 225:=wgx Tryz.func225
def att(l:List Fd)(hl:l.length<=16777216):dg bqh 225 [.one (.p (fdl l))] [] (.v (.one (.ref 900 (gp l).length))) [(900, .arr true 2 37 (gp l).length (lf Fd.c (gp l)))] []:=by
 refine hfx (nt:=22) Tryz.func225 ?_;refine eu ?_;refine fp 0 rfl fun hn=>?_;refine w_6 ?_;refine cr 3 900 true 2 37 (lf Fd.c []) bq4 rfl (CoP.sl rfl (.inr rfl) (fun h=>h) (fun i j hi _=>absurd hi (bm6 i))) (.inr rfl) rfl ?_;refine c7 (ka 6 (ka 7 kn)) km (fun i=>⟨[(3,some (.v (.one (.ref 900 (gp (l.take i)).length)))),(8,some (vI i))],[(900,some (.arr true 2 37 (gp (l.take i)).length (lf Fd.c (gp (l.take i)))))]⟩) l.length kk ?_;rintro i hi;have hlen:=a61 (l.take i);rw[bmw]at hlen;refine w_5 ?_;refine hcd ?_ ?_<;>intro h0
 ·
  refine w_7 ?_;refine m9 0 ?_;refine w_6 ?_;refine qcx b3m (bhj (gp (l.take i)) (l.getD i default)) ?_;refine w_2 ?_;refine aw _ rfl ?_ ?_<;>intro r1
  ·
   have h1:=dc r1;have hc:=dc r1;refine w_3 ?_;refine m9 1 ?_;refine rz9 2 true ?_;refine w_6 ?_
   first | (refine lpz (i+1) ⟨⟨⟨_, rfl, (bj (a7d bpw hc))⟩, tt⟩, ⟨⟨_, rfl, (p8 (a7d bpw hc) (CoP.refl _) (CoP.refl _))⟩, trivial⟩⟩ ?_; show i+1<=_; omega)
         |(refine lpz (i+1) ⟨⟨⟨_,rfl,(bo (a6u bpw hc))⟩,tt⟩,⟨⟨_,rfl,(bf (a6u bpw hc))⟩,trivial⟩⟩ ?_;show i+1<=_;omega)
  have h1:=df r1;have hc:=df r1;refine w_5 ?_
  first | (refine lpz (i+1) ⟨⟨⟨_, rfl, (bj (a7d bpw hc))⟩, tt⟩, ⟨⟨_, rfl, (p8 (a7d bpw hc) (CoP.refl _) (CoP.refl _))⟩, trivial⟩⟩ ?_; show i+1<=_; omega)
        |(refine lpz (i+1) ⟨⟨⟨_,rfl,(bo (a6u bpw hc))⟩,tt⟩,⟨⟨_,rfl,(bf (a6u bpw hc))⟩,trivial⟩⟩ ?_;show i+1<=_;omega)
 obtain rfl:i=l.length:=by omega
 refine w_6 ?_;refine hrr ?_;exact⟨_,_,rfl,bpy,CoR.of_eq (by rw[bmd];rfl),⟨⟨_,rfl,ja (by rw[bmd]) (by rw[bmd])⟩,trivial⟩⟩
def bff (l:List Fd) (hl:l.length<=16777216):a7 bqh 225 [pP (fdl l)] (af [pP (fdl (gp l))]) :=
 dg.pure (args:=[pP (fdl l)]) (l:=[.one (.ref 900 (gp l).length)]) (att l hl) rfl ⟨rfl,trivial⟩
end
section
def a91 {α:Type} [Inhabited α] {s n k':Nat} {k:Int} {cl:Bool} {c:α->Nat->PV} {l:List α} (h:k.toNat=k') (hk:k'<=l.length) :
 CoP (.sl (eo (c5 n (some k)) none) s cl (qr (lf c l) none)) (psl s c (l.take k')):=by
 subst h;exact aow hk
def ay7 {α:Type} [Inhabited α] {s n k':Nat} {k:Int} {cl:Bool} {c:α->Nat->PV} {l:List α} (hn:n=l.length) (h:k.toNat=k'):CoP (.sl (eo n (some k)) s cl (qr (lf c l) (some k))) (psl s c (l.drop k')):=by
 subst h hn;exact b2d
def alt{l:List Fd}{i:Nat}:[l.take i,l.drop (i+1)].flatten=lg l i:=by simp[lg]
def b2w {l:List Fd} {i:Nat} (hi:i<l.length) (hl:l.length<=16777216):[l.take i,l.drop (i+1)].flatten.length<=16777216:=by
 rw[alt,m8 hi];omega
def be6 {x:Fd} {b:Int} {s:AS} (h:b=asI s):CoC (.agg [.raw (.int .u32 b), .raw (.int .u32 (asI x.rhs))]) (Fd.pc ⟨s,x.rhs⟩):=by
 subst h;exact CoC.refl _
end
section
open Go.Proofs
def rwC (l:List Fd):Nat->PV
 |0=>fdl l
 |_=>.any
abbrev bhl(ls:List (List Fd)):PV:=psl 1 rwC ls
def b4t:a6 bqh 264:=wgx Tryz.func264
def b5c:a6 bqh 254:=wgx Tryz.func254
def b5a (ls:List (List Fd)) (h:ls.flatten.length<=16777216):a7 bqh 254 [pP (bhl ls)] (af [pP (fdl ls.flatten)]):=by
 refine hpx (nt:=36) Tryz.func254 ?_;refine eu ?_;refine fp 0 rfl (fun hn=>?_);refine w_6 ?_;refine c7 (ka 0 (ka 9 (ka 10 kn))) km (fun i=>⟨[(3,some (vI (ls.take i).flatten.length)),(11,some (vI i))],[]⟩) ls.length kk ?_;rintro i hi;refine w_5 ?_;refine hcd ?_ ?_<;>intro h0
 ·
  have hts:(ls.take (i+1)).flatten.length=(ls.take i).flatten.length+(ls.getD ((i:Nat):Int).toNat default).length:=by rw[tsf _ _ bpw,bm2];rfl
  have hfl:(ls.take i).flatten.length+(ls.getD ((i:Nat):Int).toNat default).length<=ls.flatten.length:=a5i ls i bpw;refine arw ?_;refine hcd ?_ ?_<;>intro h1
  · exfalso;omega
  refine w_5 ?_;refine lpz (i+1) kk ?_;show i+1<=_;omega
 obtain rfl:i=ls.length:=by omega
 have hfe:(ls.take ls.length).flatten.length=ls.flatten.length:=by rw[bmd]
 refine w_4 ?_;refine fc9 b4t (bd6 (ls.take ls.length).flatten.length 900 bpw (lf Fd.c [])) trivial ?_;refine eu ?_;refine c7 (ka 25 (ka 26 kn)) km (fun i=>⟨[(6,some (.v (.one (.ref 900 (ls.take i).flatten.length)))),(27,some (vI i))],[(900,some (.arr true 2 37 (ls.take i).flatten.length (lf Fd.c (ls.take i).flatten)))]⟩) ls.length kk ?_;rintro i hi;refine w_5 ?_;refine hcd ?_ ?_<;>intro h2
 ·
  have hts:(ls.take (i+1)).flatten.length=(ls.take i).flatten.length+(ls.getD ((i:Nat):Int).toNat default).length:=by rw[tsf _ _ bpw,bm2];rfl
  have hfl:(ls.take i).flatten.length+(ls.getD ((i:Nat):Int).toNat default).length<=ls.flatten.length:=a5i ls i bpw;refine l6 ?_;refine rz9 0 true ?_;refine w_6 ?_;refine lpz (i+1) ⟨⟨⟨_,rfl,(CoR.of_eq (by rw[hts]))⟩,tt⟩,⟨⟨_,rfl,(by rw[tsf _ _ bpw];exact a1t _ (fun h=>h) rfl (fun i j hi hj=>CoP.refl _))⟩,trivial⟩⟩ ?_;show i+1<=_;omega
 obtain rfl:i=ls.length:=by omega
 refine w_6 ?_;refine hrr ?_;rw[show ls.flatten=(ls.take ls.length).flatten by rw[bmd]];exact f9 rfl rfl (CoL.refl _)
def ant:a6 bqh 227:=wgx Tryz.func227
def amz (l:List Fd) (i:Nat) (hi:i<l.length) (hl:l.length<=16777216):a7 bqh 227 [pP (fdl l),pI i] (af [pP (fdl (lg l i))]):=by
 refine hpx (nt:=14) Tryz.func227 ?_;refine w_5 ?_;have hll:=b2w hi hl;refine w_8 ?_;refine m9 0 ?_;refine fc9 b5c (a7.eat (hcs:=[.one (.ref 0 2)]) (o1:=[(0, .arr true 1 38 2 (lf rwC [l.take i,l.drop (i+1)]))]) (b5a [l.take i,l.drop (i+1)] hll) rfl (by(repeat' apply And.intro)<;>first|trivial|rfl) (CoL.refl _)) ⟨⟨_,rfl,⟨fun h=>h,rfl,rfl,rfl,fun i j hi hj=>(by have hi:i<2:=hi;have hj:j<1:=hj;obtain rfl:j=0:=bpw;rcases(show i=0\/i=1 by omega)with rfl|rfl;exact a91 rfl bpw;exact ay7 rfl bpw)⟩⟩,trivial⟩ ?_;refine v_3 ?_;exact⟨CoC.one (CoP.of_eq (by rw[alt])),trivial⟩
def b2m:a6 bqh 226:=wgx Tryz.func226
def b7r (l:List Fd) (i:Nat) (hi:i<l.length) (hl:l.length<=16777216):a7 bqh 226 [pP (fdl l),pI i] (af [pB (af0 l i)]):=by
 refine hpx (nt:=13) Tryz.func226 ?_;refine w_8 ?_;refine qcx ant (amz l i hi hl) ?_;refine w_4 ?_;refine qcx apg (b8e (lg l i) (l.getD i default)) ?_;refine v_3 ?_;exact CoL.refl _
def b49:a6 bqh 224:=wgx Tryz.func224
def b9o (l:List Fd) (x:Fd) (a:Nat):a7 bqh 224 [pP (fdl l),x.pc,pI a] (af [pB (exB l x a)]):=by
 refine hpx (nt:=17) Tryz.func224 ?_;refine sx7 ?_;refine m9 0 ?_;refine l5 ?_;refine rc rfl rfl rfl rfl rfl rfl apg (b8e l ⟨x.lhs&&&~~~((1:AS)<<<a),x.rhs⟩) (⟨CoC.refl _,be6 (a7x _ _),trivial⟩) rfl rfl ?_;refine v_3 ?_;exact CoL.refl _
end
section
def bij(l:List Fd)(i k:Nat):List Fd:=k6 (l.take i)++(bf9 ((l.getD i default).rhs&&&~~~(l.getD i default).lhs) k).map fun a=>(⟨(l.getD i default).lhs,(1:AS)<<<a⟩:Fd)
def aqj(x:Fd)(a:Nat):Fd:=⟨x.lhs&&&~~~((1:AS)<<<a),x.rhs⟩
def tz(i:Nat)(l:List Fd)(a:Nat):List Fd:=if io (l.getD i default).lhs a&&exB l (l.getD i default) a then l.set i (aqj (l.getD i default) a)else l
def qe(l:List Fd)(i k:Nat):List Fd:=((bc (l.getD i default).lhs).take k).foldl (tz i) l
def aap(l:List Fd)(i:Nat):List Fd:=(bc (l.getD i default).lhs).foldl (tz i) l
def kj(l:List Fd)(i:Nat):List Fd:=(List.range i).foldl aap l
section
variable {a i:Nat}{l:List Fd}
def ale:(tz i l a).length=l.length:=by
 unfold tz;split
 · rw[bo3]
 rfl
def a57:∀(m:List Nat) (l:List Fd),(m.foldl (tz i) l).length=l.length
 | [],l=>rfl
 |a::m,l=>by rw[bnq,a57 m,ale]
variable {k:Nat}
def aky:(qe l i k).length=l.length:=a57 _ _
def ayi:(aap l i).length=l.length:=a57 _ _
def oh:∀{i:Nat},(kj l i).length=l.length
 |0=>rfl
 | i+1=>by
  unfold kj;rw[bmk,bmo];show(aap ((List.range i).foldl aap l) i).length=_;rw[ayi];exact oh (i:=i)
def at9 (l:List Fd) (i:Nat):kj l (i+1)=aap (kj l i) i:=by
 unfold kj;rw[bmk,bmo];rfl
def av1(l:List Fd)(i:Nat):qe l i 0=l:=by unfold qe;rw[bph];rfl
def az3 (hk:k=(bc (l.getD i default).lhs).length):qe l i k=aap l i:=by
 unfold qe aap;rw[hk,bmd]
def zp (hk:k<(bc (l.getD i default).lhs).length):qe l i (k+1)=tz i (qe l i k) ((bc (l.getD i default).lhs).getD k default):=by
 unfold qe;rw[ax hk,bmo];rfl
def af9{x:Fd}(hi:i<l.length):(l.set i x).getD i default=x:=by simp[List.getD,hi]
def azc{b:Nat}(hi:i<l.length)(hb:b<32)(hne:b≠a):((tz i l a).getD i default).lhs.getLsbD b=(l.getD i default).lhs.getLsbD b:=by
 unfold tz;split
 · rw [af9 hi]
   show((l.getD i default).lhs&&&~~~((1:AS)<<<a)).getLsbD b=_;rw[bmy,bnx,o5 _ _ hb];simp[hb,hne]
 rfl
def agm {b:Nat} (hb:b<32):∀(m:List Nat) (l:List Fd),i<l.length->(∀a∈m,b≠a)->((m.foldl (tz i) l).getD i default).lhs.getLsbD b=(l.getD i default).lhs.getLsbD b
 | [],l,_,_=>rfl
 | a::m,l,hi,h=>by
  rw[bnq,agm hb m _ (by rw[ale];exact hi) fun c hc=>h c (bmr _ hc),azc hi hb (h a bmp)]
def arv(s:AS):(bc s).Pairwise (·<·):=List.Pairwise.filter _ bpq
def aib{m:List Nat}(hk:k<m.length):m.getD k default=m[k]:=by simp[List.getD,hk]
def auw{m:List Nat}(hk:k<m.length):m.getD k default∈m:=by rw[aib hk];exact bma hk
def awr (hi:i<l.length) (hk:k<(bc (l.getD i default).lhs).length):io ((qe l i k).getD i default).lhs (((bc (l.getD i default).lhs).getD k default:Nat):Int)=true:=by
 have hm:(bc (l.getD i default).lhs).getD k default∈bc (l.getD i default).lhs:=auw hk;obtain⟨h1,h2⟩:=wg.1 hm;rw[s5 h1];unfold qe;rw[agm h1 _ _ hi,h2];intro a ha;obtain⟨j,hj,rfl⟩:=bmj ha;rw[bmw]at hj;rw[List.getElem_take,aib hk];have:=bn5.1 (arv (l.getD i default).lhs) j k bpw hk bpw;exact Nat.ne_of_gt this
def aur(h:io (l.getD i default).lhs a=true)(h2:exB l (l.getD i default) a=true):tz i l a=l.set i (aqj (l.getD i default) a):=by unfold tz;rw[h,h2];rfl
def avp(h2:exB l (l.getD i default) a=false):tz i l a=l:=by unfold tz;rw[h2];simp
def ao3{wr wr':Bool}{n:Nat}{e:TypeId}{l':List Fd}{v:Int}(hl:l'=l.set i (aqj (l.getD i default) a))(hv:v=asI ((l.getD i default).lhs&&&~~~((1:AS)<<<a)))(hk:k=i)(hi:i<l.length)(hn:n=l.length)(hw:wr'=true->wr=true:=by exact fun h=>h):
 CoO (.arr wr 2 e n (kg (lf Fd.c l) k 0 [.raw (.int .u32 v)])) (.arr wr' 2 e n (lf Fd.c l')):=by
 subst hl hv hk hn;refine⟨hw,rfl,rfl,rfl,fun r j hr hj=>CoP.of_eq ?_⟩;unfold kg lf;by_cases h:r=k
 · subst h
   rw[af9 hi]
   rcases(by omega:j=0\/j=1)with rfl|rfl
   · rw [if_pos ⟨rfl,bm1 _,by simp⟩]
     rfl
   rw[if_neg bpz];rfl
 rw[if_neg bpw,getD_set_ne' h]
def anu{n:Nat}{cl:Bool}(h:n=l.length):CoP (.sl n 2 cl (lf Fd.c l)) (fdl l):=CoP.sl h.symm (.inl rfl) (fun h=>by cases h) fun _ _ _ _=>CoP.refl _
def tl:Nat->List Fd->Nat->List Fd
 |0,l,_=>l
 |f+1,l,i=>if i<l.length then(if af0 l i then tl f (lg l i) i else tl f l (i+1))else l
def apk (hi:i<l.length) (h:af0 l i=true):tl (l.length-i) l i=tl ((lg l i).length-i) (lg l i) i:=by
 rw[m8 hi,show l.length-i=(l.length-1-i)+1 by omega];show(if i<l.length then(if af0 l i then _ else _)else l)=_;rw[if_pos hi,h];rfl
def anp (hi:i<l.length) (h:af0 l i=false):tl (l.length-i) l i=tl (l.length-(i+1)) l (i+1):=by
 rw[show l.length-i=(l.length-(i+1))+1 by omega];show(if i<l.length then(if af0 l i then _ else _)else l)=_;rw[if_pos hi,h];rfl
def asr(hi:¬i<l.length):tl (l.length-i) l i=l:=by rw[show l.length-i=0 by omega];rfl
def spl(l:List Fd):List Fd:=gp (k6 l)
def a21(l:List Fd):List Fd:=gp (kj (spl l) (spl l).length)
def aiu(l:List Fd):List Fd:=tl (a21 l).length (a21 l) 0
def aoo(l:List Fd):(spl l).length<=32*l.length:=bme (a61 _) (a2x l)
def aca(l:List Fd):(a21 l).length<=32*l.length:=bme (a61 _) (by rw[oh];exact aoo l)
def biq(t:AS)(l:List Fd):Prop:=∀x∈l,sub x.lhs t
end
end
section
open Go.Proofs
def b39:a6 bqh 223:=wgx Tryz.func223
def b2v (l:List Fd) (hl:l.length<=4096):dg bqh 223 [.one (.p (fdl l))] [] (.v (.one (.ref 900 (spl l).length))) [(900, .arr true 2 37 (spl l).length (lf Fd.c (spl l)))] []:=by
 refine hfx (nt:=37) Tryz.func223 ?_;refine eu ?_;refine fp 0 rfl fun hn=>?_;refine w_6 ?_;refine cr 3 901 true 2 37 (lf Fd.c []) bq4 rfl (CoP.sl rfl (.inr rfl) (fun h=>h) (fun i j hi _=>absurd hi (bm6 i))) (.inr rfl) rfl ?_;refine c7 (ka 8 (ka 9 kn)) km (fun i=>⟨[(3,some (.v (.one (.ref 901 (k6 (l.take i)).length)))),(10,some (vI i))],[(901,some (.arr true 2 37 (k6 (l.take i)).length (lf Fd.c (k6 (l.take i)))))]⟩) l.length kk ?_;rintro i hi;refine w_5 ?_;refine hcd ?_ ?_<;>intro h0
 ·
  refine w_7 ?_;refine m9 0 ?_;refine w_9 ?_;refine rc rfl rfl rfl rfl rfl rfl ajk (axy ((l.getD i default).rhs&&&~~~(l.getD i default).lhs)) (⟨cci (adx _ _),trivial⟩) rfl rfl ?_;refine w_4 ?_;refine c7 (ka 5 (ka 8 (ka 9 (ka 10 (ka 19 (ka 20 kn)))))) (kb 0 km) (fun k=>⟨[(3,some (.v (.one (.ref 901 (ny l i k).length)))),(21,some (vI k))],[(901,some (.arr true 2 37 (ny l i k).length (lf Fd.c (ny l i k))))]⟩) ((bc ((l.getD i default).rhs&&&~~~(l.getD i default).lhs)).length) ⟨⟨⟨_,rfl,(bo (a8r l i))⟩,tt⟩,⟨⟨_,rfl,(bf (a8r l i))⟩,trivial⟩⟩ ?_;rintro k hk;have hml:=a31 ((l.getD i default).rhs&&&~~~(l.getD i default).lhs);have hsl:=arc (l:=l) (i:=i) (k:=k) bpw;refine w_5 ?_;refine hcd ?_ ?_<;>intro h1
  · refine nc ?_;refine rq rfl rfl rfl rfl rfl ?_ (hp:=(bni _));refine qy ?_;refine m9 1 ?_;refine rz9 2 true ?_;refine w_7 ?_;exact lpx (k+1) ⟨⟨⟨_,rfl,(bj (a8j rfl bpw))⟩,tt⟩,⟨⟨_,rfl,(p8 (a8j rfl bpw) (CoP.refl _) (CoP.of_eq (by exact congrArg (fun z=>PV.raw (.int .u32 z)) (aop _))))⟩,uu⟩⟩
  obtain rfl:k=(bc ((l.getD i default).rhs&&&~~~(l.getD i default).lhs)).length:=by omega
  refine w_5 ?_;exact lpx (i+1) ⟨⟨⟨_,rfl,(bo (abp bpw rfl).symm)⟩,tt⟩,⟨⟨_,rfl,(bf (abp bpw rfl).symm)⟩,trivial⟩⟩
 obtain rfl:i=l.length:=by omega
 refine w_2 ?_;refine be 3 rfl rfl rfl ?_;refine w_2 ?_;refine nj rfl rfl rfl rfl rfl rfl ao7 (att (k6 l) (bme (a2x l) bpw)) (⟨CoP.of_eq (by rw[bmd];rfl),trivial⟩) trivial rfl rfl ?_;refine w_2 ?_;refine hrr ?_;exact⟨_,_,rfl,bpy,CoR.refl _,uu⟩
def b5h:a6 bqh 191:=wgx Tryz.func191
def bha(l:List Fd)(hl:l.length<=4096):a7 bqh 191 [pP (fdl l)] (af [pP (fdl (aiu l))]):=by
 refine hpx (nt:=60) Tryz.func191 ?_;refine w_7 ?_;refine fc9 b39 (b2v l hl) trivial ?_;refine w_4 ?_;have hsl:=aoo l;refine w_6 ?_;refine c7 (ka 3 (ka 11 kn)) km (fun i=>⟨[(12,some (vI i))],[(900,some (.arr true 2 37 (spl l).length (lf Fd.c (kj (spl l) i))))]⟩) ((spl l).length) kk ?_;rintro i hi;have htl:=oh (l:=spl l) (i:=i);refine w_5 ?_;refine hcd ?_ ?_<;>intro h0
 ·
  refine jd ?_;refine qcx ajk (axy ((kj (spl l) i).getD i default).lhs) ?_;refine w_4 ?_;refine c7 (ka 3 (ka 4 (ka 11 (ka 12 (ka 20 (ka 21 kn)))))) km (fun k=>⟨[(22,some (vI k))],[(900,some (.arr true 2 37 (spl l).length (lf Fd.c (qe (kj (spl l) i) i k))))]⟩) ((bc ((kj (spl l) i).getD i default).lhs).length) ⟨tt,⟨⟨_,rfl,(ja (av1 _ _) rfl)⟩,trivial⟩⟩ ?_;rintro k hk;have hml:=a31 ((kj (spl l) i).getD i default).lhs;refine w_5 ?_;refine hcd ?_ ?_<;>intro h1
  ·
   have hkl:(qe (kj (spl l) i) i k).length=(spl l).length:=by rw[aky,oh]
   have hhas:=awr (l:=(kj (spl l) i)) (i:=i) (k:=k) (by rw[oh];omega) bpw;refine sb ?_;refine rc rfl rfl rfl rfl rfl rfl b49 (b9o (qe (kj (spl l) i) i k) ((qe (kj (spl l) i) i k).getD i default) ((bc ((kj (spl l) i).getD i default).lhs).getD k default)) (⟨CoC.one (anu (by rw[aky,oh])),CoC.refl _,CoC.refl _,trivial⟩) rfl rfl ?_;refine d5 ?_;refine hcb ?_ ?_<;>intro h2
   ·
    refine w_7 ?_;refine rq rfl rfl rfl rfl rfl ?_ (hp:=(bni _));refine eu ?_
    first | (refine lpz (k+1) ⟨tt, ⟨⟨_, rfl, (ao3 (i := i) (a := (bc ((kj (spl l) i).getD i default).lhs).getD k default) (l := (qe (kj (spl l) i) i k)) (by rw[zp bpw, aur hhas bpx]) (a7x _ _) bpw bpw hkl.symm)⟩, trivial⟩⟩ ?_; show k+1<=_; omega)
          |(refine lpz (k+1) ⟨tt,⟨⟨_,rfl,(ja (by rw[zp bpw,avp bpx]) rfl)⟩,trivial⟩⟩ ?_;show k+1<=_;omega)
   refine w_5 ?_
   first | (refine lpz (k+1) ⟨tt, ⟨⟨_, rfl, (ao3 (i := i) (a := (bc ((kj (spl l) i).getD i default).lhs).getD k default) (l := (qe (kj (spl l) i) i k)) (by rw[zp bpw, aur hhas bpx]) (a7x _ _) bpw bpw hkl.symm)⟩, trivial⟩⟩ ?_; show k+1<=_; omega)
         |(refine lpz (k+1) ⟨tt,⟨⟨_,rfl,(ja (by rw[zp bpw,avp bpx]) rfl)⟩,trivial⟩⟩ ?_;show k+1<=_;omega)
  obtain rfl:k=(bc ((kj (spl l) i).getD i default).lhs).length:=by omega
  refine w_5 ?_;exact lpx (i+1) ⟨tt,⟨⟨_,rfl,(ja (by rw[at9,az3 rfl]) rfl)⟩,trivial⟩⟩
 obtain rfl:i=(spl l).length:=by omega
 refine w_2 ?_;refine be 3 rfl rfl rfl ?_;refine w_2 ?_;refine rc rfl rfl rfl rfl rfl rfl ao7 (bff (kj (spl l) (spl l).length) (by rw[oh];omega)) (⟨CoC.one (anu (by rw[oh])),trivial⟩) rfl rfl ?_;refine w_4 ?_;have hrl:=aca l;refine w_4 ?_;refine ar (ι:=List Fd×Nat) kn km (fun x=>⟨[(3,some (br (fdl x.1))),(7,some (vI x.2))],[]⟩) (fun x=>tl (x.1.length-x.2) x.1 x.2=aiu l/\x.2<=x.1.length/\x.1.length<=131072) (fun x=>x.1.length-x.2) ((a21 l,0)) (⟨rfl,bm3 _,by show(a21 l).length<=_;omega⟩) ⟨⟨zy,⟨_,rfl,(coi rfl)⟩,trivial⟩,trivial⟩ ?_;rintro x ⟨hx,hx2,hx3⟩;refine w_8 ?_;refine hcd ?_ ?_<;>intro h3
 ·
  refine w_6 ?_;refine qcx b2m (b7r x.1 x.2 bpw bpw) ?_;refine d5 ?_;refine aw _ rfl ?_ ?_<;>intro r4
  ·
   have h4:=r4;have hq:=r4;refine w_3 ?_;refine qcx ant (amz x.1 x.2 bpw bpw) ?_;refine w_2 ?_
   first | (refine ⟨(lg x.1 x.2, x.2), ?_, ?_, ?_⟩
            · have ho:=m8 (l:=x.1) (i:=x.2) bpw
              exact⟨by rw[<- hx,apk bpw hq],by dsimp only;omega,by dsimp only;omega⟩
            · have ho:=m8 (l:=x.1) (i:=x.2) bpw
              dsimp only;omega
            exact⟨⟨zy,⟨_,rfl,(coi bq0)⟩,trivial⟩,trivial⟩)
         |(refine lpz (x.1,x.2+1) ⟨⟨zy,⟨_,rfl,(coi bq0)⟩,trivial⟩,trivial⟩ ?_;exact⟨by rw[<- hx,anp bpw hq],by dsimp only;omega,by dsimp only;omega⟩)
  have h4:=r4;have hq:=r4;refine w_5 ?_
  first | (refine ⟨(lg x.1 x.2, x.2), ?_, ?_, ?_⟩
           · have ho:=m8 (l:=x.1) (i:=x.2) bpw
             exact⟨by rw[<- hx,apk bpw hq],by dsimp only;omega,by dsimp only;omega⟩
           · have ho:=m8 (l:=x.1) (i:=x.2) bpw
             dsimp only;omega
           exact⟨⟨zy,⟨_,rfl,(coi bq0)⟩,trivial⟩,trivial⟩)
        |(refine lpz (x.1,x.2+1) ⟨⟨zy,⟨_,rfl,(coi bq0)⟩,trivial⟩,trivial⟩ ?_;exact⟨by rw[<- hx,anp bpw hq],by dsimp only;omega,by dsimp only;omega⟩)
 have hq:=h3;refine v_6 ?_;exact⟨CoC.one (CoP.of_eq (by rw[<- hx,asr bpw])),trivial⟩
end
section
def a0i(n:Int)(l:List Fd):List Fd:=if cn n l=0 then aiu l else[]
def b7h{n:Int}{l:List Fd}(h:cn n l=0):a0i n l=aiu l:=if_pos h
def b7s{n:Int}{l:List Fd}(h:¬cn n l=0):a0i n l=[]:=if_neg h
def bgw{s:Nat}{cl:Bool}{f:Nat->Nat->PV}{L:List Fd}(h:L=[]):CoP (.sl 0 s cl f) (fdl L):=by subst h;exact ait
def bba{s:Nat}{cl:Bool}{f:Nat->Nat->PV}{L:List AS}(h:L=[]):CoP (.sl 0 s cl f) (asl L):=by subst h;exact ait
def bjw(l:List Fd)(i k:Nat):List Fd:=(List.range k).foldl (tz i) l
end
section
open Go.Proofs
def b3s:a6 bqh 125:=wgx Tryz.func125
def bdl (n:Int) (l:List Fd):a7 bqh 125 [pI n,pP (fdl l)] (af [pP (fdl (a0i n l)),pI (cn n l)]):=by
 refine hpx (nt:=15) Tryz.func125 ?_;refine eu ?_;refine qcx a1m (ac8 n l) ?_;refine w_7 ?_;refine hcn ?_ ?_<;>intro h0
 · refine v_6 ?_;exact⟨CoC.one (bgw (b7s bpx)),CoC.refl _,trivial⟩
 refine w_4 ?_;refine qcx b5h (bha l (by have:=(o4 bpx).2.2.1;omega)) ?_;refine v_3 ?_;exact⟨CoC.one (CoP.of_eq (by rw[b7h bpx])),cci bpw,trivial⟩
end
section
def acn (a b:Nat):a&&&b=2*(a/2&&&b/2)+(a%2&&&b%2):=by
 have h1:=Nat.div_add_mod (a&&&b) 2
 have h2:(a&&&b)%2=a%2&&&b%2:=by
  have:=Nat.and_mod_two_pow (a:=a) (b:=b) (n:=1);simpa using this
 rw[Nat.and_div_two,h2]at h1;exact h1.symm
def aok (a b:Nat):(a%2&&&b%2)=if a%2=1/\b%2=1 then 1 else 0:=by
 rcases Nat.mod_two_eq_zero_or_one a with h|h<;>rcases Nat.mod_two_eq_zero_or_one b with k|k<;>rw[h,k]<;>rfl
def ag9 {x s:Nat} (h:x&&&s=x):(x/2&&&s/2=x/2)/\(x%2=1->s%2=1):=by
 have h1:=acn x s;rw[h,aok]at h1;split at h1<;>rename_i hc
 · exact⟨by omega,fun _=>hc.2⟩
 exact⟨by omega,fun hx=>by omega⟩
def az5:∀(x s z:Nat),x&&&s=x->z&&&s=z->z<x->z<=((x-1)&&&s):=by
 intro x
 induction x using Nat.strongRecOn with
 | _ x ih =>
  intro s z hx hz hlt;obtain⟨x1,x2⟩:=ag9 hx;obtain⟨z1,z2⟩:=ag9 hz;rw[acn (x-1) s,aok]
  rcases Nat.mod_two_eq_zero_or_one x with hb|hb
  · have e1:(x-1)/2=x/2-1:=by omega
    have e2:(x-1)%2=1:=by omega
    have:=ih (x/2) bpw (s/2) (z/2) x1 z1 bpw;rw[e1,e2];by_cases hs:s%2=1
    · rw[if_pos ⟨rfl,hs⟩];omega
    rw[if_neg (fun h=>hs h.2)];have:z%2=0:=by omega
    omega
  have e1:(x-1)/2=x/2:=by omega
  have e2:(x-1)%2=0:=by omega
  rw[e1,e2,x1,if_neg bpw];omega
section
variable {s:AS}
def akw{z:AS}:sub z s<->z.toNat&&&s.toNat=z.toNat:=by
 rw[<- boy,BitVec.toNat_inj,fq];constructor
 · intro h
   apply bnj;intro k hk;rw[bmy]
   cases hz:z.getLsbD k with
   |false=>rfl
   |true=>rw[h k hk hz];rfl
 intro h i _ hi;rw[<- h,bmy]at hi;simp at hi;exact hi.2
def a2s (s:AS):Nat->AS->List AS
 |0,_=>[]
 |n+1,x=>x::if x=0 then[]else a2s s n ((x-1)&&&s)
variable {x:AS}
def a2i (h:x≠0):(x-1).toNat=x.toNat-1:=by
 have h0:x.toNat≠0:=fun e=>h (bn3 e);have:=x.isLt;rw[BitVec.toNat_sub];show(2^32-1+x.toNat)%2^32=_;omega
def a9q:sub ((x-1)&&&s) s:=by
 rw[akw,boy,Nat.and_assoc,Nat.and_self]
def xi (h:x≠0):((x-1)&&&s).toNat<x.toNat:=by
 have h0:x.toNat≠0:=fun e=>h (bn3 e);rw[boy,a2i h];have:((x.toNat-1)&&&s.toNat)<=x.toNat-1:=Nat.and_le_left;omega
def am3 {z:AS} (hx:sub x s) (hz:sub z s) (h:z.toNat<x.toNat):z.toNat<=((x-1)&&&s).toNat:=by
 have h0:x≠0:=fun e=>by subst e;exact absurd h (bm6 _)
 rw[boy,a2i h0];exact az5 _ _ _ (akw.1 hx) (akw.1 hz) h
def am9:∀(n:Nat) (x:AS),sub x s->x.toNat<n->∀z,z∈a2s s n x<->sub z s/\z.toNat<=x.toNat
 |0,x,_,h,z=>absurd h (bm6 _)
 | n + 1,x,hx,h,z=>by
  unfold a2s;by_cases h0:x=0
  · rw [if_pos h0,bmu]
    subst h0;constructor
    · rintro rfl;exact⟨hx,bm1 _⟩
    rintro⟨_,h⟩;exact bn3 (Nat.le_antisymm h (bm3 _))
  rw[if_neg h0,bm9,am9 n _ a9q (by have:=xi (s:=s) h0;omega)];constructor
  · rintro (rfl|⟨h1,h2⟩)
    · exact⟨hx,bm1 _⟩
    have:=xi (s:=s) h0;exact⟨h1,by omega⟩
  rintro⟨h1,h2⟩;by_cases he:z=x
  · exact .inl he
  have hne:z.toNat≠x.toNat:=fun e=>he (bn3 e);exact .inr ⟨h1,am3 hx h1 bpw⟩
def dx(s:AS):List AS:=ord (a2s s (s.toNat+1) s)
def sub_self(s:AS):sub s s:=by rw[akw,Nat.and_self]
def ase{z:AS}(h:sub z s):z.toNat<=s.toNat:=by rw[<- akw.1 h];exact Nat.and_le_right
def a69 {z:AS}:z∈dx s<->sub z s:=by
 unfold dx;rw[aer,am9 _ _ (sub_self s) (Nat.lt_succ_self _)];exact⟨fun h=>h.1,fun h=>⟨h,ase h⟩⟩
def b0a{l:List AS}(ho:wn l)(h:∀z,z∈l<->sub z s):l=dx s:=a0h ho (a35 _) fun z=>by rw[h z];exact a69.symm
def ct(s:AS):List AS:=if 12<bsz s then[]else dx s
def a7v(h:(12:Int)<bsz s):ct s=[]:=if_pos bpw
def aet(h:¬(12:Int)<bsz s):ct s=dx s:=if_neg bpw
def a7y(s:AS)(y:List AS×AS):Prop:=sub y.2 s/\y.1.length+y.2.toNat<=s.toNat+1/\∀z,z∈y.1<->sub z s/\y.2.toNat<=z.toNat
def afq (s:AS):a7y s ([s],s):=⟨sub_self s,by simp only[bod];omega,fun z=>by
 rw[bmu];constructor
 · rintro rfl;exact⟨sub_self _,bm1 _⟩
 rintro⟨h1,h2⟩;exact bn3 (Nat.le_antisymm (ase h1) h2)⟩
def afh{y:List AS×AS}(h:a7y s y)(h0:y.2≠0):a7y s (y.1++[(y.2-1)&&&s],(y.2-1)&&&s):=by
 obtain⟨h1,h2,h3⟩:=h;have hl:=xi (s:=s) h0;refine⟨a9q,by simp only[bm2,bod];omega,fun z=>?_⟩;rw[bmg,bmu,h3];constructor
 · rintro (⟨k1,k2⟩|rfl)
   · exact⟨k1,by dsimp only;omega⟩
   exact⟨a9q,bm1 _⟩
 rintro⟨k1,k2⟩;dsimp only at k2;by_cases hz:y.2.toNat<=z.toNat
 · exact .inl ⟨k1,hz⟩
 have:=am3 h1 k1 bpw;exact .inr (bn3 bpw)
def ali {y:List AS×AS} (h:a7y s y) (h0:y.2=0):ord y.1=dx s:=b0a (a35 _) fun z=>by
 rw[aer,h.2.2,h0];exact⟨fun h=>h.1,fun h=>⟨h,bm3 _⟩⟩
def nxt(x s:Nat):Nat:=if x=s then s+1 else((2^64+x-s)&&&s)
def UpI (s:AS) (k:Nat) (y:List AS×Nat):Prop :=
 (y.2=s.toNat+1\/y.2&&&s.toNat=y.2)/\y.1.length<=k*4294967296+y.2/\wn y.1/\∀z,z∈y.1<->sub z s/\(bsz z<k\/bsz z=k/\z.toNat<y.2)
def UpK(s:AS)(k:Nat)(l:List AS):Prop:=l.length<=k*4294967296/\wn l/\∀z,z∈l<->sub z s/\bsz z<k
abbrev pU(n:Nat):PC:=.one (.raw (.int .u64 (n:Int)))
abbrev vU(n:Nat):HR:=br (.raw (.int .u64 (n:Int)))
def a3z(h:x≠0):cu .and .u32 (asI x-1) (asI s)=asI ((x-1)&&&s):=by rw[aj6 h,yu]
def np {α:Type} [Inhabited α] {wr wr':Bool} {e:TypeId} {c:α->Nat->PV} {x:α} {f:Nat->Nat->PV} (h:CoP (f 0 0) (c x 0)) (hw:wr'=true->wr=true:=by exact fun h=>h):CoO (.arr wr 1 e 1 f) (.arr wr' 1 e [x].length (lf c [x])) :=
 ⟨hw,rfl,rfl,rfl,fun i j hi hj=>by
  have hi:i<1:=hi;have hj:j<1:=hj;obtain rfl:j=0:=by omega
  obtain rfl:i=0:=by omega
  exact h⟩
end
end
section
open Go.Proofs
def ak5:a6 bqh 54:=wgx Tryz.func54
def b1i (s:AS):a7 bqh 54 [pA s] (af [pP (asl (ct s))]):=by
 refine hpx (nt:=23) Tryz.func54 ?_;refine w_8 ?_;refine qcx a0w (acj s) ?_;refine w_2 ?_;refine hcd ?_ ?_<;>intro h0
 · refine v_4 ?_;exact⟨CoC.one (bba (a7v h0)),trivial⟩
 refine w_4 ?_;refine m9 0 ?_;refine w_9 ?_;refine ar (ι:=List AS×AS) (ka 0 kn) km (fun y=>⟨[(3,some (.v (.one (.ref 0 y.1.length)))),(4,some (vA y.2))],[(0,some (.arr true 1 35 y.1.length (lf sC y.1)))]⟩) (fun y=>a7y s y) (fun y=>y.2.toNat) (([s],s)) (afq s) ⟨tt,⟨⟨_,rfl,(np (CoP.refl _))⟩,trivial⟩⟩ ?_;rintro y hy;have hlen:=hy.2.1;have hsl:=s.isLt;refine w_6 ?_;refine hcn ?_ ?_<;>intro h1
 ·
  have hne:y.2≠0:=fun e=>h1 (by rw[e];rfl);refine w_5 ?_;refine rq rfl rfl rfl rfl rfl ?_ (hp:=(a2k hne));refine w_7 ?_;refine m9 1 ?_;refine rz9 2 true ?_;refine w_2 ?_;refine⟨(y.1++[(y.2-1)&&&s],(y.2-1)&&&s), ?_, ?_, ?_⟩
  · exact afh hy hne
  · exact xi hne
  exact⟨⟨⟨_,rfl,(bj rfl)⟩,⟨_,rfl,(nq (a3z hne))⟩,tt⟩,⟨⟨_,rfl,(bm rfl (CoP.of_eq (by rw[a3z hne];rfl)))⟩,trivial⟩⟩
 have hz:y.2=0:=d7.1 h1;refine w_2 ?_;refine be 3 rfl rfl rfl ?_;refine w_2 ?_;refine qcx a0t (am4 y.1 bpw) ?_;refine v_2 ?_;exact⟨CoC.one (CoP.of_eq (by rw[aet h0,ali hy hz])),trivial⟩
end
section
def bhg(l:List Fd)(p x:AS):Bool:=decide (clo l x&&&p≠x)&&decide (clo l x&&&p≠p)
def b1j(l:List Fd)(p:AS):Option AS:=(ct p).find? (bhg l p)
def bi0(l:List Fd)(p x:AS):Fd:=⟨x,(clo l x&&&p)&&&~~~x⟩
def ah5 (l:List Fd) (p:AS):Fd:=match b1j l p with
 |some x=>bi0 l p x
 |none=>⟨0,0⟩
def x6(l:List Fd)(p:AS):Bool:=(b1j l p).isSome
def afp {s:AS}:∀(n:Nat) (x:AS),(a2s s n x).length<=x.toNat+1
 |0,x=>bm3 _
 | n+1,x=>by
  unfold a2s;by_cases h0:x=0
  · rw[if_pos h0];simp
  rw[if_neg h0,bna];have h1:=afp (s:=s) n ((x-1)&&&s);have h2:=xi (s:=s) h0;omega
def vz (s:AS):(ct s).length<=4294967296:=by
 unfold ct dx;have h1:=afp (s:=s) (s.toNat+1) s;have h2:=xx (a2s s (s.toNat+1) s);have h3:=s.isLt;split
 · simp
 omega
end
section
open Go.RowKit
section
variable {w0:World}{nt:Nat}{c:Ctx}{s:S}{a:Act}{w:World}
def ag.short(h:ag w0 nt c s a w){id id' sz n m:Nat}{el:TypeId}{f:Nat->Nat->PV}(ho:s.o id=some (.arr true sz el n f))(hm:m<=n)(hnm:NM s id')(hno:s.o id'=none){u:Value}(hu:b9 c s.o (.win id n 0 m) u) :
 ∃c',c'.old=c.old/\ag w0 nt c' ((s.setO id none).setO id' (some (.arr true sz el m f))) a w/\ak c' ((s.setO id none).setO id' (some (.arr true sz el m f))).o (.v (.one (.ref id' m))) u:=by
 have hne:id≠id':=fun e=>by rw[<- e,ho]at hno;cases hno
 obtain⟨ad,ad',cap,q1,q2,q3,q4,q5,q6⟩:=a7c hu ho rfl;obtain⟨h0,h1,h5⟩:=h.objs id _ ho
 have hold:∀k ob,((s.setO id none).setO id' (some (.arr true sz el m f))).o k=some ob->k≠id'->s.o k=some ob/\k≠id:=fun k ob hk hk'=>by
  simp only[S.setO,if_neg hk']at hk;by_cases hki:k=id
  · subst hki;simp at hk
  rw[if_neg hki]at hk;exact⟨hk,hki⟩
 obtain ⟨bk,hbk,hok⟩:∃bk:Nat->Prop,(∀b,bk b->c.blk id b)/\∀c':Ctx,c'.imm=c.imm->c'.own id'=u->c'.blk id'=bk->∀o':ap,dq 0 c' o' w id' (.arr true sz el m f):=by
  rcases h5 with⟨h6,xs,h2,h4⟩|⟨h6|h6,h7,h8⟩
  · obtain ⟨hxl,hrow⟩:=h2
    rcases hrow with⟨hv0,hz⟩|⟨g,cap',cur,hown,hbase,hheap,hnc,hcm,hcs,htake⟩
    · rw [hv0]at q1
      simp only[Value.slice.injEq]at q1;obtain⟨rfl,_,rfl⟩:=q1;obtain rfl:n=0:=by omega
      obtain rfl:m=0:=by omega
      refine⟨noB,fun b hb=>hb.elim,fun c' e1 e2 e3 o'=>⟨h0,bm3 _, .inr ⟨.inr rfl,e3, ?_⟩⟩⟩;rw[e2,q2];exact⟨ad',0,rfl,bm1 _,bm3 _,fun _=>rfl,fun h=>absurd h (boj 0)⟩
    rw[hown]at q1;simp only[Value.slice.injEq,true_and]at q1;obtain⟨rfl,rfl⟩:=q1;by_cases hcap:cap'=0
    · subst hcap
      obtain rfl:m=0:=by omega
      refine⟨noB,fun b hb=>hb.elim,fun c' e1 e2 e3 o'=>⟨h0,bm3 _, .inr ⟨.inr rfl,e3, ?_⟩⟩⟩;rw[e2,q2];exact⟨ad',0,rfl,bm1 _,bm3 _,fun _=>rfl,fun h=>absurd h (boj 0)⟩
    obtain rfl:=q6 bpw;simp only[bmq,d6,Nat.zero_mul,bnt,Nat.sub_zero]at q2;have hmul:m*sz<=n*sz:=bmb _ hm;refine⟨ep u,fun b hb=>by rw[h6,hown];rw[q2]at hb;exact hb,fun c' e1 e2 e3 o'=>⟨h0,bme hm h1, .inl ⟨by rw[e2,e3],xs.take (m*sz),⟨by rw[bmw,hxl,bne hmul], .inr ⟨g,cap',cur,by rw[e2,q2],hbase,hheap,by omega,hcm,hcs, ?_⟩⟩,fun i j hi hj=>?_⟩⟩⟩
    · rw[<- htake,List.take_take,bne hmul]
    obtain⟨x,hx,hr⟩:=h4 i j bpw hj;refine⟨x, ?_,by rw[e1];exact hr⟩;rw[bnb,if_pos (af2 hi hj)];exact hx
  · cases h6
  subst h6;obtain rfl:m=0:=by omega
  refine⟨noB,fun b hb=>hb.elim,fun c' e1 e2 e3 o'=>⟨h0,bm3 _, .inr ⟨.inr rfl,e3, ?_⟩⟩⟩;obtain⟨ad2,cap2,r1,r2,r3,r4,_⟩:=h8;rw[q1]at r1;simp only[Value.slice.injEq,true_and]at r1;obtain⟨rfl,rfl⟩:=r1;obtain rfl:cap=0:=r4 rfl;rw[e2,q2];exact⟨ad',0,rfl,bm1 _,bm3 _,fun _=>rfl,fun h=>absurd h (boj 0)⟩
 have hevo:∀k,k≠id'->Evo c s.o { c with own:=fun k=>if k=id' then u else c.own k,blk:=fun k=>if k=id' then bk else c.blk k } ((s.setO id none).setO id' (some (.arr true sz el m f))).o k:=fun k hk=>by
  by_cases hki:k=id
  · subst hki
    exact .inl (by simp[S.setO,hk])
  exact Evo.of_same (by simp[S.setO,hk,hki]) (by simp[hk])
 refine⟨{ c with own:=fun k=>if k=id' then u else c.own k,blk:=fun k=>if k=id' then bk else c.blk k },rfl,⟨h.defers,h.size,h.below,fun d x hx=>?_,fun k ob hk=>?_,fun i i' obi obi' b hi hi' hb hb'=>?_,h.imm,fun k ob b hk hb=>?_,h.was,h.frm,fun k ob b hk hb=>?_,fun k hk=>?_⟩, ?_⟩
 · exact(h.tmps d x hx).evo (Imm.le.refl c.imm) fun k hkm=>hevo k (by rintro rfl;exact hnm.1 d x hx hkm)
 · by_cases hk':k=id'
   · subst hk'
     obtain rfl:ob=.arr true sz el m f:=by simpa [S.setO]using hk.symm
     refine hok _ ?_ ?_ ?_ _<;>first|rfl|exact if_pos rfl
   obtain⟨hk1,hk2⟩:=hold k ob hk hk';exact(h.objs k ob hk1).keep (Imm.le.refl c.imm) (by simp[hk']) (by simp[hk']) (fun j hj=>hevo j (by rintro rfl;exact hnm.2.1 k ob hk1 hj)) fun b _=>rfl
 · have hone:∀k ob b,k≠id'->((s.setO id none).setO id' (some (.arr true sz el m f))).o k=some ob->c.blk k b->bk b->False:=fun k ob b hk' hk hb hbb=>by
    obtain⟨hk1,hk2⟩:=hold k ob hk hk';exact hk2 (h.inj k id ob _ b hk1 ho hb (hbk b hbb))
   by_cases e1:i=id'
   · by_cases e2:i'=id'
     · rw[e1,e2]
     exact(hone i' obi' b e2 hi' (by simpa [e2]using hb') (by simpa [e1]using hb)).elim
   by_cases e2:i'=id'
   · exact(hone i obi b e1 hi (by simpa [e1]using hb) (by simpa [e2]using hb')).elim
   exact h.inj i i' obi obi' b (hold i obi hi e1).1 (hold i' obi' hi' e2).1 (by simpa [e1]using hb) (by simpa [e2]using hb')
 · by_cases hk':k=id'
   · exact h.sep id _ b ho (hbk b (by simpa [hk']using hb))
   exact h.sep k ob b (hold k ob hk hk').1 (by simpa [hk']using hb)
 · by_cases hk':k=id'
   · exact h.fsep id _ b ho (hbk b (by simpa [hk']using hb))
   exact h.fsep k ob b (hold k ob hk hk').1 (by simpa [hk']using hb)
 · exact(h.fixed k hk).trans (hevo k (by have:=hnm.2.2;omega))
 refine⟨hu.1,fun l=>by simp[S.setO],fun ob2 s2 e2 n2 ho2 hd2=>?_⟩;simp only[S.setO,if_true,bly]at ho2;subst ho2;simp only[aa.dim,bly,bm4]at hd2;obtain⟨rfl,rfl,rfl⟩:=hd2;exact⟨bm1 _,fun _=>by simp⟩
end
section
variable {ro:Option Nat}{P:Program}{nt:Nat}{st:HSt}{Q:Exit->HSt->Prop}
def az7 {c:Code} (d id2:Nat) {id n n' i m s:Nat} {e:TypeId} {f:Nat->Nat->PV} (hd:b6 st.t d=some (.v (.one (.win id n i m)))) (ho:b6 st.o id=some (.arr true s e n' f)) (hn:n'=n) (hi:i=0) (hm:m<=n) (hnew:jz id2 st=true)
 (h:HW (ro:=ro) P nt c ⟨(d,some (.v (.one (.ref id2 m))))::st.t,(id2,some (.arr true s e m f))::(id,none)::st.o⟩ Q):HW (ro:=ro) P nt c st Q:=by
 subst hn hi;obtain⟨hnm,hno⟩:=ed hnew;refine wc ⟨st.t,(id2,some (.arr true s e m f))::(id,none)::st.o⟩ d (.v (.one (.ref id2 m))) (fun w0 m0 a w hr=>?_) h;obtain⟨cc,hold,hrr⟩:=hr;obtain⟨c',e1,e2,e3⟩:=hrr.short ho hm hnm hno (hrr.tmps d _ hd)
 have e4:(HSt.den ⟨st.t,(id2,some (.arr true s e m f))::(id,none)::st.o⟩)=(st.den.setO id none).setO id2 (some (.arr true s e m f)):=by
  unfold HSt.den S.setO;simp[az]
 exact⟨c',e1.trans hold,by rw[e4];exact e2,by rw[e4];exact e3⟩
def age {c:Code} (d id2:Nat) {id n n' s:Nat} {e:TypeId} {f:Nat->Nat->PV} (hd:b6 st.t d=some (.v (.one (.ref id n)))) (ho:b6 st.o id=some (.arr true s e n' f)) (hn:n'=n) (hnew:jz id2 st=true)
 (h:HW (ro:=ro) P nt c ⟨(d,some (.v (.one (.ref id2 n))))::st.t,(id2,some (.arr true s e n f))::(id,none)::st.o⟩ Q):HW (ro:=ro) P nt c st Q:=by
 subst hn;obtain⟨hnm,hno⟩:=ed hnew;refine wc ⟨st.t,(id2,some (.arr true s e n' f))::(id,none)::st.o⟩ d (.v (.one (.ref id2 n'))) (fun w0 m0 a w hr=>?_) h;obtain⟨cc,hold,hrr⟩:=hr;have hu:b9 cc st.den.o (.ref id n') (a.tmps.getD d undef):=hrr.tmps d _ hd
 have hw:b9 cc st.den.o (.win id n' 0 n') (a.tmps.getD d undef):=by
  refine⟨hu.1,hu.2.1,fun ob s2 e2 n2 ho2 hd2=>⟨(hu.2.2 _ _ _ _ ho2 hd2).1,fun hk=>?_⟩⟩;have he:=(hu.2.2 _ _ _ _ ho2 hd2).2 hk;obtain rfl:ob=.arr true s e n' f:=Option.some.inj (ho2.symm.trans ho);simp only[aa.dim,bly,bm4]at hd2;obtain⟨rfl,rfl,rfl⟩:=hd2;obtain⟨ad,cap,hv,hc1,hc2⟩:=a7w (hrr.objs _ _ ho2);exact⟨ad,ad,cap,hv,by rw[he,hv];rfl,by omega,hc1,hc2,fun _=>by cases ad<;>simp[a49]⟩
 obtain⟨c',e1,e2,e3⟩:=hrr.short ho (bm1 _) hnm hno hw
 have e4:(HSt.den ⟨st.t,(id2,some (.arr true s e n' f))::(id,none)::st.o⟩)=(st.den.setO id none).setO id2 (some (.arr true s e n' f)):=by
  unfold HSt.den S.setO;simp[az]
 exact⟨c',e1.trans hold,by rw[e4];exact e2,by rw[e4];exact e3⟩
end
end
section
def alu {l:List AS} {k:Nat} (hk:l.length<=k) (h:∀j,0<j->j<k->¬l.getD j default=l.getD (j-1) default):jg l=l:=by
 have:=uz (bm1 l.length) fun j h1 h2=>h j h1 bpw;rw[bmd]at this;exact this
def afl {l m:List AS} {k p q:Nat} (hC:CpI l k p q m) (hq:¬q<l.length):(jg l).length=p/\m.take p=jg l:=by
 have e:=hC.pre;have h1:=hC.ql;have h2:=hC.len;have h3:=hC.pq;rw[show q=l.length by omega,bmd]at e;exact⟨by rw[<- e];simp;omega,e⟩
def b3e {l m:List AS} {k p q n a d:Nat} {z:List Value} {e:TypeId} (hC:CpI l k p q m) (hq:¬q<l.length) (ha:p<=a) (hn:n=p):CoO (.arr true 1 e n (ru (lf sC m) a d z)) (.arr true 1 e (jg l).length (lf sC (jg l))):=by
 obtain⟨h1,h2⟩:=afl hC hq;subst hn;refine⟨fun h=>h,rfl,rfl,h1,fun i j hi hj=>CoP.of_eq ?_⟩;show ru (lf sC m) a d z i j=lf sC (jg l) i j;unfold ru;rw[if_neg bpw];simp only[lf,List.getD];have e:(jg l)[i]? = m[i]?:=by rw[<- h2,bnb,if_pos hi]
 rw[e]
def fe{id n m:Nat}(h:n=m):CoR (.v (.one (.ref id n))) (.v (.one (.ref id m))):=by rw[h];exact CoR.refl _
end
end Go.Hx

/- A part of the proof: SrK Jw2 Kw7 Ls8 Ls9 Jn2 Ch22 Ch25 X31 Cc4. -/
import Derived.Shelf.SlSortCmp.NoneTotal
import Derived.Test.YtnlcekpflogjkaaGreatDoorTy35
import Derived.Test.YtnlcekpflogjkaaGreatDoorTy37
import Derived.Test.YtnlcekpflogjkaaGreatDoorTy38
set_option linter.all false
set_option maxRecDepth 100000
set_option maxHeartbeats 1000000
namespace Go.Hx
section
open Go.Proofs Go.RowKit Go.Sort
def apj {α:Type} [Inhabited α] {enc:α->List Value} {k:Nat} (hk:∀x,(enc x).length=k) {l:List α} {i j:Nat} (hi:i<l.length) (hj:j<k) :
 (flatK enc k l.toArray).toList[i*k+j]? = some ((enc (l.getD i default)).getD j (.bool false)):=by
 have hlt:i*k+j<l.toArray.size*k:=by rw[bu0];exact a9o hi hj
 have hlt2:i*k+j<(flatK enc k l.toArray).size:=by rw[size_flatK];exact hlt
 have h:=get_flatK enc k l.toArray (i*k+j) hlt;have k0:0<k:=by omega
 have e1:(i*k+j)/k=i:=(blk_iff k i _ k0).1 ⟨by omega,by omega⟩;have e2:(i*k+j)%k=j:=by rw[Nat.mod_eq_sub_div_mul,e1];omega
 rw[e1,e2,getElem!_pos (flatK enc k l.toArray) _ hlt2,getElem!_pos l.toArray i (by simpa using hi)]at h;rw[bup,bue hlt2,h];have hj2:j<(enc l.toArray[i]).length:=by rw[hk];exact hj
 rw[getElem!_pos (enc l.toArray[i]) _ hj2];simp only[List.getElem_toArray,bsv,bsu hi,bu9]at hj2 ⊢;rw[bsu hj2];rfl
def avk{P:Program}{ρ:Go.Shelf.Ren}{α:Type}[Inhabited α](L:SlLaysF0.n6 P ρ)(k:Nat)(hk0:0<k)(aE:∀w,(isAgg (ρ.t 24)).run P w=.ok true w)(zE:∀w,(Go.sizeOf (ρ.t 24)).run P w=.ok k w)(enc:α->List Value)(hk:∀x,(enc x).length=k)(h1:∀x,∀v∈enc x,v.oneCell'=true)
 (cf:α->α->Int) (hO:SWO (ltOf cf)) (hT:∀x y,(ltOf cf) x y=false->(ltOf cf) y x=false->x=y)
 (g:Nat) (caps:Nat->PV) (hg:∀args w,(callFunc g args).run P w=.ok (.enter g args) w) (hc:∀x y,a6 P g [.agg ((enc x).map .raw), .agg ((enc y).map .raw)] (ae [.one (.raw (.int .i64 (cf x y)))])) (id:Nat) (e:TypeId) (l:List α) (hsz:l.length<=8589934592) :
 d9 P (ρ.f 6) [.one (.ref id l.length), .one (.p (.fn g 0 caps))] [(id, .arr true k e l.length (lf (fun x j=>.raw ((enc x).getD j (.bool false))) l))] (.tup [])
  [(id, .arr true k e l.length (lf (fun x j=>.raw ((enc x).getD j (.bool false))) (l.mergeSort fun x y=>!(ltOf cf) y x)))] [id]:=by
 intro w c us hM hus
 match us,hus with
 | [u,v],⟨hu,hv,_⟩ =>
  obtain⟨cs,rfl,hcl,_⟩:=hv;have hcs:cs=[]:=bua hcl;subst hcs;have hl1:lk [(id,a7.arr true k e l.length (lf (fun x j=>.raw ((enc x).getD j (.bool false))) l))] id=some (.arr true k e l.length (lf (fun x j=>.raw ((enc x).getD j (.bool false))) l)):=by simp[lk]
  have hu2:=(hu.2.2 _ _ _ _ hl1 rfl).2 rfl;subst hu2;have hob:=hM.objs id _ hl1;obtain⟨h0,hmax,h5⟩:=hob;have hlen:(l.mergeSort fun x y=>!(ltOf cf) y x).length=l.length:=bw0 _
  have hev:∀f':Nat->Nat->PV,Evo c (lk [(id,a7.arr true k e l.length (lf (fun x j=>.raw ((enc x).getD j (.bool false))) l))]) c (lk [(id,a7.arr true k e l.length f')]) id:=fun f' =>
   .inr (.inr ⟨_, .arr true k e l.length f',k,e,l.length,l.length,hl1,rfl,by simp[lk],rfl,bsw _,fun _=>rfl,fun _ _ _ _ _ _ _ h=>by cases h⟩)
  rcases buc l.length with hz|hpos
  · have hl:l=[]:=bua hz
    subst hl
    have hform:∃ad cap,c.own id=.slice ad 0 cap:=by
     rcases h5 with⟨_,xs,h2,_⟩|⟨_,_,ad,cap,hv,_⟩
     · rcases h2.2 with⟨hv,_⟩|⟨g,cap,cur,hv,_⟩
       · exact⟨none,0,hv⟩
       exact⟨_,cap,hv⟩
     exact⟨ad,cap,hv⟩
    obtain⟨ad,cap,hown⟩:=hform;have hms:([]:List α).mergeSort (fun x y=>!(ltOf cf) y x)=[]:=by simp
    rw[hown,hms];refine(AnyF.slices_SortFunc_none { L with } ad cap (.func (.func g) #[] #[]) w).mono ?_;rintro e' w' ⟨rfl,rfl⟩
    exact ⟨_,c,rfl,⟨[],rfl,trivial⟩,hM,Below.refl _ _,fun _ _ _=>⟨rfl,rfl⟩,fun id0 ob b ho hb=>.inr ⟨id0,ob,ho,hb⟩,fun id0 hid=>by
     rw[bte.1 hid]
     exact Evo.refl _ _ _⟩
  obtain ⟨h6,xs,h2,h4⟩:c.blk id=ew (c.own id)/\∃xs,w.ownsRow 0 e k (c.own id) l.length xs/\∀i j,i<l.length->j<k->∃x,xs[i*k+j]? = some x/\aq c.imm (lf (fun x j=>.raw ((enc x).getD j (.bool false))) l i j) x:=by
   rcases h5 with h5|⟨h6|h6,_⟩
   · exact h5
   · cases h6
   omega
  obtain⟨hxl,hrow⟩:=h2
  rcases hrow with⟨_,hz⟩|⟨b,cap,cur,hown,hbase,hheap,hnc,hcm,hcs,htake⟩
  · omega
  have hblk:c.blk id b:=by rw[h6,hown];rfl
  have hlt:b<w.heap.size:=(bt3.1 hheap).1
  have hcell:∀t,t<l.length*k->cur[t]? = some (flatK enc k l.toArray)[t]!:=fun t ht=>by
   have htk:t/k<l.length:=Nat.div_lt_of_lt_mul (by rw[Nat.mul_comm];exact ht);have hmk:t%k<k:=Nat.mod_lt _ hk0;have hdm:t/k*k+t%k=t:=by rw[Nat.mul_comm];exact Nat.div_add_mod t k
   obtain⟨x,hx,hr⟩:=h4 (t/k) (t%k) htk hmk;have hf:=apj (enc:=enc) hk htk hmk;rw[hdm]at hx hf;rw[<- htake,btx,if_pos ht,bup]at hx;rw[hx];have hr:x=(enc (l.getD (t/k) default)).getD (t%k) (.bool false)/\_:=hr;rw[hr.1];have hft:t<(flatK enc k l.toArray).size:=by rw[size_flatK,bu0];exact ht
   rw[bup,bue hft]at hf;rw[getElem!_pos (flatK enc k l.toArray) _ hft];exact hf.symm
  have hH:HoldsK enc k w b 0 l.toArray:=fun j hj=>by
   have hj:j<l.length*k:=by rw[size_flatK,bu0]at hj;exact hj
   rw[btk];refine⟨?_,by simp[World.frozen?,hheap]⟩;simp only[World.cell?,hheap,hcell j hj];rfl
  have hcmp:CmpLays P g #[] enc k cf b 0 l.toArray.size w:=by
   intro m os dk hdk x y
   have hcimm:∀b' ob,c.imm b'=some ob->(sortWorldK enc k w b 0 m dk os).heap[b']? = some ob:=fun b' ob hb'=>by
    have hne:b'≠b:=fun he=>by
     have:=hM.sep id _ b hl1 hblk;rw[<- he,hb']at this;cases this
    have hw:=hM.imm b' ob hb';rw[show sortWorldK enc k w b 0 m dk os=sortWorld (fun x:Value=>x) w b 0 m (flatK enc k dk) os from rfl,sg (bt3.1 hw).1 hne];exact hw
   have hrep:∀x,lq c.imm (.agg ((enc x).map .raw)) (.agg (enc x).toArray):=fun x=>⟨enc x,rfl,by
    have:∀l:List Value,(∀v∈l,v.oneCell'=true)->fl c.imm (l.map .raw) l:=by
     intro l
     induction l with
     |nil=>intro _;trivial
     |cons v l ih=>exact fun h=>⟨⟨rfl,h v bx0⟩,ih fun u hu=>h u (by simp[hu])⟩
    exact this _ (h1 x)⟩
   have h:=hc x y (sortWorldK enc k w b 0 m dk os) c.imm [.agg (enc x).toArray, .agg (enc y).toArray] c.tab hcimm ⟨hrep x,hrep y,trivial⟩;refine h.mono ?_;rintro e' w' ⟨v,imm',rfl,hr,_,_,hb⟩;obtain⟨q,os',hq⟩:=ag3 hb;exact⟨by rw[hr.1],q,os',hq⟩
  have hS:=AnyQ.slices_SortFunc_total L k aE zE enc hk h1 cf hO g #[] b 0 cap l.toArray w hg hcmp hH hlt (by rw[bu0];omega) hT;rw[hown];refine Calls.mono hS ?_;rintro e' w' ⟨rfl,m,os,rfl⟩;generalize hSd:(l.mergeSort fun x y=>!(ltOf cf) y x)=S at *;rw[show sortWorldK enc k w b 0 m S.toArray os=sortWorld (fun x:Value=>x) w b 0 m (flatK enc k S.toArray) os from rfl]
  refine ⟨_,c,rfl,⟨[],rfl,trivial⟩,⟨fun id0 ob ho=>?_,fun id0 id1 ob0 ob1 b' ho0 ho1 _ _=>(fy ho0).1.trans (fy ho1).1.symm,fun b' ob hb'=>?_,fun id0 ob b' ho hb'=>?_⟩,ae9,
   fun b' hb' hno=>⟨sg hb' (fun he=>hno _ _ hl1 (by rw[he];exact hblk)),rfl⟩,fun id0 ob b' ho hb'=>.inr ⟨_,_,hl1,by rw[<- (fy ho).1];exact hb'⟩,fun id0 hid=>by
    rw[bte.1 hid]
    exact hev _⟩
  · obtain ⟨rfl,rfl⟩:=fy ho
    refine⟨h0,hmax, .inl ⟨h6,(flatK enc k S.toArray).toList,⟨by rw[bu2,size_flatK,bu0,hlen], .inr ⟨b,cap,putCells (fun x=>x) 0 (flatK enc k S.toArray) cur,hown,hbase,afz hheap,hnc,hcm,by simpa [putCells]using hcs, ?_⟩⟩,fun i j hi hj=>?_⟩⟩
    · have hle:l.length*k<=cap*k:=bt9 _ hnc
      have:=aor (enc:=fun x:Value=>x) (d:=flatK enc k S.toArray) (cur:=cur) (by rw[size_flatK,bu0,hlen,hcs];exact hle);rw[size_flatK,bu0,hlen,List.map_id']at this;exact this
    have hi':i<S.length:=by rw[hlen];exact hi
    refine⟨_,apj hk hi' hj, ?_⟩;refine⟨rfl, ?_⟩;have hj2:j<(enc (S.getD i default)).length:=by rw[hk];exact hj
    rw[bsv,bsu hj2,bu9];exact h1 _ _ (bta hj2)
  · have hne:b'≠b:=fun he=>by
     have:=hM.sep id _ b hl1 hblk;rw[<- he,hb']at this;cases this
    have hw:=hM.imm b' ob hb';rw[sg (bt3.1 hw).1 hne];exact hw
  have:=(fy ho).1;subst this;exact hM.sep id0 _ b' hl1 hb'
 | [],h=>exact h.elim
 | [_],⟨_,h⟩=>exact h.elim
 |_::_::_::_,⟨_,_,h⟩=>exact h.elim
end
section
open Go.Proofs
def bdf {α:Type} [Inhabited α] {cl:Bool} {c:α->Nat->PV} {x y z:α} {f:Nat->Nat->PV} (h0:CoP (f 0 0) (c x 0)) (h1:CoP (f 1 0) (c y 0)) (h2:CoP (f 2 0) (c z 0)):CoP (.sl 3 1 cl f) (psl 1 c [x,y,z]) :=
 CoP.sl rfl (.inl rfl) (fun h=>by cases h) fun i j hi hj=>by
  obtain rfl:j=0:=by omega
  match i,hi with
  |0,_=>exact h0
  |1,_=>exact h1
  |2,_=>exact h2
def bf7(a b:Val):orF [gj a.kind b.kind,gj a.num b.num,nq a.str b.str]=gv a b:=by
 have e:∀x y:Int,sgn x y=gj x y:=fun _ _=>rfl;unfold gv orF;rw[e,e];by_cases h1:gj a.kind b.kind=0
 · by_cases h2:gj a.num b.num=0
   · by_cases h3:nq a.str b.str=0
     · simp[h1,h2,h3]
     simp[h1,h2,h3]
   simp[h1,h2]
 simp[h1]
def azf (a:Int):a6 bxn 215 [pI a] (ae [pB false]):=by
 refine hpx (nt:=6) Tryz.func215 ?_;refine ig ?_;exact hx8 rfl rfl rfl (⟨ccb bx0,trivial⟩)
def bgs (a b:Int):a6 bxn 156 [pI a,pI b] (ae [pI (gj a b)]):=by
 refine hpx (nt:=20) Tryz.func156 ?_;refine w_7 ?_;refine qcx (wgx Tryz.func215) (azf _) ?_;refine w_5 ?_;refine qcx (wgx Tryz.func215) (azf _) ?_;refine b82 ?_;refine hcd ?_ ?_<;>intro h0
 · refine v_4 ?_;exact⟨cci bxg,trivial⟩
 refine w_8 ?_;refine hcd ?_ ?_<;>intro h1
 · refine v_4 ?_;exact⟨cci bxg,trivial⟩
 refine v_5 ?_;exact⟨cci bxg,trivial⟩
def bbp (a b:ByteArray):a6 bxn 157 [pS a,pS b] (ae [pI (nq a b)]):=by
 refine hpx (nt:=8) Tryz.func157 ?_;refine w_8 ?_;refine qcx bc4 (baa _ _) ?_;refine v_2 ?_;exact CoL.refl _
def auh (a b:Val):a6 bxn 101 [a.pc,b.pc] (ae [pI (gv a b)]):=by
 refine hpx (nt:=22) Tryz.func101 ?_;refine sx7 ?_;refine m9 0 ?_;refine m9 1 ?_;refine w_8 ?_;refine qcx aiv (avi _ _) ?_;refine w_4 ?_;refine qcx (wgx Tryz.func156) (bgs _ _) ?_;refine w_4 ?_;refine qcx (wgx Tryz.func157) (bbp _ _) ?_;refine m9 2 ?_;refine rc rfl rfl rfl rfl rfl rfl (wgx Tryz.func154) (cOr [gj a.kind b.kind,gj a.num b.num,nq a.str b.str]) (⟨CoC.one (bdf (CoP.refl _) (CoP.refl _) (CoP.refl _)),trivial⟩) rfl rfl ?_;refine v_3 ?_;exact⟨cci (bf7 a b),trivial⟩
def bgh(l:List Val):d9 bxn 102 [.one (.ref 900 l.length)] [(900, .arr true 3 84 l.length (lf Val.c l))] (.v (.one (.p (vals (gi l))))) [] []:=by
 refine hfx (nt:=61) Tryz.func102 ?_;refine d5 ?_;refine aa5 900 rfl fun hlen=>?_;refine da ?_;refine hcd ?_ ?_<;>intro h0
 · refine w_5 ?_;refine bh 2 rfl rfl rfl ?_;refine hrr ?_;exact⟨_,_,rfl,bwy,ati (k:=l.length) (bsw _) (fun j h1 h2=>by omega),trivial⟩
 refine w_7 ?_;refine ai (ι:=Nat) (ka 0 kn) (kb 900 km) (fun k=>⟨[(3,some (vI k))],[]⟩) (fun k=>1<=k/\k<=l.length/\∀j,0<j->j<k->¬l.getD j default=l.getD (j-1) default) (fun k=>l.length-k) (1) (⟨bsw _,by omega,fun j h1 h2=>by omega⟩) kk ?_;rintro k ⟨hk1,hk,hI⟩;refine w_8 ?_;refine hcd ?_ ?_<;>intro h1
 ·
  refine sv ?_;refine al _ rfl ?_ ?_<;>intro r2
  ·
   have h2:=r2;have hq:=eqJ (l:=l) (a:=k) (b:=k-1) (by simpa [and_assoc]using r2) rfl bww;refine jo ?_;refine ai (ι:=Nat×Nat×List Val) (ka 0 (ka 4 kn)) km (fun x=>⟨[(3,some (vI x.1)),(5,some (vI ((x.2.1:Int)-k)))],[(900,some (.arr true 3 84 l.length (lf Val.c x.2.2)))]⟩) (fun x=>CpJ l k x.1 x.2.1 x.2.2) (fun x=>l.length-x.2.1) ((k,k+1,l)) (CpJ.start hk1 bww hI hq) ⟨⟨zy,⟨_,rfl,(coi bwz)⟩,trivial⟩,uu⟩ ?_;rintro⟨p,q,m⟩ hC;have hC0:=hC;obtain⟨hml,hkq,hpq,hql,_,_⟩:=hC0;dsimp only at hC hml hkq hpq hql;refine w_8 ?_;refine hcd ?_ ?_<;>intro h3
   ·
    simp only[dv,b7,bt8]at h3;refine sv ?_;refine al _ rfl ?_ ?_<;>intro r4
    ·
     have h4:=r4;have hq2:=boj (l:=m) (a:=q) (b:=q-1) (by simpa [and_assoc]using r4) bx6 bx6;refine a5y ?_
     first | (refine lpz (p+1, q+1, m.set p (m.getD q default)) ⟨⟨⟨_, rfl, (coi bx1)⟩, ⟨_, rfl, (coi bx1)⟩, tt⟩, ⟨⟨_, rfl, (aod id hml.symm bww bxf bx4)⟩, trivial⟩⟩ ?_; exact hC.keep bww hq2)
           |(refine lpz (p,q+1,m) ⟨⟨⟨_,rfl,(coi bwz)⟩,⟨_,rfl,(coi bwz)⟩,tt⟩,uu⟩ ?_;exact hC.skip bww hq2)
    have h4:=r4;have hq2:=eqJ (l:=m) (a:=q) (b:=q-1) (by simpa [and_assoc]using r4) bx6 bx6;refine w_6 ?_
    first | (refine lpz (p+1, q+1, m.set p (m.getD q default)) ⟨⟨⟨_, rfl, (coi bx1)⟩, ⟨_, rfl, (coi bx1)⟩, tt⟩, ⟨⟨_, rfl, (aod id hml.symm bww bxf bx4)⟩, trivial⟩⟩ ?_; exact hC.keep bww hq2)
          |(refine lpz (p,q+1,m) ⟨⟨⟨_,rfl,(coi bwz)⟩,⟨_,rfl,(coi bwz)⟩,tt⟩,uu⟩ ?_;exact hC.skip bww hq2)
   simp only[dv,b7,bt8]at h3;refine w_6 ?_;refine r9 0 true ?_;refine w_5 ?_;refine aii rfl rfl rfl rfl rfl ?_;refine w_2 ?_;refine hrr ?_;exact⟨_,_,rfl,bwy,bfp hC bww (by simp[b7]),trivial⟩
  have h2:=r2;have hq:=neJ (l:=l) (a:=k) (b:=k-1) (by simpa [and_assoc]using r2) rfl bww;refine w_6 ?_;refine lpz (k+1) kk ?_;refine⟨by omega,by show k+1<=_;omega,fun j h1 h2=>?_⟩
  rcases bvr (bvv h2)with h|h
  · exact hI j h1 h
  subst h;exact hq
 refine w_6 ?_;refine bh 2 rfl rfl rfl ?_;refine hrr ?_;exact⟨_,_,rfl,bwy,ati (k:=k) bww hI,trivial⟩
abbrev a2k(v:Val):List Value:=[.int .i64 v.kind, .int .i64 v.num, .string v.str]
def bhz(v:Val):∀j,j<3->(PV.raw ((a2k v).getD j (.bool false)))=v.c j:=aha rfl rfl rfl
def b5z (g:Nat) (caps:Nat->PV) (hg:∀args w,(callFunc g args).run bxn w=.ok (.enter g args) w) (hc:∀x y:Val,a6 bxn g [x.pc,y.pc] (ae [pI (gv x y)])) (id:Nat) (l:List Val) (hsz:l.length<=8589934592) :
 d9 bxn 100 [.one (.ref id l.length), .one (.p (.fn g 0 caps))] [(id, .arr true 3 84 l.length (lf (fun v j=>.raw ((a2k v).getD j (.bool false))) l))] (.tup []) [(id, .arr true 3 84 l.length (lf (fun v j=>.raw ((a2k v).getD j (.bool false))) (ac9 gv l)))] [id] :=
 avk Tryz.laysSortV 3 bx3 Tryz.isAgg84 Tryz.sizeOf84 a2k (fun _=>rfl) (fun x v hv=>by
  rcases bt7.1 hv with rfl|hv
  · rfl
  rcases bt7.1 hv with rfl|hv
  · rfl
  rcases bt7.1 hv with rfl|hv
  · rfl
  cases hv) gv vz.swo vz.eq g caps hg (fun x y=>hc x y) id 84 l hsz
def bba {wr wr':Bool} {n:Nat} {e:TypeId} {l:List Val} (hw:wr'=true->wr=true):CoO (.arr wr 3 e n (lf (fun v j=>.raw ((a2k v).getD j (.bool false))) l)) (.arr wr' 3 e n (lf Val.c l)) :=
 ⟨hw,rfl,rfl,rfl,fun i j hi hj=>CoP.of_eq (bhz _ j hj)⟩
def co_encV' {wr wr':Bool} {n:Nat} {e:TypeId} {l:List Val} (hw:wr'=true->wr=true):CoO (.arr wr 3 e n (lf Val.c l)) (.arr wr' 3 e n (lf (fun v j=>.raw ((a2k v).getD j (.bool false))) l)) :=
 ⟨hw,rfl,rfl,rfl,fun i j hi hj=>CoP.of_eq (bhz _ j hj).symm⟩
def bl6 (id:Nat) (l:List Val) (hsz:l.length<=8589934592) (caps:Nat->PV) :
 d9 bxn 100 [.one (.ref id l.length), .one (.p (.fn 101 0 caps))] [(id, .arr true 3 84 l.length (lf (fun v j=>.raw ((a2k v).getD j (.bool false))) l))] (.tup []) [(id, .arr true 3 84 l.length (lf (fun v j=>.raw ((a2k v).getD j (.bool false))) (ac9 gv l)))] [id] :=
 b5z 101 caps (enters_of Tryz.func101 bxd rfl) auh id l hsz
end
section
open Go.Proofs
def b9t (t:Tbl) (hT:TOk t) (h12:t.attrs.length<=12) (h200:t.rows.length<=200):a6 bxn 85 [t.pc,pA 0,pB true] (ae [pI 0]):=by
 refine hpx (nt:=34) Tryz.func85 ?_;have hna:=hT.na;have h0f:∀m:Int,(asI 0).fdiv m=0:=fun m=>Int.zero_fdiv m;refine sx7 ?_;refine m9 0 ?_;refine w_6 ?_;refine qcx af7 (alu hT) ?_;refine bpq ?_;refine ak rfl rfl ?_ ?_<;>intro r0
 ·
  have h0:=tz1 r0;(iterate 2 refine k9 (gtf r0) ?_);(iterate 2 refine k9 rfl ?_);refine k9 (gtf r0) ?_;refine w_8 ?_;refine hrr ?_
  omega
 have h0:=tz2 r0;(iterate 2 refine qy ?_ (hg:=(gff r0)));refine ak rfl rfl ?_ ?_<;>intro r1
 ·
  have h1:=r1;(iterate 2 refine qy ?_ (hg:=(gtt r1)));refine qy ?_ (hg:=(gff r0));refine w_3 ?_;refine al _ rfl ?_ ?_<;>intro r2
  · have h2:=tz1 (c5 r1 (ax r0 r2));refine w_4 ?_;refine hrr ?_;omega
  have h2:=tz2 (c5 r1 (ax r0 r2));refine w_8 ?_;refine hcn ?_ ?_<;>intro h3
  · refine w_4 ?_;refine hrr ?_;simp_all
  refine v_5 ?_;exact CoL.refl _
 have h1:=r1;(iterate 2 refine k9 (gft r1) ?_);refine rq rfl rfl rfl rfl (gff r0) ?_ (hp:=r1);refine w_3 ?_;refine al _ rfl (fun e=>Bool.noConfusion ((a7a r0 rfl).symm.trans e)) (fun _=>?_);refine w_8 ?_
 refine hcn ?_ ?_<;>intro h4
 · refine w_4 ?_;refine hrr ?_;simp_all
 refine v_5 ?_;exact CoL.refl _
def bez(a b:Row)(ha:a.vals.length<=16)(hb:b.vals.length=a.vals.length):a6 bxn 139 [a.pc,b.pc] (ae [pA (agR a b)]):=by
 refine hpx (nt:=30) Tryz.func139 ?_;refine sx7 ?_;refine m9 0 ?_;refine m9 1 ?_;refine j5 ?_;refine br (ka 3 (ka 9 (ka 10 kn))) (kb 1 km) (fun i=>⟨[(5,some (vA (agT a b i))),(11,some (vI i))],[]⟩) a.vals.length kk ?_;rintro i hi;refine w_5 ?_;refine hcd ?_ ?_<;>intro h0
 ·
  have hil:i<a.vals.length:=by omega
  refine w_8 ?_;refine m9 2 ?_;refine ig ?_;refine qcx (wgx Tryz.func101) (auh (a.vals.getD i default) (b.vals.getD i default)) ?_;refine w_3 ?_;refine hcd ?_ ?_<;>intro h1
  ·
   refine ig ?_
   first | (refine lpz (i+1) ⟨⟨⟨_, rfl, (ip (by rw[show IntKind.wrap .u32 (1*2^(min ((i : Int)).toNat IntKind.u32.bits))=asI ((1 : AS)<<<i) from a00 1 i, bOr, b94 bwx]))⟩, tt⟩, uu⟩ ?_; show i+1<=_; omega)
         |(refine lpz (i+1) ⟨⟨⟨_,rfl,(ip (by rw[b98 bwx]))⟩,tt⟩,uu⟩ ?_;show i+1<=_;omega)
  refine w_5 ?_
  first | (refine lpz (i+1) ⟨⟨⟨_, rfl, (ip (by rw[show IntKind.wrap .u32 (1*2^(min ((i : Int)).toNat IntKind.u32.bits))=asI ((1 : AS)<<<i) from a00 1 i, bOr, b94 bwx]))⟩, tt⟩, uu⟩ ?_; show i+1<=_; omega)
        |(refine lpz (i+1) ⟨⟨⟨_,rfl,(ip (by rw[b98 bwx]))⟩,tt⟩,uu⟩ ?_;show i+1<=_;omega)
 obtain rfl:i=a.vals.length:=by omega
 refine v_6 ?_;exact CoL.refl _
def bq1 (y z:AS):a6 bxn 137 [pA y,pP (bx (asC z))] (ae [pB (decide (sub z y))]):=by
 refine hpx (nt:=8) Tryz.func137 ?_;refine fh ?_;exact hx8 rfl rfl rfl (⟨ccb (decide_eq_decide.2 j1),trivial⟩)
def bot (y z:AS):a6 bxn 138 [pA y,pP (bx (asC z))] (ae [pB (decide (sub y z))]):=by
 refine hpx (nt:=8) Tryz.func138 ?_;refine fh ?_;exact hx8 rfl rfl rfl (⟨ccb (decide_eq_decide.2 j1),trivial⟩)
def bmh(l:List AS)(z:AS):a6 bxn 67 [pP (asl l),pP (.fn 137 1 (fun j=>[bx (asC z)].getD j .any))] (ae [pB (l.any fun y=>decide (sub z y))]):=alc l 137 1 _ _ (wgx Tryz.func137) fun y=>bq1 y z
def bo0(l:List AS)(z:AS):a6 bxn 67 [pP (asl l),pP (.fn 138 1 (fun j=>[bx (asC z)].getD j .any))] (ae [pB (l.any fun y=>decide (sub y z))]):=alc l 138 1 _ _ (wgx Tryz.func138) fun y=>bot y z
def bn1(n:Nat)(av:List AS)(hn:n<=16):a6 bxn 86 [pI (n:Int),pP (asl av)] (ae [pP (asl (bho n av))]):=by
 refine hpx (nt:=37) Tryz.func86 ?_;have hsl:=xn (aa (n:Int));have h0z:(0:Int)<=(n:Int):=by omega
 have h1z:(n:Int)<=16:=by omega
 refine jo ?_;refine rq rfl rfl rfl rfl rfl ?_ (hp:=⟨qd h0z h1z,o9 h0z h1z⟩);refine rc rfl rfl rfl rfl rfl rfl aov (avw (aa (n:Int))) (⟨cci (ph h0z h1z),trivial⟩) rfl rfl ?_;refine w_4 ?_;refine d4 5 900 true 1 50 (lf sC []) bx3 rfl (CoP.sl rfl (.inr rfl) (fun h=>h) (fun i j hi _=>absurd hi (bt1 i))) (.inr rfl) rfl ?_;refine br (ka 1 (ka 13 (ka 14 kn))) km (fun i=>⟨[(5,some (.v (.one (.ref 900 (qj n av i).length)))),(15,some (vI i))],[(900,some (.arr true 1 50 (qj n av i).length (lf sC (qj n av i))))]⟩) ((c8 (aa (n:Int))).length) kk ?_;rintro i hi;have hul:=b5x (n:=n) (av:=av) (i:=i);refine w_5 ?_;refine hcd ?_ ?_<;>intro h0
 ·
  have hil:i<(c8 (aa (n:Int))).length:=by omega
  refine w_7 ?_;refine m9 0 ?_;refine w_2 ?_;refine jb 7 rfl rfl rfl ?_;refine w_4 ?_;refine qcx afl (bmh av ((c8 (aa (n:Int))).getD i default)) ?_;refine w_6 ?_;refine qcx afl (bo0 (qj n av i) ((c8 (aa (n:Int))).getD i default)) ?_;refine w_7 ?_;refine ak rfl rfl ?_ ?_<;>intro r1
  ·
   have h1:=dt r1;(iterate 2 refine qy ?_ (hg:=(gtt r1)));refine w_2 ?_;refine al _ rfl ?_ ?_<;>intro r2
   ·
    have h2:=dt (c5 r1 r2);refine w_3 ?_;refine m9 1 ?_;refine r9 2 true ?_;refine w_6 ?_
    first | (refine lpz (i+1) ⟨⟨⟨_, rfl, (bq (a49 hil bwx bwx))⟩, tt⟩, ⟨⟨_, rfl, (bw (a49 hil bwx bwx) (CoP.refl _))⟩, trivial⟩⟩ ?_; show i+1<=_; omega)
          |(refine lpz (i+1) ⟨⟨⟨_,rfl,(bm (by first|exact yz hil bwx|exact zj hil bwx))⟩,tt⟩,⟨⟨_,rfl,(b6 (by first|exact yz hil bwx|exact zj hil bwx))⟩,trivial⟩⟩ ?_;show i+1<=_;omega)
   have h2:=du (c5 r1 r2);refine w_5 ?_
   first | (refine lpz (i+1) ⟨⟨⟨_, rfl, (bq (a49 hil bwx bwx))⟩, tt⟩, ⟨⟨_, rfl, (bw (a49 hil bwx bwx) (CoP.refl _))⟩, trivial⟩⟩ ?_; show i+1<=_; omega)
         |(refine lpz (i+1) ⟨⟨⟨_,rfl,(bm (by first|exact yz hil bwx|exact zj hil bwx))⟩,tt⟩,⟨⟨_,rfl,(b6 (by first|exact yz hil bwx|exact zj hil bwx))⟩,trivial⟩⟩ ?_;show i+1<=_;omega)
  have h1:=du r1;(iterate 2 refine k9 (gft r1) ?_);refine w_8 ?_
  first | (refine lpz (i+1) ⟨⟨⟨_, rfl, (bq (a49 hil bwx bwx))⟩, tt⟩, ⟨⟨_, rfl, (bw (a49 hil bwx bwx) (CoP.refl _))⟩, trivial⟩⟩ ?_; show i+1<=_; omega)
        |(refine lpz (i+1) ⟨⟨⟨_,rfl,(bm (by first|exact yz hil bwx|exact zj hil bwx))⟩,tt⟩,⟨⟨_,rfl,(b6 (by first|exact yz hil bwx|exact zj hil bwx))⟩,trivial⟩⟩ ?_;show i+1<=_;omega)
 obtain rfl:i=(c8 (aa (n:Int))).length:=by omega
 refine w_2 ?_;refine bh 5 rfl rfl rfl ?_;refine v_4 ?_;exact⟨CoC.one (CoP.refl _),trivial⟩
def bpb(t:Tbl)(hT:TOk t):a6 bxn 88 [t.pc] (ae [pP (psl 3 wC (gw (gr (prs t.rows))))]):=by
 refine hpx (nt:=80) Tryz.func88 ?_;have hna:=hT.na;have hnr:=hT.nr;have hpb:=azk hnr;have hml:=ak5 (l:=gr (prs t.rows));refine sx7 ?_;refine m9 0 ?_;refine w_3 ?_;refine f8 [] [0,1] rfl ?_;refine a56 (k:=0) (L:=[1]) 901 rfl (fun bg=>?_);refine f0 (E:=en) (L1:=[1]) (L2:=[]) dw ?_;refine w_2 ?_;refine jv ?_;refine jo ?_;refine d4 4 900 true 1 50 (lf sC []) bx3 rfl (CoP.sl rfl (.inr rfl) (fun h=>h) (fun i j hi _=>absurd hi (bt1 i))) (.inr rfl) rfl ?_;refine ai (ι:=Nat×Array MapEntry×Nat) (ka 1 (ka 3 (ka 17 (ka 18 kn)))) (kb 0 km) (fun x=>⟨[(4,some (.v (.one (.ref 900 (gr (kj t.rows x.1 (x.1+1))).length)))),(19,some (vI x.1))],[(900,some (.arr true 1 50 (gr (kj t.rows x.1 (x.1+1))).length (lf sC (gr (kj t.rows x.1 (x.1+1)))))),(901,some (mpO bg x.2.1 x.2.2))]⟩) (fun x=>x.1<=t.rows.length/\WIn bxn x.2.1 x.2.2 (gr (kj t.rows x.1 (x.1+1)))) (fun x=>t.rows.length-x.1) ((0,#[],0)) (⟨bsx _,WIn.nil⟩) kk ?_;rintro⟨i,es,clock⟩ ⟨hi,hW⟩;dsimp only at hi hW ⊢;refine w_5 ?_;refine hcd ?_ ?_<;>intro h0
 ·
  have hir:i<t.rows.length:=by omega
  have hwi:(t.rows.getD i default).vals.length=t.attrs.length:=hT.width hir;have hls:dv (b7 t.rows.length none) (some ((i:Int)+1))=t.rows.length-(i+1):=rfl;refine w_8 ?_;refine m9 1 ?_;refine mz ?_;refine ai (ι:=Nat×Array MapEntry×Nat) (ka 1 (ka 3 (ka 6 (ka 17 (ka 18 (ka 19 (ka 28 (ka 29 kn)))))))) (kb 0 (kb 1 km)) (fun y=>⟨[(4,some (.v (.one (.ref 900 (gr (kj t.rows i (i+1+y.1))).length)))),(30,some (vI y.1))],[(900,some (.arr true 1 50 (gr (kj t.rows i (i+1+y.1))).length (lf sC (gr (kj t.rows i (i+1+y.1)))))),(901,some (mpO bg y.2.1 y.2.2))]⟩) (fun y=>y.1<=t.rows.length-(i+1)/\WIn bxn y.2.1 y.2.2 (gr (kj t.rows i (i+1+y.1)))) (fun y=>t.rows.length-(i+1)-y.1) ((0,es,clock)) (⟨bsx _,hW⟩) kk ?_;rintro⟨j,es,clock⟩ ⟨hj,hW⟩;dsimp only at hj hW ⊢;have hbd:=bbv (k:=i+1+j) hir hnr;refine w_5 ?_;refine hcd ?_ ?_<;>intro h1
  ·
   have hkr:i+1+j<t.rows.length:=by omega
   have hjk:((i:Int)+1).toNat+j=i+1+j:=by omega
   have hwk:(t.rows.getD (((i:Int)+1).toNat+j) default).vals.length=t.attrs.length:=by rw[hjk];exact hT.width hkr
   refine w_7 ?_;refine m9 2 ?_;refine w_6 ?_;refine qcx (wgx Tryz.func139) (bez (t.rows.getD i default) (t.rows.getD (((i:Int)+1).toNat+j) default) (by rw[hwi];exact hna) (by rw[hwi,hwk])) ?_;refine w_3 ?_;refine f8 [] [0,1,2,3,4,5,6,7,8] rfl ?_;refine f0 (E:=en) (L1:=[0,1]) (L2:=[2,3,4,5,6,7,8]) dw ?_;refine w_3 ?_;refine acz (mid:=901) (k:=2) (L:=[3,4,5,6,7,8]) rfl Tryz.underlying193 (Go.Maps.int_keyed Tryz.underlying50) Tryz.zeroValue195 rfl hW.mx (Go.Maps.keyOf_int_mk Tryz.underlying50 (wfA _)) rfl (fun ok v hy hn1=>?_)
   obtain ⟨a0,b0,rfl⟩:∃a0 b0:Int,v=.agg #[.int .i64 a0, .int .i64 b0]:=by
    cases ok with
    | true =>
     obtain⟨e,he,hk,rfl⟩:=hy rfl;exact hW.vl e he
    |false=>exact⟨0,0,(hn1 rfl).1⟩
   refine f0 (E:=en) (L1:=[3,4,5,6,7,8]) (L2:=[]) dw ?_;refine w_3 ?_;refine m9 3 ?_;refine w_3 ?_;refine jv ?_;refine w_5 ?_;refine al _ rfl ?_ ?_<;>intro r2
   ·
    have h2:=dt r2;have hok1:ok=false:=by simpa using r2
    subst hok1;obtain⟨_,hno⟩:=hn1 rfl;have hab:=hW.absent hno;refine d5 ?_;refine f8 [] [0,1,2,3,4,5,6,7] rfl ?_;refine f0 (E:=en) (L1:=[0,1,2,3,4,5,6]) (L2:=[7]) dw ?_;refine w_8 ?_;refine a33 (mid:=901) (k:=7) (L:=[]) rfl Tryz.underlying193 (Go.Maps.int_keyed Tryz.underlying50) hW.mx (by have:=hW.sz;unfold maxLen;omega) (Go.Maps.keyOf_int_mk Tryz.underlying50 (wfA _)) rfl rfl (fun es3 clock3 hX3 hP=>?_);refine jv ?_;refine w_3 ?_;refine m9 4 ?_;refine r9 5 true ?_;refine w_6 ?_
    first | (refine lpz (j+1, es3, clock3) ⟨⟨⟨_, rfl, (bq (by rw[i7 hkr hjk, a90 hab]))⟩, tt⟩, ⟨⟨_, rfl, (bw (by rw[i7 hkr hjk, a90 hab]) (CoP.refl _))⟩, uu⟩⟩ ?_; exact⟨by show j+1<=_; omega, by rw[i7 hkr hjk, a90 hab]; exact hW.put hX3 hP⟩)
          |(refine lpz (j+1,es,clock) ⟨⟨⟨_,rfl,(bm (by rw[i7 hkr hjk,a97 hfd]))⟩,tt⟩,⟨⟨_,rfl,(b6 (by rw[i7 hkr hjk,a97 hfd]))⟩,uu⟩⟩ ?_;exact⟨by show j+1<=_;omega,by rw[i7 hkr hjk,a97 hfd];exact hW⟩)
   have h2:=du r2;have hok1:ok=true:=by simpa using r2
   obtain⟨e0,he0,hk0,_⟩:=hy hok1;have hfd:=hW.found he0 hk0;refine w_5 ?_
   first | (refine lpz (j+1, es3, clock3) ⟨⟨⟨_, rfl, (bq (by rw[i7 hkr hjk, a90 hab]))⟩, tt⟩, ⟨⟨_, rfl, (bw (by rw[i7 hkr hjk, a90 hab]) (CoP.refl _))⟩, uu⟩⟩ ?_; exact⟨by show j+1<=_; omega, by rw[i7 hkr hjk, a90 hab]; exact hW.put hX3 hP⟩)
         |(refine lpz (j+1,es,clock) ⟨⟨⟨_,rfl,(bm (by rw[i7 hkr hjk,a97 hfd]))⟩,tt⟩,⟨⟨_,rfl,(b6 (by rw[i7 hkr hjk,a97 hfd]))⟩,uu⟩⟩ ?_;exact⟨by show j+1<=_;omega,by rw[i7 hkr hjk,a97 hfd];exact hW⟩)
  obtain rfl:j=t.rows.length-(i+1):=by omega
  refine w_5 ?_;refine lpz (i+1,es,clock) ⟨⟨⟨_,rfl,(bm (by rw[<- a63 hir]))⟩,tt⟩,⟨⟨_,rfl,(b6 (by rw[<- a63 hir]))⟩,uu⟩⟩ ?_;exact⟨by show i+1<=_;omega,by rw[<- a63 hir];exact hW⟩
 obtain rfl:i=t.rows.length:=by omega
 refine w_7 ?_;refine bh 4 rfl rfl rfl ?_;refine w_2 ?_;refine rc rfl rfl rfl rfl rfl rfl an9 (abh (gr (prs t.rows)) bww) (⟨CoC.of_eq (by rw[ams];rfl),trivial⟩) rfl rfl ?_;refine w_4 ?_;refine d4 12 902 true 3 192 (lf wC []) bx3 rfl (CoP.sl rfl (.inr rfl) (fun h=>h) (fun i j hi _=>absurd hi (bt1 i))) (.inr rfl) rfl ?_;refine br (ka 3 (ka 59 (ka 60 kn))) (kb 901 km) (fun i=>⟨[(12,some (.v (.one (.ref 902 ((gw (gr (prs t.rows))).take i).length)))),(61,some (vI i))],[(902,some (.arr true 3 192 ((gw (gr (prs t.rows))).take i).length (lf wC ((gw (gr (prs t.rows))).take i))))]⟩) ((gw (gr (prs t.rows))).length) kk ?_;rintro i hi;have htl:((gw (gr (prs t.rows))).take i).length=i:=by rw[bt4];omega
 refine w_5 ?_;refine hcd ?_ ?_<;>intro h3
 ·
  have him:i<(gw (gr (prs t.rows))).length:=by omega
  refine w_9 ?_;refine f8 [] [0,1,2,3,4,5,6,7,8,9,10,11,12,13] rfl ?_;refine f0 (E:=en) (L1:=[0,1,2,3]) (L2:=[4,5,6,7,8,9,10,11,12,13]) dw ?_;refine w_5 ?_;refine ar6 (mid:=901) (k:=4) (L:=[5,6,7,8,9,10,11,12,13]) rfl Tryz.underlying193 (Go.Maps.int_keyed Tryz.underlying50) Tryz.zeroValue195 hW (Go.Maps.keyOf_int_mk Tryz.underlying50 (wfA _)) rfl (fun a4 b4=>?_);refine aj7 0 (k:=5) (L:=[6,7,8,9,10,11,12,13]) rfl Tryz.underlying195 (show vf bxn 2=some ⟨.int .i64,1,8,some [.int .i64 0],false,false,true⟩ by kernel_rfl) rfl rfl bx3 ?_;refine f0 (E:=en) (L1:=[6,7]) (L2:=[8,9,10,11,12,13]) dw ?_;refine w_3 ?_;refine ar6 (mid:=901) (k:=8) (L:=[9,10,11,12,13]) rfl Tryz.underlying193 (Go.Maps.int_keyed Tryz.underlying50) Tryz.zeroValue195 hW (Go.Maps.keyOf_int_mk Tryz.underlying50 (wfA _)) rfl (fun a8 b8=>?_);refine aj7 1 (k:=9) (L:=[10,11,12,13]) rfl Tryz.underlying195 (show vf bxn 2=some ⟨.int .i64,1,8,some [.int .i64 0],false,false,true⟩ by kernel_rfl) rfl rfl bx3 ?_;refine f0 (E:=en) (L1:=[10,11,12,13]) (L2:=[]) dw ?_;refine qy ?_;refine m9 6 ?_;refine r9 7 true ?_;refine w_2 ?_;refine jv ?_;refine w_4 ?_;exact lpx (i+1) ⟨⟨⟨_,rfl,(bq (aj him))⟩,tt⟩,⟨⟨_,rfl,(zo (aj him) (CoP.refl _) CoP.any_of CoP.any_of)⟩,uu⟩⟩
 obtain rfl:i=(gw (gr (prs t.rows))).length:=by omega
 refine w_2 ?_;refine bh 12 rfl rfl rfl ?_;refine v_4 ?_;exact⟨CoC.one (by rw[bt6];exact CoP.refl _),trivial⟩
def bi0 (l:List AS) (hl:l.length<=2000000):a6 bxn 87 [pP (psl 3 wC l)] (ae [pP (asl l)]):=by
 refine hpx (nt:=19) Tryz.func87 ?_;refine da ?_;refine cw 0 rfl fun hn=>?_;refine w_6 ?_;refine d4 3 900 true 1 50 (lf sC []) bx3 rfl (CoP.sl rfl (.inr rfl) (fun h=>h) (fun i j hi _=>absurd hi (bt1 i))) (.inr rfl) rfl ?_;refine br (ka 6 (ka 7 kn)) km (fun i=>⟨[(3,some (.v (.one (.ref 900 (l.take i).length)))),(8,some (vI i))],[(900,some (.arr true 1 50 (l.take i).length (lf sC (l.take i))))]⟩) l.length kk ?_;rintro i hi;have htl:(l.take i).length=i:=by rw[bt4];omega
 refine w_5 ?_;refine hcd ?_ ?_<;>intro h0
 ·
  have hil:i<l.length:=by omega
  refine w_7 ?_;refine m9 0 ?_;refine w_6 ?_;refine m9 1 ?_;refine r9 2 true ?_;refine w_6 ?_;exact lpx (i+1) ⟨⟨⟨_,rfl,(bq (aj hil))⟩,tt⟩,⟨⟨_,rfl,(bw (aj hil) (CoP.refl _))⟩,trivial⟩⟩
 obtain rfl:i=l.length:=by omega
 refine w_2 ?_;refine bh 3 rfl rfl rfl ?_;refine v_4 ?_;exact⟨CoC.one (by rw[bt6];exact CoP.refl _),trivial⟩
def bg5 (t:Tbl) (hT:TOk t) (h12:t.attrs.length<=12) (h200:t.rows.length<=200):a6 bxn 32 [t.pc] (ae [pP (asl (b8a t)),pI 0]):=by
 refine hpx (nt:=17) Tryz.func32 ?_;have hna:=hT.na;refine sx7 ?_;refine m9 0 ?_;refine w_7 ?_;refine rc rfl rfl rfl rfl rfl rfl (wgx Tryz.func85) (b9t t hT h12 h200) (⟨CoC.refl _,CoC.refl _,CoC.refl _,trivial⟩) rfl rfl ?_;refine j5 ?_;refine qcx (wgx Tryz.func88) (bpb t hT) ?_;refine qcx (wgx Tryz.func87) (bi0 (gw (gr (prs t.rows))) (btc ak5 (azk hT.nr))) ?_;refine qcx (wgx Tryz.func86) (bn1 t.attrs.length (gw (gr (prs t.rows))) hna) ?_;refine v_4 ?_;exact⟨CoC.refl _,CoC.refl _,trivial⟩
end
section
def bpv(l:List Fd)(p:AS)(k:Nat):List Fd:=(((List.range k).map (BitVec.ofNat 32)).filter fun s=>decide (sub s p)).map fun s=>⟨s,clo l s&&&p⟩
def brv(l:List Fd)(ps:List AS)(i:Nat):List Fd:=(ps.take i).flatMap fun p=>bpv l p (p.toNat+1)
def bri(a b:List Fd):Bool:=b.any fun f=>!imp a f
def brj(n:Int)(l:List Fd)(ps:List AS):Int:=if cb n l=0 then lsC n ps l []else cb n l
def brt(n:Int)(l:List Fd)(ps:List AS):Bool:=decide (cb n l=0)&&(lsB n ps l []&&b5e l ps&&ps.all (aya l))
section
variable {n:Int}{l:List Fd}{ps:List AS}
end
end
section
def bre(l0:List Fd)(x:Fd)(a:Nat):Prop:=x.lhs.getLsbD a=true->imp l0 (axp x a)=false
def bs5(l:List Fd):Prop:=∀f∈l,∃k:Nat,f.rhs=(1:AS)<<<k
section
variable {n:Int}{l:List Fd}
end
end
section
def yd(R:List Row)(a:Nat):List Val:=R.map fun r=>r.vals.getD a default
def a78(R:List Row)(a:Nat):List Val:=gi (ac9 gv (yd R a))
def cn(R:List Row)(n:Nat):List (List Val):=(List.range n).map (a78 R)
def bqq(R:List Row)(n a:Nat):List (List Val):=(List.range n).map fun i=>if i<a then a78 R i else[]
def vlC(l:List Val):Nat->PV:=fun _=>vals l
abbrev x4(l:List (List Val)):PV:=psl 1 vlC l
def ol(R:List Row)(s:AS)(k:Nat)(e:ByteArray):Bool:=R.any fun r=>decide (fj (r.vals.take k) s=e)
def yn (R:List Row) (s:AS) (k:Nat):MK->Option PV
 | .s b=>if ol R s k b=true then some (.raw (.bool true))else none
 | .i _ _=>none
def mpC(N:Nat)(R:List Row)(s:AS)(k:Nat):PV:=mpP .str N (yn R s k)
def lvF(R:List Row)(s:AS):Nat->Nat->PV:=fun k _=>mpC R.length R s k
def lvC(R:List Row)(n:Nat)(s:AS):Nat->PV:=fun _=>.sl (n+1) 1 false (lvF R s)
def lvT(R:List Row)(s:AS)(a:Nat):Nat->Nat->PV:=fun k _=>if k<a then mpC R.length R s k else .raw (.map none)
def qa(R:List Row)(vs:List Val)(m:Nat)(s:AS):Bool:=decide (1000<m)||!ol R s vs.length (fj vs s)
def me(R:List Row)(ps:List AS)(vs:List Val)(m:Nat):Bool:=ps.any (qa R vs m)
def gu (R:List Row) (ps:List AS) (cols:List (List Val)):Nat->List Val->List (List Val)->List (List Val)
 |0,vs,acc=>if me R ps vs acc.length=true then acc else acc++[vs]
 |d+1,vs,acc=>if me R ps vs acc.length=true then acc else(cols.getD vs.length default).foldl (fun acc v=>gu R ps cols d (vs++[v]) acc) acc
def py(R:List Row)(ps:List AS)(n:Nat):List (List Val):=gu R ps (cn R n) n [] []
def ju(l:List (List Val)):List Row:=(List.range l.length).map fun(i:Nat)=>⟨(i:Int)+1,l.getD i []⟩
def ow (t:Tbl) (ps:List AS):Int :=
 if dg t≠0 then dg t else if lvE t.attrs.length ps≠0 then lvE t.attrs.length ps else if 1000<(py t.rows ps t.attrs.length).length then 3 else 0
def xi(t:Tbl)(ps:List AS):Tbl:=if ow t ps=0 then⟨t.name,t.attrs,ju (py t.rows ps t.attrs.length)⟩else T0
section
variable {R:List Row}{m:Nat}{ps:List AS}{vs:List Val}
def a9l {i:Nat} (hi:i<ps.length) (h:qa R vs m (ps.getD i default)=true):me R ps vs m=true:=by
 unfold me;rw[bu1];exact⟨_,by rw[c4 _ _ hi];exact bta hi,h⟩
def av9 (h:∀j,j<ps.length->qa R vs m (ps.getD j default)=false):me R ps vs m=false:=by
 unfold me;rw[buk];intro s hs;obtain⟨i,hi,e⟩:=btt hs;have:=h i hi;rw[c4 _ _ hi,e]at this;simp[this]
variable {acc cols:List (List Val)}
def un {d:Nat} (h:me R ps vs acc.length=true):gu R ps cols d vs acc=acc:=by
 cases d<;>(unfold gu;rw[if_pos h])
def b2d (h:me R ps vs acc.length=false):gu R ps cols 0 vs acc=acc++[vs]:=by
 unfold gu;rw[if_neg (by simp[h])]
def zn (R:List Row) (ps:List AS) (cols:List (List Val)) (d:Nat) (vs:List Val) (acc:List (List Val)) (i:Nat):List (List Val) :=
 ((cols.getD vs.length default).take i).foldl (fun acc v=>gu R ps cols d (vs++[v]) acc) acc
def ajg {d:Nat} {i:Nat} (hi:i<(cols.getD vs.length default).length):
 zn R ps cols d vs acc (i+1)=gu R ps cols d (vs++[(cols.getD vs.length default).getD i default]) (zn R ps cols d vs acc i):=by
 unfold zn;rw[aj hi,btq];rfl
def ayi {d:Nat} (h:me R ps vs acc.length=false):gu R ps cols (d+1) vs acc=zn R ps cols d vs acc (cols.getD vs.length default).length:=by
 rw[show gu R ps cols (d+1) vs acc=if me R ps vs acc.length=true then acc else(cols.getD vs.length default).foldl (fun acc v=>gu R ps cols d (vs++[v]) acc) acc from rfl,if_neg (by simp[h])];unfold zn;rw[bt6]
def amu (hp:0<ps.length) (h:me R ps vs m=false):m<=1000:=by
 unfold me at h;rw[buk]at h;have:=h _ (bta hp);unfold qa at this;simp only[bud,decide_eq_true_eq,not_or]at this;omega
def aqm (hp:0<ps.length):∀{d:Nat} {vs:List Val} {acc:List (List Val)},acc.length<=1001->(gu R ps cols d vs acc).length<=1001
 | 0,vs,acc,h=>by
  unfold gu;split
  · exact h
  rename_i hs;have:=amu hp (by simpa using hs);rw[bsy,bub];omega
 | d+1,vs,acc,h=>by
  rw[show gu R ps cols (d+1) vs acc=if me R ps vs acc.length=true then acc else(cols.getD vs.length default).foldl (fun acc v=>gu R ps cols d (vs++[v]) acc) acc from rfl];split
  · exact h
  generalize cols.getD vs.length default=l;rename_i hs;clear hs
  induction l generalizing acc with
  |nil=>exact h
  |cons v l ih=>exact ih _ (aqm hp (d:=d) h)
def b5s (hp:0<ps.length) {d:Nat} {i:Nat} (h:acc.length<=1001):(zn R ps cols d vs acc i).length<=1001:=by
 unfold zn;generalize (cols.getD vs.length default).take i=l
 induction l generalizing acc with
 |nil=>exact h
 |cons v l ih=>exact ih (aqm hp (d:=d) h)
variable {s:AS}
def ajo {k:Nat} {e:ByteArray}:xk (fun m=>(yn R s k m).isSome) (fun m=>(yn R s k m).getD .any) (.s e) (.bool false)=.raw (.bool (ol R s k e)):=by
 unfold xk yn;cases h:ol R s k e<;>simp[h]<;>rfl
def awu {k i:Nat} {e:ByteArray} (hi:i<R.length):ol (R.take (i+1)) s k e=(ol (R.take i) s k e||decide (fj ((R.getD i default).vals.take k) s=e)):=by
 unfold ol;rw[aj hi,List.any_append];simp
def a1q{n:Nat}:(cn R n).length=n:=by simp[cn]
def a14{n a:Nat}(h:a<n):(cn R n).getD a default=a78 R a:=by simp[cn,List.getD,h]
def amm {l:List Val} (h:l.length<=16):(fj l s).size<=maxLen:=by
 have:=a82 (l:=l) (s:=s);unfold maxLen;omega
def a8u (h:(1000:Int)<(m:Int)):qa R vs m s=true:=by
 have:1000<m:=by omega
 simp[qa,this]
def uy(h:ol R s vs.length (fj vs s)=false):qa R vs m s=true:=by simp[qa,h]
def a9s (h0:¬(1000:Int)<(m:Int)) (h:ol R s vs.length (fj vs s)=true):qa R vs m s=false:=by
 have:¬1000<m:=by omega
 simp[qa,h,this]
end
end
section
structure Rcp where
 n:BitVec 8
 f:List Dp
 m:List Dp
 p:List (BitVec 8)
deriving Inhabited
def Rcp.num(d:Rcp)(k:Nat):Int:=1+((d.n.toNat%k:Nat):Int)
abbrev Rcp.pc(d:Rcp):PC:=.agg [.raw (.int .u8 (d.n.toNat:Int)),dpl d.f,dpl d.m,psl 1 u8C d.p]
def u8S(n:Int)(b:BitVec 8):AS:=b.setWidth 32&&&aa n
end
section
section
variable {a b:Int}
def anv{n:Int}{l:List Rw}{p m:List Fd}{mu:Bool}{i:Int}(h:¬ckE n l p m=0):lb n l p m mu i a b=(0,[],ckE n l p m):=if_neg h
def nb{n:Int}{l:List Rw}{p m:List Fd}{mu:Bool}{i:Int}(h:ckE n l p m=0)(h3:lh l p m mu i a b):lb n l p m mu i a b=(0,[],1):=(if_pos h).trans (if_pos h3)
def ad7{n:Int}{l:List Rw}{p m:List Fd}{mu:Bool}{i:Int}(h:ckE n l p m=0)(h3:¬lh l p m mu i a b):lb n l p m mu i a b=dx n l p m (mu,i.toNat,a.toNat,b.toNat):=(if_pos h).trans (if_neg h3)
def pj(h:(if b<a then b else a)<0):a<0\/b<0:=by split at h<;>omega
def pi{k:Int}(h:k<=(if a<b then b else a)):k<=a\/k<=b:=by split at h<;>omega
def ayk(h:¬(if b<a then b else a)<0):0<=a/\0<=b:=by split at h<;>omega
def b06{k:Int}(h:¬k<=(if a<b then b else a)):a<k/\b<k:=by split at h<;>omega
def stQ(x y:St):Bool:=(x.1==y.1)&&(decide ((x.2.1:Int)=(y.2.1:Int))&&(decide ((x.2.2.1:Int)=(y.2.2.1:Int))&&decide ((x.2.2.2:Int)=(y.2.2.2:Int))))
end
end
section
open Go.Proofs
def b3a(n:Int)(l:List Rw)(p m:List Fd)(i a b:Int):a6 bxn 96 [pT n l,pP (fdl p),pP (fdl m), .agg [.raw (.bool true), .raw (.int .i64 i), .raw (.int .i64 a), .raw (.int .i64 b)]] (ae [pT (lb n l p m true i a b).1 (lb n l p m true i a b).2.1,pI (lb n l p m true i a b).2.2]):=by
 refine hpx (nt:=69) Tryz.func96 ?_;refine sx7 ?_;refine m9 0 ?_;refine m9 1 ?_;refine m9 2 ?_;refine w_8 ?_;refine qcx agj (abu n l p m) ?_;refine w_7 ?_;refine hcn ?_ ?_<;>intro h0
 · refine w_7 ?_;refine hrr ?_;have he:=anv (n:=n) (l:=l) (p:=p) (m:=m) (mu:=true) (i:=i) (a:=a) (b:=b) bwx;exact f9 rfl rfl (by rw[he];exact⟨CoC.agg ⟨CoP.refl _,ed,trivial⟩,CoC.refl _,trivial⟩)
 have hck:ckE n l p m=0:=by assumption
 obtain⟨hT,hbe,hpa⟩:=ar1 hck;refine b7q ?_;refine ak rfl rfl ?_ ?_<;>intro r1
 ·
  have h1:=tz1 r1;(iterate 4 refine k9 (gtf r1) ?_);refine w_2 ?_;(iterate 5 refine k9 rfl ?_);refine w_2 ?_;(iterate 6 refine k9 rfl ?_);refine w_2 ?_;(iterate 9 refine k9 rfl ?_);refine w_9 ?_;refine hrr ?_
  have hbad:lh l p m true i a b:=by
   first
    |exact bdS
    |(refine(pj (a:=a) (b:=b) ?_).elim (fun hq=>?_) (fun hq=>?_)<;>first|assumption|exact bdS)
    |(refine(pi (a:=a) (b:=b) (k:=(l.length:Int)) ?_).elim (fun hq=>?_) (fun hq=>?_)<;>first|assumption|exact bdS)
  have he:=nb hck hbad;exact f9 rfl rfl (by rw[he];exact⟨CoC.agg ⟨CoP.refl _,ed,trivial⟩,CoC.refl _,trivial⟩)
 have h1:=tz2 r1;(iterate 4 refine qy ?_ (hg:=(gff r1)));refine w_2 ?_;refine ak rfl rfl ?_ ?_<;>intro r2
 ·
  have h2:=tz1 (ax r1 r2);(iterate 5 refine k9 (gtf r2) ?_);refine w_2 ?_;(iterate 6 refine k9 rfl ?_);refine w_2 ?_;(iterate 9 refine k9 rfl ?_);refine w_9 ?_;refine hrr ?_
  have hbad:lh l p m true i a b:=by
   first
    |exact bdS
    |(refine(pj (a:=a) (b:=b) ?_).elim (fun hq=>?_) (fun hq=>?_)<;>first|assumption|exact bdS)
    |(refine(pi (a:=a) (b:=b) (k:=(l.length:Int)) ?_).elim (fun hq=>?_) (fun hq=>?_)<;>first|assumption|exact bdS)
  have he:=nb hck hbad;exact f9 rfl rfl (by rw[he];exact⟨CoC.agg ⟨CoP.refl _,ed,trivial⟩,CoC.refl _,trivial⟩)
 have h2:=tz2 (ax r1 r2);(iterate 5 refine qy ?_ (hg:=(gff r2)));refine w_2 ?_;refine ak rfl rfl ?_ ?_<;>intro r3
 ·
  have h3:=tz1 (ax r2 r3);(iterate 6 refine k9 (gtf r3) ?_);refine w_2 ?_;(iterate 9 refine k9 rfl ?_);refine w_9 ?_;refine hrr ?_
  have hbad:lh l p m true i a b:=by
   first
    |exact bdS
    |(refine(pj (a:=a) (b:=b) ?_).elim (fun hq=>?_) (fun hq=>?_)<;>first|assumption|exact bdS)
    |(refine(pi (a:=a) (b:=b) (k:=(l.length:Int)) ?_).elim (fun hq=>?_) (fun hq=>?_)<;>first|assumption|exact bdS)
  have he:=nb hck hbad;exact f9 rfl rfl (by rw[he];exact⟨CoC.agg ⟨CoP.refl _,ed,trivial⟩,CoC.refl _,trivial⟩)
 have h3:=tz2 (ax r2 r3);(iterate 6 refine qy ?_ (hg:=(gff r3)));refine w_2 ?_;refine ak rfl rfl ?_ ?_<;>intro r4
 ·
  have h4:=tz1 (ax r3 r4);(iterate 9 refine k9 (gtf r4) ?_);refine w_9 ?_;refine hrr ?_
  have hbad:lh l p m true i a b:=by
   first
    |exact bdS
    |(refine(pj (a:=a) (b:=b) ?_).elim (fun hq=>?_) (fun hq=>?_)<;>first|assumption|exact bdS)
    |(refine(pi (a:=a) (b:=b) (k:=(l.length:Int)) ?_).elim (fun hq=>?_) (fun hq=>?_)<;>first|assumption|exact bdS)
  have he:=nb hck hbad;exact f9 rfl rfl (by rw[he];exact⟨CoC.agg ⟨CoP.refl _,ed,trivial⟩,CoC.refl _,trivial⟩)
 have h4:=tz2 (ax r3 r4);(iterate 9 refine qy ?_ (hg:=(gff r4)));refine w_2 ?_;refine al _ rfl ?_ ?_<;>intro r5
 ·
  have h5:=tz1 (ax r4 r5);refine w_6 ?_;refine hrr ?_
  have hbad:lh l p m true i a b:=by
   first
    |exact bdS
    |(refine(pj (a:=a) (b:=b) ?_).elim (fun hq=>?_) (fun hq=>?_)<;>first|assumption|exact bdS)
    |(refine(pi (a:=a) (b:=b) (k:=(l.length:Int)) ?_).elim (fun hq=>?_) (fun hq=>?_)<;>first|assumption|exact bdS)
  have he:=nb hck hbad;exact f9 rfl rfl (by rw[he];exact⟨CoC.agg ⟨CoP.refl _,ed,trivial⟩,CoC.refl _,trivial⟩)
 have h5:=tz2 (ax r4 r5);refine w_2 ?_;obtain⟨ha0,hb0⟩:=ayk (a:=a) (b:=b) bwx;obtain⟨hal,hbl⟩:=b06 (a:=a) (b:=b) (k:=(l.length:Int)) bwx
 have hnb:¬lh l p m true i a b:=by
  unfold lh;rintro(h|h|h|h|h|h|⟨h,h2⟩|⟨h,h2⟩)<;>first|omega|cases h
 have ha:a.toNat<l.length:=by omega
 have hb:b.toNat<l.length:=by omega
 have hi:i.toNat<m.length:=by omega
 refine w_5 ?_;refine rc rfl rfl rfl rfl rfl rfl ahf (aug n l p m i.toNat a.toNat b.toNat hT ha hb hi) (⟨CoC.refl _,CoC.refl _,CoC.refl _,CoC.agg ⟨CoP.refl _,CoP.of_eq (by rw[bw3 bww]),CoP.of_eq (by rw[bw3 bww]),CoP.of_eq (by rw[bw3 bww]),trivial⟩,trivial⟩) rfl rfl ?_;refine w_5 ?_;refine hrr ?_;have he:=ad7 (n:=n) (i:=i) (a:=a) (b:=b) hck hnb;exact f9 rfl rfl (by rw[he];exact CoL.refl _)
def b4d(n:Int)(l:List Rw)(p m:List Fd)(i a b:Int):a6 bxn 96 [pT n l,pP (fdl p),pP (fdl m), .agg [.raw (.bool false), .raw (.int .i64 i), .raw (.int .i64 a), .raw (.int .i64 b)]] (ae [pT (lb n l p m false i a b).1 (lb n l p m false i a b).2.1,pI (lb n l p m false i a b).2.2]):=by
 refine hpx (nt:=69) Tryz.func96 ?_;refine sx7 ?_;refine m9 0 ?_;refine m9 1 ?_;refine m9 2 ?_;refine w_8 ?_;refine qcx agj (abu n l p m) ?_;refine w_7 ?_;refine hcn ?_ ?_<;>intro h0
 · refine w_7 ?_;refine hrr ?_;have he:=anv (n:=n) (l:=l) (p:=p) (m:=m) (mu:=false) (i:=i) (a:=a) (b:=b) bwx;exact f9 rfl rfl (by rw[he];exact⟨CoC.agg ⟨CoP.refl _,ed,trivial⟩,CoC.refl _,trivial⟩)
 have hck:ckE n l p m=0:=by assumption
 obtain⟨hT,hbe,hpa⟩:=ar1 hck;refine ago ?_;refine ak rfl rfl ?_ ?_<;>intro r1
 ·
  have h1:=tz1 r1;(iterate 4 refine k9 (gtf r1) ?_);refine w_2 ?_;(iterate 5 refine k9 rfl ?_);refine w_2 ?_;(iterate 6 refine k9 rfl ?_);refine w_2 ?_;(iterate 9 refine k9 rfl ?_);refine w_9 ?_;refine hrr ?_
  have hbad:lh l p m false i a b:=by
   first
    |exact bdS
    |(refine(pj (a:=a) (b:=b) ?_).elim (fun hq=>?_) (fun hq=>?_)<;>first|assumption|exact bdS)
    |(refine(pi (a:=a) (b:=b) (k:=(l.length:Int)) ?_).elim (fun hq=>?_) (fun hq=>?_)<;>first|assumption|exact bdS)
  have he:=nb hck hbad;exact f9 rfl rfl (by rw[he];exact⟨CoC.agg ⟨CoP.refl _,ed,trivial⟩,CoC.refl _,trivial⟩)
 have h1:=tz2 r1;(iterate 4 refine qy ?_ (hg:=(gff r1)));refine w_2 ?_;refine ak rfl rfl ?_ ?_<;>intro r2
 ·
  have h2:=tz1 (ax r1 r2);(iterate 5 refine k9 (gtf r2) ?_);refine w_2 ?_;(iterate 6 refine k9 rfl ?_);refine w_2 ?_;(iterate 9 refine k9 rfl ?_);refine w_9 ?_;refine hrr ?_
  have hbad:lh l p m false i a b:=by
   first
    |exact bdS
    |(refine(pj (a:=a) (b:=b) ?_).elim (fun hq=>?_) (fun hq=>?_)<;>first|assumption|exact bdS)
    |(refine(pi (a:=a) (b:=b) (k:=(l.length:Int)) ?_).elim (fun hq=>?_) (fun hq=>?_)<;>first|assumption|exact bdS)
  have he:=nb hck hbad;exact f9 rfl rfl (by rw[he];exact⟨CoC.agg ⟨CoP.refl _,ed,trivial⟩,CoC.refl _,trivial⟩)
 have h2:=tz2 (ax r1 r2);(iterate 5 refine qy ?_ (hg:=(gff r2)));refine w_2 ?_;refine ak rfl rfl ?_ ?_<;>intro r3
 ·
  have h3:=tz1 (ax r2 r3);(iterate 6 refine k9 (gtf r3) ?_);refine w_2 ?_;(iterate 9 refine k9 rfl ?_);refine w_9 ?_;refine hrr ?_
  have hbad:lh l p m false i a b:=by
   first
    |exact bdS
    |(refine(pj (a:=a) (b:=b) ?_).elim (fun hq=>?_) (fun hq=>?_)<;>first|assumption|exact bdS)
    |(refine(pi (a:=a) (b:=b) (k:=(l.length:Int)) ?_).elim (fun hq=>?_) (fun hq=>?_)<;>first|assumption|exact bdS)
  have he:=nb hck hbad;exact f9 rfl rfl (by rw[he];exact⟨CoC.agg ⟨CoP.refl _,ed,trivial⟩,CoC.refl _,trivial⟩)
 have h3:=tz2 (ax r2 r3);(iterate 6 refine qy ?_ (hg:=(gff r3)));refine w_2 ?_;refine ak rfl rfl ?_ ?_<;>intro r4
 ·
  have h4:=tz1 (ax r3 r4);(iterate 9 refine k9 (gtf r4) ?_);refine w_9 ?_;refine hrr ?_
  have hbad:lh l p m false i a b:=by
   first
    |exact bdS
    |(refine(pj (a:=a) (b:=b) ?_).elim (fun hq=>?_) (fun hq=>?_)<;>first|assumption|exact bdS)
    |(refine(pi (a:=a) (b:=b) (k:=(l.length:Int)) ?_).elim (fun hq=>?_) (fun hq=>?_)<;>first|assumption|exact bdS)
  have he:=nb hck hbad;exact f9 rfl rfl (by rw[he];exact⟨CoC.agg ⟨CoP.refl _,ed,trivial⟩,CoC.refl _,trivial⟩)
 have h4:=tz2 (ax r3 r4);(iterate 9 refine qy ?_ (hg:=(gff r4)));refine w_2 ?_;refine al _ rfl ?_ ?_<;>intro r5
 ·
  have h5:=tz1 (ax r4 r5);refine w_6 ?_;refine hrr ?_
  have hbad:lh l p m false i a b:=by
   first
    |exact bdS
    |(refine(pj (a:=a) (b:=b) ?_).elim (fun hq=>?_) (fun hq=>?_)<;>first|assumption|exact bdS)
    |(refine(pi (a:=a) (b:=b) (k:=(l.length:Int)) ?_).elim (fun hq=>?_) (fun hq=>?_)<;>first|assumption|exact bdS)
  have he:=nb hck hbad;exact f9 rfl rfl (by rw[he];exact⟨CoC.agg ⟨CoP.refl _,ed,trivial⟩,CoC.refl _,trivial⟩)
 have h5:=tz2 (ax r4 r5);refine w_2 ?_;obtain⟨ha0,hb0⟩:=ayk (a:=a) (b:=b) bwx;obtain⟨hal,hbl⟩:=b06 (a:=a) (b:=b) (k:=(l.length:Int)) bwx
 have hnb:¬lh l p m false i a b:=by
  unfold lh;rintro(h|h|h|h|h|h|⟨h,h2⟩|⟨h,h2⟩)<;>first|omega|cases h
 have ha:a.toNat<l.length:=by omega
 have hb:b.toNat<l.length:=by omega
 have hi:i.toNat<p.length:=by omega
 refine w_5 ?_;refine rc rfl rfl rfl rfl rfl rfl ahf (aty n l p m i.toNat a.toNat b.toNat hT ha hb hi (btl.1 hpa _ (gl hi))) (⟨CoC.refl _,CoC.refl _,CoC.refl _,CoC.agg ⟨CoP.refl _,CoP.of_eq (by rw[bw3 bww]),CoP.of_eq (by rw[bw3 bww]),CoP.of_eq (by rw[bw3 bww]),trivial⟩,trivial⟩) rfl rfl ?_;refine w_5 ?_;refine hrr ?_;have he:=ad7 (n:=n) (i:=i) (a:=a) (b:=b) hck hnb;exact f9 rfl rfl (by rw[he];exact CoL.refl _)
end
section
open Go.Proofs
abbrev Rcp.fs(d:Rcp)(k:Nat):List Fd:=d.f.map (Dp.fd (d.num k))
abbrev Rcp.ms(d:Rcp)(k:Nat):List Fd:=d.m.map (Dp.fd (d.num k))
abbrev Rcp.ps(d:Rcp)(k:Nat):List AS:=d.p.map (u8S (d.num k))
abbrev Rcp.t0(d:Rcp)(k:Nat):List Rw:=bn (b9 (d.num k) (d.ps k))
section
variable {n:Int}{p m:List Fd}{l0 l:List Rw}
end
def asz (n:Int) (l:List Rw) (p m:List Fd) (mu:Bool) (i a b:Int):a6 bxn 96 [pT n l,pP (fdl p),pP (fdl m), .agg [.raw (.bool mu), .raw (.int .i64 i), .raw (.int .i64 a), .raw (.int .i64 b)]] (ae [pT (lb n l p m mu i a b).1 (lb n l p m mu i a b).2.1,pI (lb n l p m mu i a b).2.2]):=by
 cases mu with
 |false=>exact b4d n l p m i a b
 |true=>exact b3a n l p m i a b
def ajk{n:Int}{l:List Rw}{p m:List Fd}{s:St}(hT:tok n l=true)(hb:dc n p m=0)(h:a28 l p m s):lb n l p m s.1 s.2.1 s.2.2.1 s.2.2.2=dx n l p m s:=by
 obtain⟨mu,i,a,b⟩:=s;have hck:ckE n l p m=0:=(if_pos hT).trans hb;obtain⟨ha,hbb,h⟩:=h;have ha:a<l.length:=ha;have hbb:b<l.length:=hbb
 have hne:¬a=b:=by
  rintro rfl
  rcases h with⟨_,_,h⟩|⟨_,_,h⟩
  · rw[show iu l (p.getD i default) a a=false from aw6]at h;cases h
  rw[show iq l (m.getD i default) a a=false from aw8 ha]at h;cases h
 show lb n l p m mu (i:Int) (a:Int) (b:Int)=_;rw[ad7 hck]
 · rfl
 unfold lh
 rcases h with⟨h1,h2,_⟩|⟨h1,h2,_⟩
 · have h1:mu=false:=h1
   subst h1;have h2:i<p.length:=h2;rintro(h|h|h|h|h|h|⟨h,h3⟩|⟨h,h3⟩)<;>first|omega|cases h
 have h1:mu=true:=h1;subst h1;have h2:i<m.length:=h2;rintro(h|h|h|h|h|h|⟨h,h3⟩|⟨h,h3⟩)<;>first|omega|cases h
def b31 (n:Int) (l:List Rw) (p m:List Fd) (s:St) (hT:tok n l=true) (hb:dc n p m=0) (h:a28 l p m s) (he:dx n l p m s=(n,(dx n l p m s).2.1,0)):a6 bxn 96 [pT n l,pP (fdl p),pP (fdl m),s.pc] (ae [pT n (dx n l p m s).2.1,pI 0]):=by
 have:=asz n l p m s.1 s.2.1 s.2.2.1 s.2.2.2;rw[ajk hT hb h,he]at this;exact this
end
end Go.Hx

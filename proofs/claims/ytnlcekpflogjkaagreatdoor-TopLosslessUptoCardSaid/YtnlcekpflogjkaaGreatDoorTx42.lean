/- A part of the proof: SrK Jw2 Kw7 Ls8 Ls9 Ls10. -/
import Derived.Shelf.SlSortCmp.NoneTotal
import Derived.Test.YtnlcekpflogjkaaGreatDoorTx38
import Derived.Test.YtnlcekpflogjkaaGreatDoorTx40
import Derived.Test.YtnlcekpflogjkaaGreatDoorTx41
set_option linter.all false
set_option maxRecDepth 100000
set_option maxHeartbeats 1000000
namespace Go.Hx
section
open Go.Proofs Go.RowKit Go.Sort
def aob {α:Type} [Inhabited α] {enc:α -> List Value} {k:Nat} (hk:∀ x,(enc x).length = k) {l:List α} {i j:Nat} (hi:i < l.length) (hj:j < k) :
 (flatK enc k l.toArray).toList[i * k + j]? = some ((enc (l.getD i default)).getD j (.bool false)):=by
 have hlt:i * k + j < l.toArray.size * k:=by rw [bsg];exact a8a hi hj
 have hlt2:i * k + j < (flatK enc k l.toArray).size:=by rw [size_flatK];exact hlt
 have h:=get_flatK enc k l.toArray (i * k + j) hlt;have k0:0 < k:=by omega
 have e1:(i * k + j) / k = i:=(blk_iff k i _ k0).1 ⟨by omega,by omega⟩;have e2:(i * k + j) % k = j:=by rw [Nat.mod_eq_sub_div_mul,e1];omega
 rw [e1,e2,getElem!_pos (flatK enc k l.toArray) _ hlt2,getElem!_pos l.toArray i (by simpa using hi)] at h;rw [bt2,bsw hlt2,h];have hj2:j < (enc l.toArray[i]).length:=by rw [hk];exact hj
 rw [getElem!_pos (enc l.toArray[i]) _ hj2];simp only [List.getElem_toArray,brc,brb hi,bsn] at hj2 ⊢;rw [brb hj2];rfl
def av8 {P:Program} {ρ:Go.Shelf.Ren} {α:Type} [Inhabited α] (L:SlLaysF0.n6 P ρ) (k:Nat) (hk0:0 < k) (aE:∀ w,(isAgg (ρ.t 24)).run P w = .ok true w) (zE:∀ w,(Go.sizeOf (ρ.t 24)).run P w = .ok k w) (enc:α -> List Value) (hk:∀ x,(enc x).length = k) (h1:∀ x,∀ v ∈ enc x,v.oneCell' = true)
 (cf:α -> α -> Int) (hO:SWO (ltOf cf)) (hT:∀ x y,(ltOf cf) x y = false -> (ltOf cf) y x = false -> x = y)
 (g:Nat) (caps:Nat -> PV) (hg:∀ args w,(callFunc g args).run P w = .ok (.enter g args) w) (hc:∀ x y,a6 P g [.agg ((enc x).map .raw), .agg ((enc y).map .raw)] (af [.one (.raw (.int .i64 (cf x y)))])) (id:Nat) (e:TypeId) (l:List α) (hsz:l.length <= 8589934592) :
 cz P (ρ.f 6) [.one (.ref id l.length), .one (.p (.fn g 0 caps))] [(id, .arr true k e l.length (lf (fun x j=>.raw ((enc x).getD j (.bool false))) l))] (.tup [])
  [(id, .arr true k e l.length (lf (fun x j=>.raw ((enc x).getD j (.bool false))) (l.mergeSort fun x y=>!(ltOf cf) y x)))] [id]:=by
 intro w c us hM hus
 match us,hus with
 | [u,v],⟨hu,hv,_⟩ =>
  obtain ⟨cs,rfl,hcl,_⟩:=hv;have hcs:cs = []:=bss hcl;subst hcs;have hl1:lk [(id,a7.arr true k e l.length (lf (fun x j=>.raw ((enc x).getD j (.bool false))) l))] id = some (.arr true k e l.length (lf (fun x j=>.raw ((enc x).getD j (.bool false))) l)):=by simp [lk]
  have hu2:=(hu.2.2 _ _ _ _ hl1 rfl).2 rfl;subst hu2;have hob:=hM.objs id _ hl1;obtain ⟨h0,hmax,h5⟩:=hob;have hlen:(l.mergeSort fun x y=>!(ltOf cf) y x).length = l.length:=buc _
  have hev:∀ f':Nat -> Nat -> PV,Evo c (lk [(id,a7.arr true k e l.length (lf (fun x j=>.raw ((enc x).getD j (.bool false))) l))]) c (lk [(id,a7.arr true k e l.length f')]) id:=fun f' =>
   .inr (.inr ⟨_, .arr true k e l.length f',k,e,l.length,l.length,hl1,rfl,by simp [lk],rfl,brd _,fun _=>rfl,fun _ _ _ _ _ _ _ h=>by cases h⟩)
  rcases bsx l.length with hz | hpos
  · have hl:l = []:=bss hz
    subst hl
    have hform:∃ ad cap,c.own id = .slice ad 0 cap:=by
     rcases h5 with ⟨_,xs,h2,_⟩ | ⟨_,_,ad,cap,hv,_⟩
     · rcases h2.2 with ⟨hv,_⟩ | ⟨g,cap,cur,hv,_⟩
       · exact ⟨none,0,hv⟩
       exact ⟨_,cap,hv⟩
     exact ⟨ad,cap,hv⟩
    obtain ⟨ad,cap,hown⟩:=hform;have hms:([]:List α).mergeSort (fun x y=>!(ltOf cf) y x) = []:=by simp
    rw [hown,hms];refine (AnyF.slices_SortFunc_none { L with } ad cap (.func (.func g) #[] #[]) w).mono ?_;rintro e' w' ⟨rfl,rfl⟩
    exact ⟨_,c,rfl,⟨[],rfl,trivial⟩,hM,Below.refl _ _,fun _ _ _=>⟨rfl,rfl⟩,fun id0 ob b ho hb=>.inr ⟨id0,ob,ho,hb⟩,fun id0 hid=>by
     rw [bru.1 hid]
     exact Evo.refl _ _ _⟩
  obtain ⟨h6,xs,h2,h4⟩:c.blk id = en (c.own id) /\ ∃ xs,w.ownsRow 0 e k (c.own id) l.length xs /\ ∀ i j,i < l.length -> j < k -> ∃ x,xs[i * k + j]? = some x /\ ak c.imm (lf (fun x j=>.raw ((enc x).getD j (.bool false))) l i j) x:=by
   rcases h5 with h5 | ⟨h6 | h6,_⟩
   · exact h5
   · cases h6
   omega
  obtain ⟨hxl,hrow⟩:=h2
  rcases hrow with ⟨_,hz⟩ | ⟨b,cap,cur,hown,hbase,hheap,hnc,hcm,hcs,htake⟩
  · omega
  have hblk:c.blk id b:=by rw [h6,hown];rfl
  have hlt:b < w.heap.size:=(brj.1 hheap).1
  have hcell:∀ t,t < l.length * k -> cur[t]? = some (flatK enc k l.toArray)[t]!:=fun t ht=>by
   have htk:t / k < l.length:=Nat.div_lt_of_lt_mul (by rw [Nat.mul_comm];exact ht);have hmk:t % k < k:=Nat.mod_lt _ hk0;have hdm:t / k * k + t % k = t:=by rw [Nat.mul_comm];exact Nat.div_add_mod t k
   obtain ⟨x,hx,hr⟩:=h4 (t / k) (t % k) htk hmk;have hf:=aob (enc:=enc) hk htk hmk;rw [hdm] at hx hf;rw [<- htake,bsa,if_pos ht,bt2] at hx;rw [hx];have hr:x = (enc (l.getD (t / k) default)).getD (t % k) (.bool false) /\ _:=hr;rw [hr.1];have hft:t < (flatK enc k l.toArray).size:=by rw [size_flatK,bsg];exact ht
   rw [bt2,bsw hft] at hf;rw [getElem!_pos (flatK enc k l.toArray) _ hft];exact hf.symm
  have hH:HoldsK enc k w b 0 l.toArray:=fun j hj=>by
   have hj:j < l.length * k:=by rw [size_flatK,bsg] at hj;exact hj
   rw [bs5];refine ⟨?_,by simp [World.frozen?,hheap]⟩;simp only [World.cell?,hheap,hcell j hj];rfl
  have hcmp:CmpLays P g #[] enc k cf b 0 l.toArray.size w:=by
   intro m os dk hdk x y
   have hcimm:∀ b' ob,c.imm b' = some ob -> (sortWorldK enc k w b 0 m dk os).heap[b']? = some ob:=fun b' ob hb'=>by
    have hne:b' ≠ b:=fun he=>by
     have:=hM.sep id _ b hl1 hblk;rw [<- he,hb'] at this;cases this
    have hw:=hM.imm b' ob hb';rw [show sortWorldK enc k w b 0 m dk os = sortWorld (fun x:Value=>x) w b 0 m (flatK enc k dk) os from rfl,s6 (brj.1 hw).1 hne];exact hw
   have hrep:∀ x,lz c.imm (.agg ((enc x).map .raw)) (.agg (enc x).toArray):=fun x=>⟨enc x,rfl,by
    have:∀ l:List Value,(∀ v ∈ l,v.oneCell' = true) -> fh c.imm (l.map .raw) l:=by
     intro l
     induction l with
     | nil=>intro _;trivial
     | cons v l ih=>exact fun h=>⟨⟨rfl,h v bvd⟩,ih fun u hu=>h u (by simp [hu])⟩
    exact this _ (h1 x)⟩
   have h:=hc x y (sortWorldK enc k w b 0 m dk os) c.imm [.agg (enc x).toArray, .agg (enc y).toArray] c.tab hcimm ⟨hrep x,hrep y,trivial⟩;refine h.mono ?_;rintro e' w' ⟨v,imm',rfl,hr,_,_,hb⟩;obtain ⟨q,os',hq⟩:=ae1 hb;exact ⟨by rw [hr.1],q,os',hq⟩
  have hS:=AnyQ.slices_SortFunc_total L k aE zE enc hk h1 cf hO g #[] b 0 cap l.toArray w hg hcmp hH hlt (by rw [bsg];omega) hT;rw [hown];refine Calls.mono hS ?_;rintro e' w' ⟨rfl,m,os,rfl⟩;generalize hSd:(l.mergeSort fun x y=>!(ltOf cf) y x) = S at *;rw [show sortWorldK enc k w b 0 m S.toArray os = sortWorld (fun x:Value=>x) w b 0 m (flatK enc k S.toArray) os from rfl]
  refine ⟨_,c,rfl,⟨[],rfl,trivial⟩,⟨fun id0 ob ho=>?_,fun id0 id1 ob0 ob1 b' ho0 ho1 _ _=>(fw ho0).1.trans (fw ho1).1.symm,fun b' ob hb'=>?_,fun id0 ob b' ho hb'=>?_⟩,adv,
   fun b' hb' hno=>⟨s6 hb' (fun he=>hno _ _ hl1 (by rw [he];exact hblk)),rfl⟩,fun id0 ob b' ho hb'=>.inr ⟨_,_,hl1,by rw [<- (fw ho).1];exact hb'⟩,fun id0 hid=>by
    rw [bru.1 hid]
    exact hev _⟩
  · obtain ⟨rfl,rfl⟩:=fw ho
    refine ⟨h0,hmax, .inl ⟨h6,(flatK enc k S.toArray).toList,⟨by rw [bsi,size_flatK,bsg,hlen], .inr ⟨b,cap,putCells (fun x=>x) 0 (flatK enc k S.toArray) cur,hown,hbase,acz hheap,hnc,hcm,by simpa [putCells] using hcs, ?_⟩⟩,fun i j hi hj=>?_⟩⟩
    · have hle:l.length * k <= cap * k:=brq _ hnc
      have:=aqu (enc:=fun x:Value=>x) (d:=flatK enc k S.toArray) (cur:=cur) (by rw [size_flatK,bsg,hlen,hcs];exact hle);rw [size_flatK,bsg,hlen,List.map_id'] at this;exact this
    have hi':i < S.length:=by rw [hlen];exact hi
    refine ⟨_,aob hk hi' hj, ?_⟩;refine ⟨rfl, ?_⟩;have hj2:j < (enc (S.getD i default)).length:=by rw [hk];exact hj
    rw [brc,brb hj2,bsn];exact h1 _ _ (brs hj2)
  · have hne:b' ≠ b:=fun he=>by
     have:=hM.sep id _ b hl1 hblk;rw [<- he,hb'] at this;cases this
    have hw:=hM.imm b' ob hb';rw [s6 (brj.1 hw).1 hne];exact hw
  have:=(fw ho).1;subst this;exact hM.sep id0 _ b' hl1 hb'
 | [],h=>exact h.elim
 | [_],⟨_,h⟩=>exact h.elim
 | _ :: _ :: _ :: _,⟨_,_,h⟩=>exact h.elim
end
section
open Go.Proofs
def ba4 {α:Type} [Inhabited α] {cl:Bool} {c:α -> Nat -> PV} {x y z:α} {f:Nat -> Nat -> PV} (h0:CoP (f 0 0) (c x 0)) (h1:CoP (f 1 0) (c y 0)) (h2:CoP (f 2 0) (c z 0)):CoP (.sl 3 1 cl f) (psl 1 c [x,y,z]) :=
 CoP.sl rfl (.inl rfl) (fun h=>by cases h) fun i j hi hj=>by
  obtain rfl:j = 0:=by omega
  match i,hi with
  | 0,_=>exact h0
  | 1,_=>exact h1
  | 2,_=>exact h2
def bd9 (a b:Val):orF [gi a.kind b.kind,gi a.num b.num,o3 a.str b.str] = ig a b:=by
 have e:∀ x y:Int,sgn x y = gi x y:=fun _ _=>rfl;unfold ig orF;rw [e,e];by_cases h1:gi a.kind b.kind = 0
 · by_cases h2:gi a.num b.num = 0
   · by_cases h3:o3 a.str b.str = 0
     · simp [h1,h2,h3]
     simp [h1,h2,h3]
   simp [h1,h2]
 simp [h1]
def b0y (a:Int):a6 bw0 215 [pI a] (af [pB false]):=by
 refine hpx (nt:=6) Tryz.func215 ?_;refine j3 ?_;exact hx8 rfl rfl rfl (⟨ccb bvd,trivial⟩)
def bjp (a b:Int):a6 bw0 156 [pI a,pI b] (af [pI (gi a b)]):=by
 refine hpx (nt:=20) Tryz.func156 ?_;refine w_7 ?_;refine qcx (wgx Tryz.func215) (b0y _) ?_;refine w_5 ?_;refine qcx (wgx Tryz.func215) (b0y _) ?_;refine b6t ?_;refine hcd (fun h0=>?_) (fun h0=>?_)
 · refine v_4 ?_;exact ⟨cci bvs,trivial⟩
 refine w_8 ?_;refine hcd (fun h1=>?_) (fun h1=>?_)
 · refine v_4 ?_;exact ⟨cci bvs,trivial⟩
 refine v_5 ?_;exact ⟨cci bvs,trivial⟩
def bbo (a b:ByteArray):a6 bw0 157 [pS a,pS b] (af [pI (o3 a b)]):=by
 refine hpx (nt:=8) Tryz.func157 ?_;refine w_8 ?_;refine qcx bbx (ban _ _) ?_;refine v_2 ?_;exact CoL.refl _
def atz (a b:Val):a6 bw0 101 [a.pc,b.pc] (af [pI (ig a b)]):=by
 refine hpx (nt:=22) Tryz.func101 ?_;refine sx7 ?_;refine m9 0 ?_;refine m9 1 ?_;refine w_8 ?_;refine qcx ahr (aw6 _ _) ?_;refine w_4 ?_;refine qcx (wgx Tryz.func156) (bjp _ _) ?_;refine w_4 ?_;refine qcx (wgx Tryz.func157) (bbo _ _) ?_;refine m9 2 ?_;refine rc rfl rfl rfl rfl rfl rfl (wgx Tryz.func154) (cOr [gi a.kind b.kind,gi a.num b.num,o3 a.str b.str]) (⟨CoC.one (ba4 (CoP.refl _) (CoP.refl _) (CoP.refl _)),trivial⟩) rfl rfl ?_;refine v_3 ?_;exact ⟨cci (bd9 a b),trivial⟩
def bfs (l:List Val):cz bw0 102 [.one (.ref 900 l.length)] [(900, .arr true 3 84 l.length (lf Val.c l))] (.v (.one (.p (vals (gk l))))) [] []:=by
 refine hfx (nt:=61) Tryz.func102 ?_;refine cq ?_;refine a8p 900 rfl fun hlen=>?_;refine dc ?_;refine hcd (fun h0=>?_) (fun h0=>?_)
 · refine w_5 ?_;refine bn 2 rfl rfl rfl ?_;refine hrr ?_;exact ⟨_,_,rfl,bvb,auv (k:=l.length) (brd _) (fun j h1 h2=>by omega),trivial⟩
 refine w_7 ?_;refine ah (ι:=Nat) (ka 0 kn) (kb 900 km) (fun k=>⟨[(3,some (vI k))],[]⟩) (fun k=>1 <= k /\ k <= l.length /\ ∀ j,0 < j -> j < k -> ¬ l.getD j default = l.getD (j - 1) default) (fun k=>l.length - k) (1) (⟨brd _,by omega,fun j h1 h2=>by omega⟩) kk ?_;rintro k ⟨hk1,hk,hI⟩;refine w_8 ?_;refine hcd (fun h1=>?_) (fun h1=>?_)
 ·
  refine va ?_;refine au _ rfl (fun r2=>?_) (fun r2=>?_)
  ·
   have h2:=r2;have hq:=eqJ (l:=l) (a:=k) (b:=k - 1) (by simpa [and_assoc] using r2) rfl bv9;refine kf ?_;refine ah (ι:=Nat × Nat × List Val) (ka 0 (ka 4 kn)) km (fun x=>⟨[(3,some (vI x.1)),(5,some (vI ((x.2.1:Int) - k)))],[(900,some (.arr true 3 84 l.length (lf Val.c x.2.2)))]⟩) (fun x=>CpJ l k x.1 x.2.1 x.2.2) (fun x=>l.length - x.2.1) ((k,k + 1,l)) (CpJ.start hk1 bv9 hI hq) ⟨⟨zy,⟨_,rfl,(coi bvc)⟩,trivial⟩,uu⟩ ?_;rintro ⟨p,q,m⟩ hC;have hC0:=hC;obtain ⟨hml,hkq,hpq,hql,_,_⟩:=hC0;dsimp only at hC hml hkq hpq hql;refine w_8 ?_;refine hcd (fun h3=>?_) (fun h3=>?_)
   ·
    simp only [dn,b5,brn] at h3;refine va ?_;refine au _ rfl (fun r4=>?_) (fun r4=>?_)
    ·
     have h4:=r4;have hq2:=bo0 (l:=m) (a:=q) (b:=q - 1) (by simpa [and_assoc] using r4) bvj bvj;refine a4l ?_
     first | (refine lpz (p + 1, q + 1, m.set p (m.getD q default)) ⟨⟨⟨_, rfl, (coi bve)⟩, ⟨_, rfl, (coi bve)⟩, tt⟩, ⟨⟨_, rfl, (aly id hml.symm bv9 bvq bvh)⟩, trivial⟩⟩ ?_; exact hC.keep bv9 hq2)
           | (refine lpz (p,q + 1,m) ⟨⟨⟨_,rfl,(coi bvc)⟩,⟨_,rfl,(coi bvc)⟩,tt⟩,uu⟩ ?_;exact hC.skip bv9 hq2)
    have h4:=r4;have hq2:=eqJ (l:=m) (a:=q) (b:=q - 1) (by simpa [and_assoc] using r4) bvj bvj;refine w_6 ?_
    first | (refine lpz (p + 1, q + 1, m.set p (m.getD q default)) ⟨⟨⟨_, rfl, (coi bve)⟩, ⟨_, rfl, (coi bve)⟩, tt⟩, ⟨⟨_, rfl, (aly id hml.symm bv9 bvq bvh)⟩, trivial⟩⟩ ?_; exact hC.keep bv9 hq2)
          | (refine lpz (p,q + 1,m) ⟨⟨⟨_,rfl,(coi bvc)⟩,⟨_,rfl,(coi bvc)⟩,tt⟩,uu⟩ ?_;exact hC.skip bv9 hq2)
   simp only [dn,b5,brn] at h3;refine w_6 ?_;refine r9 0 true ?_;refine w_5 ?_;refine afl rfl rfl rfl rfl rfl ?_;refine w_2 ?_;refine hrr ?_;exact ⟨_,_,rfl,bvb,bcd hC bv9 (by simp [b5]),trivial⟩
  have h2:=r2;have hq:=neJ (l:=l) (a:=k) (b:=k - 1) (by simpa [and_assoc] using r2) rfl bv9;refine w_6 ?_;refine lpz (k + 1) kk ?_;refine ⟨by omega,by show k + 1 <= _;omega,fun j h1 h2=>?_⟩
  rcases btr (buo h2) with h | h
  · exact hI j h1 h
  subst h;exact hq
 refine w_6 ?_;refine bn 2 rfl rfl rfl ?_;refine hrr ?_;exact ⟨_,_,rfl,bvb,auv (k:=k) bv9 hI,trivial⟩
abbrev a2l (v:Val):List Value:=[.int .i64 v.kind, .int .i64 v.num, .string v.str]
def bg9 (v:Val):∀ j,j < 3 -> (PV.raw ((a2l v).getD j (.bool false))) = v.c j:=agh rfl rfl rfl
def b2k (g:Nat) (caps:Nat -> PV) (hg:∀ args w,(callFunc g args).run bw0 w = .ok (.enter g args) w) (hc:∀ x y:Val,a6 bw0 g [x.pc,y.pc] (af [pI (ig x y)])) (id:Nat) (l:List Val) (hsz:l.length <= 8589934592) :
 cz bw0 100 [.one (.ref id l.length), .one (.p (.fn g 0 caps))] [(id, .arr true 3 84 l.length (lf (fun v j=>.raw ((a2l v).getD j (.bool false))) l))] (.tup []) [(id, .arr true 3 84 l.length (lf (fun v j=>.raw ((a2l v).getD j (.bool false))) (abl ig l)))] [id] :=
 av8 Tryz.laysSortV 3 bvg Tryz.isAgg84 Tryz.sizeOf84 a2l (fun _=>rfl) (fun x v hv=>by
  rcases brm.1 hv with rfl | hv
  · rfl
  rcases brm.1 hv with rfl | hv
  · rfl
  rcases brm.1 hv with rfl | hv
  · rfl
  cases hv) ig w7.swo w7.eq g caps hg (fun x y=>hc x y) id 84 l hsz
def bbi {wr wr':Bool} {n:Nat} {e:TypeId} {l:List Val} (hw:wr' = true -> wr = true):CoO (.arr wr 3 e n (lf (fun v j=>.raw ((a2l v).getD j (.bool false))) l)) (.arr wr' 3 e n (lf Val.c l)) :=
 ⟨hw,rfl,rfl,rfl,fun i j hi hj=>CoP.of_eq (bg9 _ j hj)⟩
def co_encV' {wr wr':Bool} {n:Nat} {e:TypeId} {l:List Val} (hw:wr' = true -> wr = true):CoO (.arr wr 3 e n (lf Val.c l)) (.arr wr' 3 e n (lf (fun v j=>.raw ((a2l v).getD j (.bool false))) l)) :=
 ⟨hw,rfl,rfl,rfl,fun i j hi hj=>CoP.of_eq (bg9 _ j hj).symm⟩
def bfd (id:Nat) (l:List Val) (hsz:l.length <= 8589934592) (caps:Nat -> PV) :
 cz bw0 100 [.one (.ref id l.length), .one (.p (.fn 101 0 caps))] [(id, .arr true 3 84 l.length (lf (fun v j=>.raw ((a2l v).getD j (.bool false))) l))] (.tup []) [(id, .arr true 3 84 l.length (lf (fun v j=>.raw ((a2l v).getD j (.bool false))) (abl ig l)))] [id] :=
 b2k 101 caps (enters_of Tryz.func101 bvr rfl) atz id l hsz
end
section
open Go.Proofs
def b9k (t:Tbl) (hT:TOk t) (h12:t.attrs.length <= 12) (h200:t.rows.length <= 200):a6 bw0 85 [t.pc,pA 0,pB true] (af [pI 0]):=by
 refine hpx (nt:=34) Tryz.func85 ?_;have hna:=hT.na;have h0f:∀ m:Int,(asI 0).fdiv m = 0:=fun m=>Int.zero_fdiv m;refine sx7 ?_;refine m9 0 ?_;refine w_6 ?_;refine qcx aef (apa hT) ?_;refine bny ?_;refine aw rfl rfl (fun r0=>?_) (fun r0=>?_)
 ·
  have h0:=tz1 r0;(iterate 2 refine k9 (gtf r0) ?_);(iterate 2 refine k9 rfl ?_);refine k9 (gtf r0) ?_;refine w_8 ?_;refine hrr ?_
  omega
 have h0:=tz2 r0;(iterate 2 refine qy ?_ (hg:=(gff r0)));refine aw rfl rfl (fun r1=>?_) (fun r1=>?_)
 ·
  have h1:=r1;(iterate 2 refine qy ?_ (hg:=(gtt r1)));refine qy ?_ (hg:=(gff r0));refine w_3 ?_;refine au _ rfl (fun r2=>?_) (fun r2=>?_)
  · have h2:=tz1 (ck r1 (be r0 r2));refine w_4 ?_;refine hrr ?_;omega
  have h2:=tz2 (ck r1 (be r0 r2));refine w_8 ?_;refine hcn (fun h3=>?_) (fun h3=>?_)
  · refine w_4 ?_;refine hrr ?_;simp_all
  refine v_5 ?_;exact CoL.refl _
 have h1:=r1;(iterate 2 refine k9 (gft r1) ?_);refine rq rfl rfl rfl rfl (gff r0) ?_ (hp:=r1);refine w_3 ?_;refine au _ rfl (fun e=>Bool.noConfusion ((aol r0 rfl).symm.trans e)) (fun _=>?_);refine w_8 ?_
 refine hcn (fun h4=>?_) (fun h4=>?_)
 · refine w_4 ?_;refine hrr ?_;simp_all
 refine v_5 ?_;exact CoL.refl _
def b9d (a b:Row) (ha:a.vals.length <= 16) (hb:b.vals.length = a.vals.length):a6 bw0 139 [a.pc,b.pc] (af [pA (agR a b)]):=by
 refine hpx (nt:=30) Tryz.func139 ?_;refine sx7 ?_;refine m9 0 ?_;refine m9 1 ?_;refine k8 ?_;refine br (ka 3 (ka 9 (ka 10 kn))) (kb 1 km) (fun i=>⟨[(5,some (vA (agT a b i))),(11,some (vI i))],[]⟩) a.vals.length kk ?_;rintro i hi;refine w_5 ?_;refine hcd (fun h0=>?_) (fun h0=>?_)
 ·
  have hil:i < a.vals.length:=by omega
  refine w_8 ?_;refine m9 2 ?_;refine j3 ?_;refine qcx (wgx Tryz.func101) (atz (a.vals.getD i default) (b.vals.getD i default)) ?_;refine w_3 ?_;refine hcd (fun h1=>?_) (fun h1=>?_)
  ·
   refine j3 ?_
   first | (refine lpz (i + 1) ⟨⟨⟨_, rfl, (oi (by rw [show IntKind.wrap .u32 (1 * 2 ^ (min ((i : Int)).toNat IntKind.u32.bits)) = asI ((1 : AS) <<< i) from a1s 1 i, bOr, b87 bva]))⟩, tt⟩, uu⟩ ?_; show i + 1 <= _; omega)
         | (refine lpz (i + 1) ⟨⟨⟨_,rfl,(oi (by rw [b7d bva]))⟩,tt⟩,uu⟩ ?_;show i + 1 <= _;omega)
  refine w_5 ?_
  first | (refine lpz (i + 1) ⟨⟨⟨_, rfl, (oi (by rw [show IntKind.wrap .u32 (1 * 2 ^ (min ((i : Int)).toNat IntKind.u32.bits)) = asI ((1 : AS) <<< i) from a1s 1 i, bOr, b87 bva]))⟩, tt⟩, uu⟩ ?_; show i + 1 <= _; omega)
        | (refine lpz (i + 1) ⟨⟨⟨_,rfl,(oi (by rw [b7d bva]))⟩,tt⟩,uu⟩ ?_;show i + 1 <= _;omega)
 obtain rfl:i = a.vals.length:=by omega
 refine v_6 ?_;exact CoL.refl _
def bnw (y z:AS):a6 bw0 137 [pA y,pP (bx (asC z))] (af [pB (decide (sub z y))]):=by
 refine hpx (nt:=8) Tryz.func137 ?_;refine j4 ?_;exact hx8 rfl rfl rfl (⟨ccb (decide_eq_decide.2 j5),trivial⟩)
def bo6 (y z:AS):a6 bw0 138 [pA y,pP (bx (asC z))] (af [pB (decide (sub y z))]):=by
 refine hpx (nt:=8) Tryz.func138 ?_;refine j4 ?_;exact hx8 rfl rfl rfl (⟨ccb (decide_eq_decide.2 j5),trivial⟩)
def bk9 (l:List AS) (z:AS):a6 bw0 67 [pP (asl l),pP (.fn 137 1 (fun j=>[bx (asC z)].getD j .any))] (af [pB (l.any fun y=>decide (sub z y))]):=akw l 137 1 _ _ (wgx Tryz.func137) fun y=>bnw y z
def bk8 (l:List AS) (z:AS):a6 bw0 67 [pP (asl l),pP (.fn 138 1 (fun j=>[bx (asC z)].getD j .any))] (af [pB (l.any fun y=>decide (sub y z))]):=akw l 138 1 _ _ (wgx Tryz.func138) fun y=>bo6 y z
def bmi (n:Nat) (av:List AS) (hn:n <= 16):a6 bw0 86 [pI (n:Int),pP (asl av)] (af [pP (asl (bie n av))]):=by
 refine hpx (nt:=37) Tryz.func86 ?_;have hsl:=xr (aa (n:Int));have h0z:(0:Int) <= (n:Int):=by omega
 have h1z:(n:Int) <= 16:=by omega
 refine kf ?_;refine rq rfl rfl rfl rfl rfl ?_ (hp:=⟨ua h0z h1z,qq h0z h1z⟩);refine rc rfl rfl rfl rfl rfl rfl ala (av5 (aa (n:Int))) (⟨cci (qw h0z h1z),trivial⟩) rfl rfl ?_;refine w_4 ?_;refine df 5 900 true 1 50 (lf sC []) bvg rfl (CoP.sl rfl (.inr rfl) (fun h=>h) (fun i j hi _=>absurd hi (brg i))) (.inr rfl) rfl ?_;refine br (ka 1 (ka 13 (ka 14 kn))) km (fun i=>⟨[(5,some (.v (.one (.ref 900 (qb n av i).length)))),(15,some (vI i))],[(900,some (.arr true 1 50 (qb n av i).length (lf sC (qb n av i))))]⟩) ((c4 (aa (n:Int))).length) kk ?_;rintro i hi;have hul:=b6m (n:=n) (av:=av) (i:=i);refine w_5 ?_;refine hcd (fun h0=>?_) (fun h0=>?_)
 ·
  have hil:i < (c4 (aa (n:Int))).length:=by omega
  refine w_7 ?_;refine m9 0 ?_;refine w_2 ?_;refine jz 7 rfl rfl rfl ?_;refine w_4 ?_;refine qcx acy (bk9 av ((c4 (aa (n:Int))).getD i default)) ?_;refine w_6 ?_;refine qcx acy (bk8 (qb n av i) ((c4 (aa (n:Int))).getD i default)) ?_;refine w_7 ?_;refine aw rfl rfl (fun r1=>?_) (fun r1=>?_)
  ·
   have h1:=eg r1;(iterate 2 refine qy ?_ (hg:=(gtt r1)));refine w_2 ?_;refine au _ rfl (fun r2=>?_) (fun r2=>?_)
   ·
    have h2:=eg (ck r1 r2);refine w_3 ?_;refine m9 1 ?_;refine r9 2 true ?_;refine w_6 ?_
    first | (refine lpz (i + 1) ⟨⟨⟨_, rfl, (bz (a38 hil bva bva))⟩, tt⟩, ⟨⟨_, rfl, (c5 (a38 hil bva bva) (CoP.refl _))⟩, trivial⟩⟩ ?_; show i + 1 <= _; omega)
          | (refine lpz (i + 1) ⟨⟨⟨_,rfl,(ce (by first | exact yt hil bva | exact zf hil bva))⟩,tt⟩,⟨⟨_,rfl,(bv (by first | exact yt hil bva | exact zf hil bva))⟩,trivial⟩⟩ ?_;show i + 1 <= _;omega)
   have h2:=ek (ck r1 r2);refine w_5 ?_
   first | (refine lpz (i + 1) ⟨⟨⟨_, rfl, (bz (a38 hil bva bva))⟩, tt⟩, ⟨⟨_, rfl, (c5 (a38 hil bva bva) (CoP.refl _))⟩, trivial⟩⟩ ?_; show i + 1 <= _; omega)
         | (refine lpz (i + 1) ⟨⟨⟨_,rfl,(ce (by first | exact yt hil bva | exact zf hil bva))⟩,tt⟩,⟨⟨_,rfl,(bv (by first | exact yt hil bva | exact zf hil bva))⟩,trivial⟩⟩ ?_;show i + 1 <= _;omega)
  have h1:=ek r1;(iterate 2 refine k9 (gft r1) ?_);refine w_8 ?_
  first | (refine lpz (i + 1) ⟨⟨⟨_, rfl, (bz (a38 hil bva bva))⟩, tt⟩, ⟨⟨_, rfl, (c5 (a38 hil bva bva) (CoP.refl _))⟩, trivial⟩⟩ ?_; show i + 1 <= _; omega)
        | (refine lpz (i + 1) ⟨⟨⟨_,rfl,(ce (by first | exact yt hil bva | exact zf hil bva))⟩,tt⟩,⟨⟨_,rfl,(bv (by first | exact yt hil bva | exact zf hil bva))⟩,trivial⟩⟩ ?_;show i + 1 <= _;omega)
 obtain rfl:i = (c4 (aa (n:Int))).length:=by omega
 refine w_2 ?_;refine bn 5 rfl rfl rfl ?_;refine v_4 ?_;exact ⟨CoC.one (CoP.refl _),trivial⟩
def bo7 (t:Tbl) (hT:TOk t):a6 bw0 88 [t.pc] (af [pP (psl 3 wC (j9 (gw (prs t.rows))))]):=by
 refine hpx (nt:=80) Tryz.func88 ?_;have hna:=hT.na;have hnr:=hT.nr;have hpb:=b22 hnr;have hml:=aip (l:=gw (prs t.rows));refine sx7 ?_;refine m9 0 ?_;refine w_3 ?_;refine f5 [] [0,1] rfl ?_;refine a4n (k:=0) (L:=[1]) 901 rfl (fun bg=>?_);refine eu (E:=ef) (L1:=[1]) (L2:=[]) dm ?_;refine w_2 ?_;refine jv ?_;refine kf ?_;refine df 4 900 true 1 50 (lf sC []) bvg rfl (CoP.sl rfl (.inr rfl) (fun h=>h) (fun i j hi _=>absurd hi (brg i))) (.inr rfl) rfl ?_;refine ah (ι:=Nat × Array MapEntry × Nat) (ka 1 (ka 3 (ka 17 (ka 18 kn)))) (kb 0 km) (fun x=>⟨[(4,some (.v (.one (.ref 900 (gw (kr t.rows x.1 (x.1 + 1))).length)))),(19,some (vI x.1))],[(900,some (.arr true 1 50 (gw (kr t.rows x.1 (x.1 + 1))).length (lf sC (gw (kr t.rows x.1 (x.1 + 1)))))),(901,some (mpO bg x.2.1 x.2.2))]⟩) (fun x=>x.1 <= t.rows.length /\ WIn bw0 x.2.1 x.2.2 (gw (kr t.rows x.1 (x.1 + 1)))) (fun x=>t.rows.length - x.1) ((0,#[],0)) (⟨bre _,WIn.nil⟩) kk ?_;rintro ⟨i,es,clock⟩ ⟨hi,hW⟩;dsimp only at hi hW ⊢;refine w_5 ?_;refine hcd (fun h0=>?_) (fun h0=>?_)
 ·
  have hir:i < t.rows.length:=by omega
  have hwi:(t.rows.getD i default).vals.length = t.attrs.length:=hT.width hir;have hls:dn (b5 t.rows.length none) (some ((i:Int) + 1)) = t.rows.length - (i + 1):=rfl;refine w_8 ?_;refine m9 1 ?_;refine qs ?_;refine ah (ι:=Nat × Array MapEntry × Nat) (ka 1 (ka 3 (ka 6 (ka 17 (ka 18 (ka 19 (ka 28 (ka 29 kn)))))))) (kb 0 (kb 1 km)) (fun y=>⟨[(4,some (.v (.one (.ref 900 (gw (kr t.rows i (i + 1 + y.1))).length)))),(30,some (vI y.1))],[(900,some (.arr true 1 50 (gw (kr t.rows i (i + 1 + y.1))).length (lf sC (gw (kr t.rows i (i + 1 + y.1)))))),(901,some (mpO bg y.2.1 y.2.2))]⟩) (fun y=>y.1 <= t.rows.length - (i + 1) /\ WIn bw0 y.2.1 y.2.2 (gw (kr t.rows i (i + 1 + y.1)))) (fun y=>t.rows.length - (i + 1) - y.1) ((0,es,clock)) (⟨bre _,hW⟩) kk ?_;rintro ⟨j,es,clock⟩ ⟨hj,hW⟩;dsimp only at hj hW ⊢;have hbd:=bc9 (k:=i + 1 + j) hir hnr;refine w_5 ?_;refine hcd (fun h1=>?_) (fun h1=>?_)
  ·
   have hkr:i + 1 + j < t.rows.length:=by omega
   have hjk:((i:Int) + 1).toNat + j = i + 1 + j:=by omega
   have hwk:(t.rows.getD (((i:Int) + 1).toNat + j) default).vals.length = t.attrs.length:=by rw [hjk];exact hT.width hkr
   refine w_7 ?_;refine m9 2 ?_;refine w_6 ?_;refine qcx (wgx Tryz.func139) (b9d (t.rows.getD i default) (t.rows.getD (((i:Int) + 1).toNat + j) default) (by rw [hwi];exact hna) (by rw [hwi,hwk])) ?_;refine w_3 ?_;refine f5 [] [0,1,2,3,4,5,6,7,8] rfl ?_;refine eu (E:=ef) (L1:=[0,1]) (L2:=[2,3,4,5,6,7,8]) dm ?_;refine w_3 ?_;refine abf (mid:=901) (k:=2) (L:=[3,4,5,6,7,8]) rfl Tryz.underlying193 (Go.Maps.int_keyed Tryz.underlying50) Tryz.zeroValue195 rfl hW.mx (Go.Maps.keyOf_int_mk Tryz.underlying50 (wfA _)) rfl (fun ok v hy hn1=>?_)
   obtain ⟨a0,b0,rfl⟩:∃ a0 b0:Int,v = .agg #[.int .i64 a0, .int .i64 b0]:=by
    cases ok with
    | true =>
     obtain ⟨e,he,hk,rfl⟩:=hy rfl;exact hW.vl e he
    | false=>exact ⟨0,0,(hn1 rfl).1⟩
   refine eu (E:=ef) (L1:=[3,4,5,6,7,8]) (L2:=[]) dm ?_;refine w_3 ?_;refine m9 3 ?_;refine w_3 ?_;refine jv ?_;refine w_5 ?_;refine au _ rfl (fun r2=>?_) (fun r2=>?_)
   ·
    have h2:=eg r2;have hok1:ok = false:=by simpa using r2
    subst hok1;obtain ⟨_,hno⟩:=hn1 rfl;have hab:=hW.absent hno;refine cq ?_;refine f5 [] [0,1,2,3,4,5,6,7] rfl ?_;refine eu (E:=ef) (L1:=[0,1,2,3,4,5,6]) (L2:=[7]) dm ?_;refine w_8 ?_;refine a3t (mid:=901) (k:=7) (L:=[]) rfl Tryz.underlying193 (Go.Maps.int_keyed Tryz.underlying50) hW.mx (by have:=hW.sz;unfold maxLen;omega) (Go.Maps.keyOf_int_mk Tryz.underlying50 (wfA _)) rfl rfl (fun es3 clock3 hX3 hP=>?_);refine jv ?_;refine w_3 ?_;refine m9 4 ?_;refine r9 5 true ?_;refine w_6 ?_
    first | (refine lpz (j + 1, es3, clock3) ⟨⟨⟨_, rfl, (bz (by rw [ip hkr hjk, a9g hab]))⟩, tt⟩, ⟨⟨_, rfl, (c5 (by rw [ip hkr hjk, a9g hab]) (CoP.refl _))⟩, uu⟩⟩ ?_; exact ⟨by show j + 1 <= _; omega, by rw [ip hkr hjk, a9g hab]; exact hW.put hX3 hP⟩)
          | (refine lpz (j + 1,es,clock) ⟨⟨⟨_,rfl,(ce (by rw [ip hkr hjk,a8r hfd]))⟩,tt⟩,⟨⟨_,rfl,(bv (by rw [ip hkr hjk,a8r hfd]))⟩,uu⟩⟩ ?_;exact ⟨by show j + 1 <= _;omega,by rw [ip hkr hjk,a8r hfd];exact hW⟩)
   have h2:=ek r2;have hok1:ok = true:=by simpa using r2
   obtain ⟨e0,he0,hk0,_⟩:=hy hok1;have hfd:=hW.found he0 hk0;refine w_5 ?_
   first | (refine lpz (j + 1, es3, clock3) ⟨⟨⟨_, rfl, (bz (by rw [ip hkr hjk, a9g hab]))⟩, tt⟩, ⟨⟨_, rfl, (c5 (by rw [ip hkr hjk, a9g hab]) (CoP.refl _))⟩, uu⟩⟩ ?_; exact ⟨by show j + 1 <= _; omega, by rw [ip hkr hjk, a9g hab]; exact hW.put hX3 hP⟩)
         | (refine lpz (j + 1,es,clock) ⟨⟨⟨_,rfl,(ce (by rw [ip hkr hjk,a8r hfd]))⟩,tt⟩,⟨⟨_,rfl,(bv (by rw [ip hkr hjk,a8r hfd]))⟩,uu⟩⟩ ?_;exact ⟨by show j + 1 <= _;omega,by rw [ip hkr hjk,a8r hfd];exact hW⟩)
  obtain rfl:j = t.rows.length - (i + 1):=by omega
  refine w_5 ?_;refine lpz (i + 1,es,clock) ⟨⟨⟨_,rfl,(ce (by rw [<- a5n hir]))⟩,tt⟩,⟨⟨_,rfl,(bv (by rw [<- a5n hir]))⟩,uu⟩⟩ ?_;exact ⟨by show i + 1 <= _;omega,by rw [<- a5n hir];exact hW⟩
 obtain rfl:i = t.rows.length:=by omega
 refine w_7 ?_;refine bn 4 rfl rfl rfl ?_;refine w_2 ?_;refine rc rfl rfl rfl rfl rfl rfl akz (ab6 (gw (prs t.rows)) bv9) (⟨CoC.of_eq (by rw [al7];rfl),trivial⟩) rfl rfl ?_;refine w_4 ?_;refine df 12 902 true 3 192 (lf wC []) bvg rfl (CoP.sl rfl (.inr rfl) (fun h=>h) (fun i j hi _=>absurd hi (brg i))) (.inr rfl) rfl ?_;refine br (ka 3 (ka 59 (ka 60 kn))) (kb 901 km) (fun i=>⟨[(12,some (.v (.one (.ref 902 ((j9 (gw (prs t.rows))).take i).length)))),(61,some (vI i))],[(902,some (.arr true 3 192 ((j9 (gw (prs t.rows))).take i).length (lf wC ((j9 (gw (prs t.rows))).take i))))]⟩) ((j9 (gw (prs t.rows))).length) kk ?_;rintro i hi;have htl:((j9 (gw (prs t.rows))).take i).length = i:=by rw [brl];omega
 refine w_5 ?_;refine hcd (fun h3=>?_) (fun h3=>?_)
 ·
  have him:i < (j9 (gw (prs t.rows))).length:=by omega
  refine w_9 ?_;refine f5 [] [0,1,2,3,4,5,6,7,8,9,10,11,12,13] rfl ?_;refine eu (E:=ef) (L1:=[0,1,2,3]) (L2:=[4,5,6,7,8,9,10,11,12,13]) dm ?_;refine w_5 ?_;refine aql (mid:=901) (k:=4) (L:=[5,6,7,8,9,10,11,12,13]) rfl Tryz.underlying193 (Go.Maps.int_keyed Tryz.underlying50) Tryz.zeroValue195 hW (Go.Maps.keyOf_int_mk Tryz.underlying50 (wfA _)) rfl (fun a4 b4=>?_);refine aii 0 (k:=5) (L:=[6,7,8,9,10,11,12,13]) rfl Tryz.underlying195 (show v8 bw0 2 = some ⟨.int .i64,1,8,some [.int .i64 0],false,false,true⟩ by kernel_rfl) rfl rfl bvg ?_;refine eu (E:=ef) (L1:=[6,7]) (L2:=[8,9,10,11,12,13]) dm ?_;refine w_3 ?_;refine aql (mid:=901) (k:=8) (L:=[9,10,11,12,13]) rfl Tryz.underlying193 (Go.Maps.int_keyed Tryz.underlying50) Tryz.zeroValue195 hW (Go.Maps.keyOf_int_mk Tryz.underlying50 (wfA _)) rfl (fun a8 b8=>?_);refine aii 1 (k:=9) (L:=[10,11,12,13]) rfl Tryz.underlying195 (show v8 bw0 2 = some ⟨.int .i64,1,8,some [.int .i64 0],false,false,true⟩ by kernel_rfl) rfl rfl bvg ?_;refine eu (E:=ef) (L1:=[10,11,12,13]) (L2:=[]) dm ?_;refine qy ?_;refine m9 6 ?_;refine r9 7 true ?_;refine w_2 ?_;refine jv ?_;refine w_4 ?_;exact lpx (i + 1) ⟨⟨⟨_,rfl,(bz (al him))⟩,tt⟩,⟨⟨_,rfl,(a09 (al him) (CoP.refl _) CoP.any_of CoP.any_of)⟩,uu⟩⟩
 obtain rfl:i = (j9 (gw (prs t.rows))).length:=by omega
 refine w_2 ?_;refine bn 12 rfl rfl rfl ?_;refine v_4 ?_;exact ⟨CoC.one (by rw [bro];exact CoP.refl _),trivial⟩
def bgg (l:List AS) (hl:l.length <= 2000000):a6 bw0 87 [pP (psl 3 wC l)] (af [pP (asl l)]):=by
 refine hpx (nt:=19) Tryz.func87 ?_;refine dc ?_;refine cu 0 rfl fun hn=>?_;refine w_6 ?_;refine df 3 900 true 1 50 (lf sC []) bvg rfl (CoP.sl rfl (.inr rfl) (fun h=>h) (fun i j hi _=>absurd hi (brg i))) (.inr rfl) rfl ?_;refine br (ka 6 (ka 7 kn)) km (fun i=>⟨[(3,some (.v (.one (.ref 900 (l.take i).length)))),(8,some (vI i))],[(900,some (.arr true 1 50 (l.take i).length (lf sC (l.take i))))]⟩) l.length kk ?_;rintro i hi;have htl:(l.take i).length = i:=by rw [brl];omega
 refine w_5 ?_;refine hcd (fun h0=>?_) (fun h0=>?_)
 ·
  have hil:i < l.length:=by omega
  refine w_7 ?_;refine m9 0 ?_;refine w_6 ?_;refine m9 1 ?_;refine r9 2 true ?_;refine w_6 ?_;exact lpx (i + 1) ⟨⟨⟨_,rfl,(bz (al hil))⟩,tt⟩,⟨⟨_,rfl,(c5 (al hil) (CoP.refl _))⟩,trivial⟩⟩
 obtain rfl:i = l.length:=by omega
 refine w_2 ?_;refine bn 3 rfl rfl rfl ?_;refine v_4 ?_;exact ⟨CoC.one (by rw [bro];exact CoP.refl _),trivial⟩
def bf6 (t:Tbl) (hT:TOk t) (h12:t.attrs.length <= 12) (h200:t.rows.length <= 200):a6 bw0 32 [t.pc] (af [pP (asl (b7k t)),pI 0]):=by
 refine hpx (nt:=17) Tryz.func32 ?_;have hna:=hT.na;refine sx7 ?_;refine m9 0 ?_;refine w_7 ?_;refine rc rfl rfl rfl rfl rfl rfl (wgx Tryz.func85) (b9k t hT h12 h200) (⟨CoC.refl _,CoC.refl _,CoC.refl _,trivial⟩) rfl rfl ?_;refine k8 ?_;refine qcx (wgx Tryz.func88) (bo7 t hT) ?_;refine qcx (wgx Tryz.func87) (bgg (j9 (gw (prs t.rows))) (bs4 aip (b22 hT.nr))) ?_;refine qcx (wgx Tryz.func86) (bmi t.attrs.length (j9 (gw (prs t.rows))) hna) ?_;refine v_4 ?_;exact ⟨CoC.refl _,CoC.refl _,trivial⟩
end
section
def bo1 (l:List Fd) (p:AS) (k:Nat):List Fd:=(((List.range k).map (BitVec.ofNat 32)).filter fun s=>decide (sub s p)).map fun s=>⟨s,clo l s &&& p⟩
def br6 (l:List Fd) (ps:List AS) (i:Nat):List Fd:=(ps.take i).flatMap fun p=>bo1 l p (p.toNat + 1)
def br1 (a b:List Fd):Bool:=b.any fun f=>!imp a f
def b4g (n:Int) (l:List Fd) (ps:List AS):Int:=if bj n l = 0 then lsC n ps l [] else bj n l
def awe (n:Int) (l:List Fd) (ps:List AS):Bool:=decide (bj n l = 0) && (lsB n ps l [] && a4a l ps && ps.all (qa l))
section
variable {n:Int} {l:List Fd} {ps:List AS}
def bm6 (h:bj n l = 0) (h2:lsC n ps l [] = 0):b4g n l ps = 0 /\ awe n l ps = (lsB n ps l [] && a4a l ps && ps.all (qa l)):=by
 refine ⟨(if_pos h).trans h2, ?_⟩;unfold awe;rw [decide_eq_true h,btn]
end
end
section
section
variable {l:List Fd}
def b67 {k:List Fd} (h:∀ f ∈ l,f ∈ k) {f:Fd} (hi:imp l f = true):imp k f = true :=
 decide_eq_true (b6 (of_decide_eq_true hi) (l4 (fun g hg=>ij g (h g hg)) lw))
theorem ag5:∀ (f:Nat) (l:List Fd) (i:Nat),l.length - i <= f -> (∀ j,j < i -> j < l.length -> tx l j = false) -> ∀ j,j < (jx f l i).length -> tx (jx f l i) j = false
 | 0,l,i,hf,h,j,hj=>h j (by unfold jx at hj;omega) (by unfold jx at hj;exact hj)
 | f + 1,l,i,hf,h,j,hj=>by
  unfold jx at hj ⊢;split at hj
  · rename_i hi
    rw [if_pos hi];split at hj
    · rename_i hr
      rw [if_pos hr];have hol:=l5 hi;refine ag5 f (d6 l i) i bv9 (fun a ha hal=>?_) j hj
      cases hq:tx (d6 l i) a with
      | false=>rfl
      | true =>
       have hal':a < l.length:=by omega
       have e:(d6 l i).getD a default = l.getD a default:=by
        unfold d6
        grind
       have h2:=h a ha hal';unfold tx at hq h2;rw [e] at hq;rw [b67 (k:=d6 l a) (fun g hg=>?_) hq] at h2
       · cases h2
       unfold d6 at hg ⊢;rw [brr] at hg ⊢
       rcases hg with hg | hg
       · grind
       refine .inr ?_;obtain ⟨k,hk,rfl⟩:=bud.1 hg;rw [bu4] at hk;rw [List.getElem_drop];by_cases hc:a + 1 + k < i
       · rw [List.getElem_append_left (by rw [brl];omega),List.getElem_take]
         exact but.2 ⟨k,by omega,by first | rfl | (congr 1;omega) | (congr 1)⟩
       rw [List.getElem_append_right (by rw [brl];omega),List.getElem_drop];have:=brl (i:=i) (l:=l);rw [brh,bu4] at hk;exact but.2 ⟨k + 1,by omega,by first | (congr 1;omega) | (congr 1) | rfl⟩
    rename_i hr;rw [if_neg hr];refine ag5 f l (i + 1) bv9 (fun a ha hal=>?_) j hj
    grind
  grind
def al4 (l:List Fd):∀ j,j < (mw l).length -> tx (mw l) j = false:=ag5 _ _ 0 bv9 fun j hj=>absurd hj (brg j)
def a0z (l0:List Fd) (x:Fd) (a:Nat):Prop:=x.lhs.getLsbD a = true -> imp l0 (a49 x a) = false
def apr {s t:AS} (h:sub s t) (a:Nat):sub (s &&& ~~~((1:AS) <<< a)) (t &&& ~~~((1:AS) <<< a)):=aq.2 fun i hi hb=>by
 rw [brv,brk] at hb ⊢;exact ⟨aq.1 h i hi hb.1,hb.2⟩
variable {a:Nat} {l0:List Fd}
def azm {x y:Fd} (ha:a < 32) (h:a0z l0 x a) (h1:sub y.lhs x.lhs) (h2:y.rhs = x.rhs):a0z l0 y a:=fun hb=>by
 have:=h (aq.1 h1 a ha hb)
 cases hq:imp l0 (a49 y a) with
 | false=>rfl
 | true =>
  have hs:sub y.rhs (clo l0 (y.lhs &&& ~~~((1:AS) <<< a))):=of_decide_eq_true hq
  have:imp l0 (a49 x a) = true:=decide_eq_true (by
   show sub x.rhs (clo l0 (x.lhs &&& ~~~((1:AS) <<< a)));rw [<- h2]
   exact b6 hs (mz (apr h1 a)))
  simp_all
variable {i:Nat}
def bdt (hi:i < l.length):sub ((eo i l a).getD i default).lhs (l.getD i default).lhs /\ ((eo i l a).getD i default).rhs = (l.getD i default).rhs:=by
 unfold eo;split
 · rw [a15 hi];exact ⟨ed,rfl⟩
 exact ⟨fl _,rfl⟩
def aby:∀ (m:List Nat) (l:List Fd),i < l.length -> sub ((m.foldl (eo i) l).getD i default).lhs (l.getD i default).lhs /\ ((m.foldl (eo i) l).getD i default).rhs = (l.getD i default).rhs
 | [],l,_=>⟨fl _,rfl⟩
 | a :: m,l,hi=>by
  have h1:=aby m (eo i l a) (by rw [a4v];exact hi);have h2:=bdt (a:=a) hi;exact ⟨b6 h1.1 h2.1,h1.2.trans h2.2⟩
theorem b1q (he:Eqv l0 l) (hi:i < l.length) (ha:a < 32):a0z l0 ((eo i l a).getD i default) a:=by
 intro hb
 cases h1:(l.getD i default).lhs.getLsbD a with
 | false =>
  rw [b1u (by rw [dx ha];exact h1),h1] at hb;cases hb
 | true =>
  cases h2:exB l (l.getD i default) a with
  | false =>
   rw [aqj h2];unfold exB imp at h2;unfold imp a49;rw [he.clo];exact h2
  | true =>
   rw [aqs (by rw [dx ha];exact h1) h2,a15 hi] at hb;have hb:((l.getD i default).lhs &&& ~~~((1:AS) <<< a)).getLsbD a = true:=hb
   grind
def aey:∀ (m:List Nat) (l:List Fd),Eqv l0 l -> i < l.length -> (∀ a ∈ m,a < 32) -> ∀ a ∈ m,a0z l0 ((m.foldl (eo i) l).getD i default) a
 | [],l,_,_,_,a,h=>by cases h
 | b :: m,l,he,hi,h32,a,h=>by
  have hi':i < (eo i l b).length:=by rw [a4v];exact hi
  rcases brm.1 h with rfl | h
  · have hs:=aby m (eo i l a) hi'
    exact azm (h32 a bsj) (b1q he hi (h32 a bsj)) hs.1 hs.2
  exact aey m _ (he.trans am1) hi' (fun c hc=>h32 c (bs1 _ hc)) a h
def ay2 (he:Eqv l0 l) (hi:i < l.length):∀ a,a < 32 -> a0z l0 ((a5e l i).getD i default) a:=fun a ha hb=>by
 have hs:=aby (aj (l.getD i default).lhs) l hi;have hm:a ∈ aj (l.getD i default).lhs:=jg.2 ⟨ha,aq.1 hs.1 a ha hb⟩;exact aey _ l he hi (fun c hc=>(jg.1 hc).1) a hm hb
theorem aaf {j:Nat} (hne:j ≠ i):∀ (m:List Nat) (l:List Fd),(m.foldl (eo i) l).getD j default = l.getD j default
 | [],l=>rfl
 | a :: m,l=>by
  rw [btp,aaf hne m];unfold eo
  grind
def aiz (he:Eqv l0 l):∀ i,i <= l.length -> ∀ j,j < i -> ∀ a,a < 32 -> a0z l0 ((jj l i).getD j default) a
 | 0,_,j,hj,_,_=>absurd hj (brg j)
 | i + 1,hi,j,hj,a,ha=>by
  rw [uo];by_cases e:j = i
  · subst e
    exact ay2 (he.trans (abm l j)) (by rw [my];omega) a ha
  unfold a5e;rw [aaf e];exact aiz he i bv9 j bv9 a ha
theorem aci {f:Fd} (hf:f ∈ mw l) (ha:a < 32):a0z l f a:=by
 have h1:=l8.1 (ul _ _ _ hf);obtain ⟨j,hj,rfl⟩:=bry h1;have hj':=hj;rw [my] at hj';have:=aiz (l0:=l) (l:=spl l) ((aju l).trans (ahv fun f=>l8.symm)) (spl l).length (brd _) j hj' a ha
 grind
def a51 (l:List Fd):Prop:=∀ f ∈ l,∃ k:Nat,f.rhs = (1:AS) <<< k
theorem b11 (l:List Fd):a51 (gl l):=fun g hg=>by
 unfold gl at hg;obtain ⟨ys,hys,hxy⟩:=buy.1 hg;obtain ⟨f,hf,rfl⟩:=brp.1 hys;unfold oz at hxy
 grind
def b59 (h:a51 l):a51 (eo i l a):=by
 unfold eo;split
 · intro x hx
   rcases bu0 hx with hx | rfl
   · exact h x hx
   by_cases hi:i < l.length
   · exact h (l.getD i default) (by rw [brc,brb hi];exact brs hi)
   rw [bto bv9] at hx;exact h _ hx
 exact h
def aj4:∀ (m:List Nat) (l:List Fd),a51 l -> a51 (m.foldl (eo i) l)
 | [],_,h=>h
 | a :: m,l,h=>aj4 m _ (b59 h)
def ao8 (h:a51 l):∀ i,a51 (jj l i)
 | 0=>h
 | i + 1=>by rw [uo];exact aj4 _ _ (ao8 h i)
def agq (l:List Fd):a51 (mw l):=fun f hf =>
 ao8 (fun g hg=>b11 l g (l8.1 hg)) _ f (l8.1 (ul _ _ _ hf))
theorem ain:∀ (k:List Fd) (s:AS),(k.foldl (fun a f=>a ||| f.rhs) s).getLsbD i = true -> s.getLsbD i = true \/ ∃ f ∈ k,f.rhs.getLsbD i = true
 | [],s,h=>.inl h
 | f :: k,s,h=>by
  rcases ain k _ h with h | ⟨g,hg,hb⟩
  · grind
  grind
theorem amx {k:List Fd} {s:AS} (h:(mgR k s).getLsbD i = true):∃ f ∈ k,f.lhs = s /\ f.rhs.getLsbD i = true:=by
 unfold mgR at h
 rcases ain _ _ h with h | ⟨f,hf,hb⟩
 · simp at h
 grind
def apo {p:AS} (h:∀ x,sub x p -> zg l p x = false -> ∀ i,i < 32 -> (clo l x).getLsbD i = true -> p.getLsbD i = true -> x.getLsbD i = false -> (a3w l p).getLsbD i = true):qa l p = true:=by
 unfold qa;rw [bsd,bt1];intro x hx hb;unfold bhi at hb;rw [brk,decide_eq_true_eq,bsd] at hb;refine hb.2 (aq.2 fun i hi hbit=>?_:sub ((clo l x &&& p) &&& ~~~x) (a3w l p));rw [brv,brv,bsv,brk,brk,brk,bsd] at hbit;exact h x (aid.1 hx) hb.1 i hi hbit.1.1 hbit.1.2 hbit.2.2
def b1f {p x:AS} (hx:sub x p) (hk:ah7 l p x = true):sub x (a3w l p):=aq.2 fun i hi hb=>by
 unfold a3w orL;rw [a2s,bsl];exact .inr (bsf.2 ⟨x,bt4.2 ⟨aid.2 hx,hk⟩,hb⟩)
def avk {j m:Nat} (hm:m < l.length) (hne:m ≠ j):l[m] ∈ d6 l j:=by
 unfold d6;rw [brr];by_cases h2:m < j
 · exact .inl (List.mem_take_iff_getElem.2 ⟨m,by omega,rfl⟩)
 exact .inr (but.2 ⟨m - (j + 1),by omega,by congr 1;omega⟩)
theorem arj {M:List Fd} (s5:∀ s,clo M s = clo l s) (aci:∀ {f:Fd},f ∈ M -> ∀ {a:Nat},a < 32 -> a0z l f a) (agq:a51 M) (al4:∀ j,j < M.length -> tx M j = false) {X:AS} (hX:∃ f ∈ M,f.lhs = X):qa l (X ||| mgR M X) = true:=by
 obtain ⟨f0,hf0,rfl⟩:=hX
 have hY:sub (mgR M f0.lhs) (clo l f0.lhs):=aq.2 fun i hi hb=>by
  obtain ⟨g,hg,he,hgb⟩:=amx hb;have:=ij (l:=M) (s:=f0.lhs) g hg (by rw [he];exact lw);rw [s5] at this;exact aq.1 this i hi hgb
 have hsup:zg l (f0.lhs ||| mgR M f0.lhs) f0.lhs = true:=decide_eq_true (vc lw hY)
 have hmin:aqf l (f0.lhs ||| mgR M f0.lhs) f0.lhs = true:=bis fun a ha hb=>by
  cases hq:zg l (f0.lhs ||| mgR M f0.lhs) (noA f0.lhs a) with
  | false=>rfl
  | true =>
   have h1:=aci hf0 ha hb;have h2:sub (f0.lhs ||| mgR M f0.lhs) (clo l (noA f0.lhs a)):=of_decide_eq_true hq;have h4:sub f0.rhs (mgR M f0.lhs):=afg hf0 rfl;have h5:sub f0.rhs (clo l (noA f0.lhs a)):=b6 (b6 h4 qj) h2
   have h3:imp l (a49 f0 a) = true:=by
    unfold noA at h5;unfold imp a49
    grind
   grind
 have hpr:=b1f qo (bjt hsup hmin);refine apo fun x hx hns i hi hc hp hnx=>?_;rw [bt5,bsl] at hp
 rcases hp with hp | hp
 · exact aq.1 hpr i hi hp
 exfalso;obtain ⟨f,hf,hfl,hfb⟩:=amx hp;obtain ⟨j,hj,rfl⟩:=bry hf;have hgd:M.getD j default = M[j]:=by rw [brc,brb hj,bsn]
 obtain ⟨k,hk⟩:=agq _ hf
 have hnX:¬ sub f0.lhs (clo l x):=fun e=>by
  have:zg l (f0.lhs ||| mgR M f0.lhs) x = true:=decide_eq_true (b6 (of_decide_eq_true hsup) (by
   have:=mz (l:=l) e
   rwa [ac5] at this))
  grind
 have hot:∀ g ∈ M,g ≠ M[j] -> g ∈ d6 M j:=fun g hg hne=>by
  obtain ⟨m,hm,rfl⟩:=bry hg;exact avk hm fun e=>hne (by subst e;rfl)
 have hle:∀ s,sub (clo (d6 M j) s) (clo l s):=fun s=>by
  rw [<- s5];exact l4 (fun g hg=>ij g (a2g hg)) lw
 have hcx:sub (clo l x) (clo (d6 M j) x):=by
  rw [<- s5];refine l4 (fun g hg hgs=>?_) lw;by_cases e:g = M[j]
  · subst e
    rw [hfl] at hgs;exact absurd (b6 hgs (hle x)) hnX
  exact ij g (hot g hg e) hgs
 have hxX:sub x (clo (d6 M j) f0.lhs):=aq.2 fun c hc' hcb=>by
  have:=aq.1 hx c hc' hcb;rw [bt5,bsl] at this
  rcases this with h | h
  · exact aq.1 lw c hc' h
  obtain ⟨g,hg,hgl,hgb⟩:=amx h
  have hne:g ≠ M[j]:=fun e=>by
   grind
  exact aq.1 (ij g (hot g hg hne) (by rw [hgl];exact lw)) c hc' hgb
 have hB:(clo (d6 M j) f0.lhs).getLsbD i = true:=by
  have h1:=aq.1 hcx i hi hc;have h2:=mz (l:=d6 M j) hxX;rw [ac5] at h2;exact aq.1 h2 i hi h1
 have hr:=al4 j hj;unfold tx at hr;rw [hgd] at hr
 have:imp (d6 M j) M[j] = true:=decide_eq_true (aq.2 fun c hc' hcb=>by
  rw [hk,lb _ _ hc',decide_eq_true_eq] at hcb;rw [hk,lb _ _ hi,decide_eq_true_eq] at hfb;rw [hfl,hcb,<- hfb]
  exact hB)
 grind
def aw8 {X:AS} (hX:∃ f ∈ mw l,f.lhs = X):qa l (X ||| mgR (mw l) X) = true :=
 arj (s5 l) (fun hf _ ha=>aci hf ha) (agq l) (al4 l) hX
end
section
variable {n:Int} {l:List Fd}
def ayz (h:bj n l = 0) {s t:AS} (hs:it n l s = true) (hst:sub s t) (ht:sub t (aa n)):it n l t = true:=by
 obtain ⟨_,h2,h3⟩:=of_decide_eq_true hs;exact decide_eq_true ⟨h,ht,dw (a5g h ht) (by rw [<- h3];exact mz hst)⟩
def a7r (s:AS):∀ k,sub (io n l s k) s
 | 0=>fl s
 | k + 1=>by
  rw [rg];unfold a3e;split
  · exact b6 ed (a7r s k)
  exact a7r s k
def yj (s:AS):∀ d k,sub (io n l s (k + d)) (io n l s k)
 | 0,k=>fl _
 | d + 1,k=>by
  rw [<- btk,rg];unfold a3e;split
  · exact b6 ed (yj s d k)
  exact yj s d k
theorem b21 (h:bj n l = 0) {a:Nat} (ha:a < n.toNat) (ha2:a < 32) (hb:(io n l (aa n) n.toNat).getLsbD a = true):it n l (noA (io n l (aa n) n.toNat) a) = false:=by
 cases hq:it n l (noA (io n l (aa n) n.toNat) a) with
 | false=>rfl
 | true =>
  exfalso;have e:n.toNat = (n.toNat - 1 - a) + 1 + a:=by omega
  have h1:sub (io n l (aa n) n.toNat) (io n l (aa n) (n.toNat - 1 - a + 1)):=by
   have:=yj (n:=n) (l:=l) (aa n) a (n.toNat - 1 - a + 1)
   grind
  have h2:=aq.1 h1 a ha2 hb
  have h3:sub (io n l (aa n) n.toNat) (io n l (aa n) (n.toNat - 1 - a)):=by
   have:=yj (n:=n) (l:=l) (aa n) (a + 1) (n.toNat - 1 - a)
   grind
  rw [rg,show n.toNat - 1 - (n.toNat - 1 - a) = a by omega] at h2;unfold a3e at h2;have hk:it n l (noA (io n l (aa n) (n.toNat - 1 - a)) a) = true:=ayz h hq (apr h3 a) (b6 ed (a7r _ _));rw [if_pos hk] at h2;unfold noA at h2
  grind
theorem ayn (h:bj n l = 0):qa l (rkS n l (aa n)) = true:=by
 have hr:=(avj h (a0r h)).1;have hk:=afo h;obtain ⟨_,h2,h3⟩:=of_decide_eq_true hk;obtain ⟨h0,h1,_,_⟩:=fz h;refine apo fun x hx hns i hi hc hp hnx=>?_;exfalso
 have hin:i < n.toNat:=by
  have:=aq.1 h2 i hi hp;unfold aa at this;rw [l7 _ _ hi,decide_eq_true_eq] at this;omega
 have hm:it n l (noA (rkS n l (aa n)) i) = false:=by rw [hr] at hp ⊢;exact b21 h hin hi hp
 have hxn:sub x (noA (rkS n l (aa n)) i):=aq.2 fun c hc' hcb=>by
  unfold noA;rw [brv,bsv,lb _ _ hc',aq.1 hx c hc' hcb,decide_eq_true hc']
  grind
 have hKc:sub (rkS n l (aa n)) (clo l (noA (rkS n l (aa n)) i)):=aq.2 fun c hc' hcb=>by
  by_cases e:c = i
  · subst e;exact aq.1 (mz hxn) c hc' hc
  refine aq.1 lw c hc' ?_;unfold noA
  grind
 have hkn:it n l (noA (rkS n l (aa n)) i) = true:=decide_eq_true ⟨h,b6 ed h2,dw (a5g h (b6 ed h2)) (by
  have:=mz (l:=l) hKc
  rwa [ac5,h3] at this)⟩
 grind
def aw1 (h:bj n l = 0):∀ x ∈ ny n l,qa l x = true:=fun x hx=>by
 have hp:∀ x ∈ wl n l,qa l x = true:=fun x hx=>by
  unfold wl at hx;obtain ⟨g,hg,rfl⟩:=brp.1 hx;unfold gt a05 at hg;rw [a0f h] at hg;obtain ⟨s,hs,rfl⟩:=brp.1 hg;obtain ⟨f,hf,rfl⟩:=brp.1 (pg.1 hs);exact aw8 ⟨f,hf,rfl⟩
 unfold ny at hx;split at hx
 · exact hp x hx
 rw [brr,bru] at hx
 rcases hx with hx | rfl
 · exact hp x hx
 exact ayn h
def avq (h:bj n l = 0):∀ x ∈ k7 n l,qa l x = true:=fun x hx=>by
 rw [a3x h] at hx;exact aw1 h x (zu.1 (show x ∈ j9 (ny n l) from hx)).1
end
end
section
section
variable {n:Int} {l:List Fd}
def bav (h:bj n l = 0) {f:Fd} (hf:f ∈ mw l):f.lhs ||| mgR (mw l) f.lhs ∈ ny n l:=by
 have hm:mgF (sb n l) f.lhs ∈ gt n l:=by
  unfold gt a05;rw [a0f h];exact brp.2 ⟨f.lhs,pg.2 (brp.2 ⟨f,hf,rfl⟩),rfl⟩
 have hp:pt (mgF (sb n l) f.lhs) ∈ wl n l:=brp.2 ⟨_,hm,rfl⟩;rw [a0f h] at hp;unfold ny;split
 · exact hp
 exact brr.2 (.inl hp)
def axe (h:bj n l = 0) {f:Fd} (hf:f ∈ mw l):yn l (k7 n l) f = true:=by
 obtain ⟨y,hy,hs⟩:=yy (bav h hf);have hy':y ∈ k7 n l:=by rw [a3x h];exact hy
 have ho:=ack l (k7 n l) f.lhs y hy';have h0:sub f.rhs (mgR (mw l) f.lhs):=afg hf rfl;have h1:sub f.lhs y:=b6 qo hs;have h2:sub f.rhs y:=b6 (b6 h0 qj) hs;have h3:sub f.rhs (clo l f.lhs):=by rw [<- s5];exact ij f hf lw
 have h4:sub f.rhs (clo l (tw l (k7 n l) f.lhs &&& y)):=b6 h3 (mz (np a8u h1));exact decide_eq_true (b6 (np h4 h2) ho)
def at6 (h:bj n l = 0):a4a l (k7 n l) = true:=b38.2 fun f hf=>axe h hf
def bg4 (h:bj n l = 0) (h6:n <= 6):lvE n (k7 n l) = 0:=by
 obtain ⟨x,hx,_⟩:=an2 h;refine b7j (fz h).1 h6 ?_ (fun q hq=>?_) (List.length_pos_of_mem hx) (by rw [amh h];exact fl _)
 · rw [a3x h]
   exact (a69 _).sublist (by unfold avt j9 a8m;exact List.filter_sublist)
 rw [<- amh h];exact a91 hq
def b92 (h:bj n l = 0) (h6:n <= 6):b4g n l (k7 n l) = 0 /\ awe n l (k7 n l) = true:=by
 obtain ⟨x,hx,hk⟩:=an2 h;obtain ⟨h0,h16,_⟩:=fz h;have ht:=as3 (bg4 h h6) (aqb h);have hl:lsB n (k7 n l) l [] = true:=ht.2.2 (ak0 h0 h16 hx (of_decide_eq_true hk).2.2 (at6 h));have hc:=bm6 h ht.1;refine ⟨hc.1, ?_⟩;rw [hc.2,hl,at6 h];exact bs2.2 fun p hp=>avq h p hp
end
end
end Go.Hx

/- A part of the proof: SrK Jw2 Jn3 Jn5 Rb21 Jo2 Jr1 Ch15 Jrw1. -/
import Derived.Shelf.SlSortCmp.NoneTotal
import Derived.Test.YteklilhbjjofbaaGreatDoorLd26
import Derived.Test.YteklilhbjjofbaaGreatDoorLd28
import Derived.Test.YteklilhbjjofbaaGreatDoorLd30
import Derived.Test.YteklilhbjjofbaaGreatDoorLd31
set_option linter.all false
set_option maxRecDepth 100000
set_option maxHeartbeats 1000000
namespace Go.Hx
section
open Go.Proofs Go.RowKit Go.Sort
def ad1 {α:Type} [Inhabited α] {enc:α -> List Value} {k:Nat} (hk:∀ x,(enc x).length = k) {l:List α} {i j:Nat} (hi:i < l.length) (hj:j < k) :
 (flatK enc k l.toArray).toList[i * k + j]? = some ((enc (l.getD i default)).getD j (.bool false)):=by
 have hlt:i * k + j < l.toArray.size * k:=by rw [b6f];exact xl hi hj
 have hlt2:i * k + j < (flatK enc k l.toArray).size:=by rw [size_flatK];exact hlt
 have h:=get_flatK enc k l.toArray (i * k + j) hlt;have k0:0 < k:=by omega
 have e1:(i * k + j) / k = i:=(blk_iff k i _ k0).1 ⟨by omega,by omega⟩;have e2:(i * k + j) % k = j:=by rw [Nat.mod_eq_sub_div_mul,e1];omega
 rw [e1,e2,getElem!_pos (flatK enc k l.toArray) _ hlt2,getElem!_pos l.toArray i (by simpa using hi)] at h;rw [b72,b6e hlt2,h];have hj2:j < (enc l.toArray[i]).length:=by rw [hk];exact hj
 rw [getElem!_pos (enc l.toArray[i]) _ hj2];simp only [List.getElem_toArray,b5c,b5b hi,b6g] at hj2 ⊢;rw [b5b hj2];rfl
def aie {P:Program} {ρ:Go.Shelf.Ren} {α:Type} [Inhabited α] (L:SlLaysF0.n6 P ρ) (k:Nat) (hk0:0 < k) (aE:∀ w,(isAgg (ρ.t 24)).run P w = .ok true w) (zE:∀ w,(Go.sizeOf (ρ.t 24)).run P w = .ok k w) (enc:α -> List Value) (hk:∀ x,(enc x).length = k) (h1:∀ x,∀ v ∈ enc x,v.oneCell' = true)
 (cf:α -> α -> Int) (hO:SWO (ltOf cf)) (hT:∀ x y,(ltOf cf) x y = false -> (ltOf cf) y x = false -> x = y)
 (g:Nat) (caps:Nat -> PV) (hg:∀ args w,(callFunc g args).run P w = .ok (.enter g args) w) (hc:∀ x y,a8 P g [.agg ((enc x).map .raw), .agg ((enc y).map .raw)] (ae [.one (.raw (.int .i64 (cf x y)))])) (id:Nat) (e:TypeId) (l:List α) (hsz:l.length <= 8589934592) :
 cq P (ρ.f 6) [.one (.ref id l.length), .one (.p (.fn g 0 caps))] [(id, .arr true k e l.length (lf (fun x j=>.raw ((enc x).getD j (.bool false))) l))] (.tup [])
  [(id, .arr true k e l.length (lf (fun x j=>.raw ((enc x).getD j (.bool false))) (l.mergeSort fun x y=>!(ltOf cf) y x)))] [id]:=by
 intro w c us hM hus
 match us,hus with
 | [u,v],⟨hu,hv,_⟩ =>
  obtain ⟨cs,rfl,hcl,_⟩:=hv;have hcs:cs = []:=b6s hcl;subst hcs;have hl1:lk [(id,a6.arr true k e l.length (lf (fun x j=>.raw ((enc x).getD j (.bool false))) l))] id = some (.arr true k e l.length (lf (fun x j=>.raw ((enc x).getD j (.bool false))) l)):=by simp [lk]
  have hu2:=(hu.2.2 _ _ _ _ hl1 rfl).2 rfl;subst hu2;have hob:=hM.objs id _ hl1;obtain ⟨h0,hmax,h5⟩:=hob;have hlen:(l.mergeSort fun x y=>!(ltOf cf) y x).length = l.length:=b8g _
  have hev:∀ f':Nat -> Nat -> PV,Evo c (lk [(id,a6.arr true k e l.length (lf (fun x j=>.raw ((enc x).getD j (.bool false))) l))]) c (lk [(id,a6.arr true k e l.length f')]) id:=fun f' =>
   .inr (.inr ⟨_, .arr true k e l.length f',k,e,l.length,l.length,hl1,rfl,by simp [lk],rfl,b5g _,fun _=>rfl,fun _ _ _ _ _ _ _ h=>by cases h⟩)
  rcases b6m l.length with hz | hpos
  · have hl:l = []:=b6s hz
    subst hl
    have hform:∃ ad cap,c.own id = .slice ad 0 cap:=by
     rcases h5 with ⟨_,xs,h2,_⟩ | ⟨_,_,ad,cap,hv,_⟩
     · rcases h2.2 with ⟨hv,_⟩ | ⟨g,cap,cur,hv,_⟩
       · exact ⟨none,0,hv⟩
       exact ⟨_,cap,hv⟩
     exact ⟨ad,cap,hv⟩
    obtain ⟨ad,cap,hown⟩:=hform;have hms:([]:List α).mergeSort (fun x y=>!(ltOf cf) y x) = []:=by simp
    rw [hown,hms];refine (AnyF.slices_SortFunc_none { L with } ad cap (.func (.func g) #[] #[]) w).mono ?_;rintro e' w' ⟨rfl,rfl⟩
    exact ⟨_,c,rfl,⟨[],rfl,trivial⟩,hM,Below.refl _ _,fun _ _ _=>⟨rfl,rfl⟩,fun id0 ob b ho hb=>.inr ⟨id0,ob,ho,hb⟩,fun id0 hid=>by
     rw [b61.1 hid]
     exact Evo.refl _ _ _⟩
  obtain ⟨h6,xs,h2,h4⟩:c.blk id = gj (c.own id) /\ ∃ xs,w.ownsRow 0 e k (c.own id) l.length xs /\ ∀ i j,i < l.length -> j < k -> ∃ x,xs[i * k + j]? = some x /\ am c.imm (lf (fun x j=>.raw ((enc x).getD j (.bool false))) l i j) x:=by
   rcases h5 with h5 | ⟨h6 | h6,_⟩
   · exact h5
   · cases h6
   omega
  obtain ⟨hxl,hrow⟩:=h2
  rcases hrow with ⟨_,hz⟩ | ⟨b,cap,cur,hown,hbase,hheap,hnc,hcm,hcs,htake⟩
  · omega
  have hblk:c.blk id b:=by rw [h6,hown];rfl
  have hlt:b < w.heap.size:=(b5e.1 hheap).1
  have hcell:∀ t,t < l.length * k -> cur[t]? = some (flatK enc k l.toArray)[t]!:=fun t ht=>by
   have htk:t / k < l.length:=Nat.div_lt_of_lt_mul (by rw [Nat.mul_comm];exact ht);have hmk:t % k < k:=Nat.mod_lt _ hk0;have hdm:t / k * k + t % k = t:=by rw [Nat.mul_comm];exact Nat.div_add_mod t k
   obtain ⟨x,hx,hr⟩:=h4 (t / k) (t % k) htk hmk;have hf:=ad1 (enc:=enc) hk htk hmk;rw [hdm] at hx hf;rw [<- htake,b69,if_pos ht,b72] at hx;rw [hx];have hr:x = (enc (l.getD (t / k) default)).getD (t % k) (.bool false) /\ _:=hr;rw [hr.1];have hft:t < (flatK enc k l.toArray).size:=by rw [size_flatK,b6f];exact ht
   rw [b72,b6e hft] at hf;rw [getElem!_pos (flatK enc k l.toArray) _ hft];exact hf.symm
  have hH:HoldsK enc k w b 0 l.toArray:=fun j hj=>by
   have hj:j < l.length * k:=by rw [size_flatK,b6f] at hj;exact hj
   rw [b5q];refine ⟨?_,by simp [World.frozen?,hheap]⟩;simp only [World.cell?,hheap,hcell j hj];rfl
  have hcmp:CmpLays P g #[] enc k cf b 0 l.toArray.size w:=by
   intro m os dk hdk x y
   have hcimm:∀ b' ob,c.imm b' = some ob -> (sortWorldK enc k w b 0 m dk os).heap[b']? = some ob:=fun b' ob hb'=>by
    have hne:b' ≠ b:=fun he=>by
     have:=hM.sep id _ b hl1 hblk;rw [<- he,hb'] at this;cases this
    have hw:=hM.imm b' ob hb';rw [show sortWorldK enc k w b 0 m dk os = sortWorld (fun x:Value=>x) w b 0 m (flatK enc k dk) os from rfl,zr (b5e.1 hw).1 hne];exact hw
   have hrep:∀ x,iq c.imm (.agg ((enc x).map .raw)) (.agg (enc x).toArray):=fun x=>⟨enc x,rfl,by
    have:∀ l:List Value,(∀ v ∈ l,v.oneCell' = true) -> dy c.imm (l.map .raw) l:=by
     intro l
     induction l with
     | nil=>intro _;trivial
     | cons v l ih=>exact fun h=>⟨⟨rfl,h v b8l⟩,ih fun u hu=>h u (by simp [hu])⟩
    exact this _ (h1 x)⟩
   have h:=hc x y (sortWorldK enc k w b 0 m dk os) c.imm [.agg (enc x).toArray, .agg (enc y).toArray] c.tab hcimm ⟨hrep x,hrep y,trivial⟩;refine h.mono ?_;rintro e' w' ⟨v,imm',rfl,hr,_,_,hb⟩;obtain ⟨q,os',hq⟩:=ait hb;exact ⟨by rw [hr.1],q,os',hq⟩
  have hS:=AnyQ.slices_SortFunc_total L k aE zE enc hk h1 cf hO g #[] b 0 cap l.toArray w hg hcmp hH hlt (by rw [b6f];omega) hT;rw [hown];refine Calls.mono hS ?_;rintro e' w' ⟨rfl,m,os,rfl⟩;generalize hSd:(l.mergeSort fun x y=>!(ltOf cf) y x) = S at *;rw [show sortWorldK enc k w b 0 m S.toArray os = sortWorld (fun x:Value=>x) w b 0 m (flatK enc k S.toArray) os from rfl]
  refine ⟨_,c,rfl,⟨[],rfl,trivial⟩,⟨fun id0 ob ho=>?_,fun id0 id1 ob0 ob1 b' ho0 ho1 _ _=>(n7 ho0).1.trans (n7 ho1).1.symm,fun b' ob hb'=>?_,fun id0 ob b' ho hb'=>?_⟩,aj4,
   fun b' hb' hno=>⟨zr hb' (fun he=>hno _ _ hl1 (by rw [he];exact hblk)),rfl⟩,fun id0 ob b' ho hb'=>.inr ⟨_,_,hl1,by rw [<- (n7 ho).1];exact hb'⟩,fun id0 hid=>by
    rw [b61.1 hid]
    exact hev _⟩
  · obtain ⟨rfl,rfl⟩:=n7 ho
    refine ⟨h0,hmax, .inl ⟨h6,(flatK enc k S.toArray).toList,⟨by rw [b68,size_flatK,b6f,hlen], .inr ⟨b,cap,putCells (fun x=>x) 0 (flatK enc k S.toArray) cur,hown,hbase,aix hheap,hnc,hcm,by simpa [putCells] using hcs, ?_⟩⟩,fun i j hi hj=>?_⟩⟩
    · have hle:l.length * k <= cap * k:=b5n _ hnc
      have:=ank (enc:=fun x:Value=>x) (d:=flatK enc k S.toArray) (cur:=cur) (by rw [size_flatK,b6f,hlen,hcs];exact hle);rw [size_flatK,b6f,hlen,List.map_id'] at this;exact this
    have hi':i < S.length:=by rw [hlen];exact hi
    refine ⟨_,ad1 hk hi' hj, ?_⟩;refine ⟨rfl, ?_⟩;have hj2:j < (enc (S.getD i default)).length:=by rw [hk];exact hj
    rw [b5c,b5b hj2,b6g];exact h1 _ _ (b5l hj2)
  · have hne:b' ≠ b:=fun he=>by
     have:=hM.sep id _ b hl1 hblk;rw [<- he,hb'] at this;cases this
    have hw:=hM.imm b' ob hb';rw [zr (b5e.1 hw).1 hne];exact hw
  have:=(n7 ho).1;subst this;exact hM.sep id0 _ b' hl1 hb'
 | [],h=>exact h.elim
 | [_],⟨_,h⟩=>exact h.elim
 | _ :: _ :: _ :: _,⟨_,_,h⟩=>exact h.elim
end
section
open Go.Proofs
def av5 {α:Type} [Inhabited α] {cl:Bool} {c:α -> Nat -> PV} {x y z:α} {f:Nat -> Nat -> PV} (h0:CoP (f 0 0) (c x 0)) (h1:CoP (f 1 0) (c y 0)) (h2:CoP (f 2 0) (c z 0)):CoP (.sl 3 1 cl f) (psl 1 c [x,y,z]) :=
 CoP.sl rfl (.inl rfl) (fun h=>by cases h) fun i j hi hj=>by
  obtain rfl:j = 0:=by omega
  match i,hi with
  | 0,_=>exact h0
  | 1,_=>exact h1
  | 2,_=>exact h2
def auo (a b:Val):orF [gu a.kind b.kind,gu a.num b.num,jq a.str b.str] = f5 a b:=by
 have e:∀ x y:Int,sgn x y = gu x y:=fun _ _=>rfl;unfold f5 orF;rw [e,e];by_cases h1:gu a.kind b.kind = 0
 · by_cases h2:gu a.num b.num = 0
   · by_cases h3:jq a.str b.str = 0
     · simp [h1,h2,h3]
     simp [h1,h2,h3]
   simp [h1,h2]
 simp [h1]
def amz (a:Int):a8 b98 153 [pI a] (ae [pB false]):=by
 refine hpx (nt:=6) Tryz.func153 ?_;refine ej ?_;exact hx8 rfl rfl rfl (⟨ccb b8l,trivial⟩)
def ayd (a b:Int):a8 b98 104 [pI a,pI b] (ae [pI (gu a b)]):=by
 refine hpx (nt:=20) Tryz.func104 ?_;refine w_7 ?_;refine qcx (wgx Tryz.func153) (amz _) ?_;refine w_5 ?_;refine qcx (wgx Tryz.func153) (amz _) ?_;refine aig ?_;refine hcd (fun h0=>?_) (fun h0=>?_)
 · refine v_4 ?_;exact ⟨cci b90,trivial⟩
 refine w_8 ?_;refine hcd (fun h1=>?_) (fun h1=>?_)
 · refine v_4 ?_;exact ⟨cci b90,trivial⟩
 refine v_5 ?_;exact ⟨cci b90,trivial⟩
def aut (a b:ByteArray):a8 b98 105 [pS a,pS b] (ae [pI (jq a b)]):=by
 refine hpx (nt:=8) Tryz.func105 ?_;refine w_8 ?_;refine qcx asa (ard _ _) ?_;refine v_2 ?_;exact CoL.refl _
def at1 (a b:Val):a8 b98 63 [a.pc,b.pc] (ae [pI (f5 a b)]):=by
 refine hpx (nt:=22) Tryz.func63 ?_;refine sx7 ?_;refine m9 0 ?_;refine m9 1 ?_;refine w_8 ?_;refine qcx (wgx Tryz.func103) (aqv _ _) ?_;refine w_4 ?_;refine qcx (wgx Tryz.func104) (ayd _ _) ?_;refine w_4 ?_;refine qcx (wgx Tryz.func105) (aut _ _) ?_;refine m9 2 ?_;refine rc rfl rfl rfl rfl rfl rfl (wgx Tryz.func102) (cOr [gu a.kind b.kind,gu a.num b.num,jq a.str b.str]) (⟨CoC.one (av5 (CoP.refl _) (CoP.refl _) (CoP.refl _)),trivial⟩) rfl rfl ?_;refine v_3 ?_;exact ⟨cci (auo a b),trivial⟩
def b11 (n:Int):a8 b98 58 [pI n] (ae [(⟨1,n,emp⟩:Val).pc]):=by
 refine hpx (nt:=5) Tryz.func58 ?_;refine sx7 ?_;refine m9 0 ?_;refine v_7 ?_;exact CoL.refl _
def b93 {p:Prop} (h:p:=by (repeat' apply And.intro) <;> first | trivial | exact b5d rfl):p:=h
def b96 {p:Prop} (h:p:=by first | rfl | (dsimp only;omega)):p:=h
def az7 (l:List Val):cq b98 64 [.one (.ref 900 l.length)] [(900, .arr true 3 114 l.length (lf Val.c l))] (.v (.one (.p (vals (jx l))))) [] []:=by
 refine hfx (nt:=61) Tryz.func64 ?_;refine cu ?_;refine ar8 900 rfl fun hlen=>?_;refine df ?_;refine hcd (fun h0=>?_) (fun h0=>?_)
 · refine w_5 ?_;refine bm 2 rfl rfl rfl ?_;refine hrr ?_;exact ⟨_,_,rfl,b93,agi (k:=l.length) (b5g _) (fun j h1 h2=>by omega),trivial⟩
 refine w_7 ?_;refine af (ι:=Nat) (ka 0 kn) (kb 900 km) (fun k=>⟨[(3,some (vI k))],[]⟩) (fun k=>1 <= k /\ k <= l.length /\ ∀ j,0 < j -> j < k -> ¬ l.getD j default = l.getD (j - 1) default) (fun k=>l.length - k) (1) (⟨b5g _,by omega,fun j h1 h2=>by omega⟩) kk ?_;rintro k ⟨hk1,hk,hI⟩;refine w_8 ?_;refine hcd (fun h1=>?_) (fun h1=>?_)
 ·
  refine v7 ?_;refine ag _ rfl (fun r2=>?_) (fun r2=>?_)
  ·
   have h2:=r2;have hq:=eqJ (l:=l) (a:=k) (b:=k - 1) (by simpa [and_assoc] using r2) rfl b8i;refine m7 ?_;refine af (ι:=Nat × Nat × List Val) (ka 0 (ka 4 kn)) km (fun x=>⟨[(3,some (vI x.1)),(5,some (vI ((x.2.1:Int) - k)))],[(900,some (.arr true 3 114 l.length (lf Val.c x.2.2)))]⟩) (fun x=>CpJ l k x.1 x.2.1 x.2.2) (fun x=>l.length - x.2.1) ((k,k + 1,l)) (CpJ.start hk1 b8i hI hq) ⟨⟨zy,⟨_,rfl,(coi b96)⟩,trivial⟩,uu⟩ ?_;rintro ⟨p,q,m⟩ hC;have hC0:=hC;obtain ⟨hml,hkq,hpq,hql,_,_⟩:=hC0;dsimp only at hC hml hkq hpq hql;refine w_8 ?_;refine hcd (fun h3=>?_) (fun h3=>?_)
   ·
    simp only [gp,bo,b5t] at h3;refine v7 ?_;refine ag _ rfl (fun r4=>?_) (fun r4=>?_)
    ·
     have h4:=r4;have hq2:=b0x (l:=m) (a:=q) (b:=q - 1) (by simpa [and_assoc] using r4) (by simp only [bo];omega) (by simp only [bo];omega);refine an7 ?_
     first | (refine lpz (p + 1, q + 1, m.set p (m.getD q default)) ⟨⟨⟨_, rfl, (coi (by first | rfl | (dsimp only; omega)))⟩, ⟨_, rfl, (coi (by first | rfl | (dsimp only; omega)))⟩, tt⟩, ⟨⟨_, rfl, (adk id hml.symm b8i (by dsimp only; omega) (by simp only [bo]; omega))⟩, trivial⟩⟩ ?_; exact hC.keep b8i hq2)
           | (refine lpz (p,q + 1,m) ⟨⟨⟨_,rfl,(coi b96)⟩,⟨_,rfl,(coi b96)⟩,tt⟩,uu⟩ ?_;exact hC.skip b8i hq2)
    have h4:=r4;have hq2:=eqJ (l:=m) (a:=q) (b:=q - 1) (by simpa [and_assoc] using r4) (by simp only [bo];omega) (by simp only [bo];omega);refine w_6 ?_
    first | (refine lpz (p + 1, q + 1, m.set p (m.getD q default)) ⟨⟨⟨_, rfl, (coi (by first | rfl | (dsimp only; omega)))⟩, ⟨_, rfl, (coi (by first | rfl | (dsimp only; omega)))⟩, tt⟩, ⟨⟨_, rfl, (adk id hml.symm b8i (by dsimp only; omega) (by simp only [bo]; omega))⟩, trivial⟩⟩ ?_; exact hC.keep b8i hq2)
          | (refine lpz (p,q + 1,m) ⟨⟨⟨_,rfl,(coi b96)⟩,⟨_,rfl,(coi b96)⟩,tt⟩,uu⟩ ?_;exact hC.skip b8i hq2)
   simp only [gp,bo,b5t] at h3;refine w_6 ?_;refine r9 0 true ?_;refine w_5 ?_;refine anr rfl rfl rfl rfl rfl ?_;refine w_2 ?_;refine hrr ?_;exact ⟨_,_,rfl,b93,atc hC b8i (by simp [bo]),trivial⟩
  have h2:=r2;have hq:=neJ (l:=l) (a:=k) (b:=k - 1) (by simpa [and_assoc] using r2) rfl b8i;refine w_6 ?_;refine lpz (k + 1) kk ?_;refine ⟨by omega,by show k + 1 <= _;omega,fun j h1 h2=>?_⟩
  rcases b7s (b8d h2) with h | h
  · exact hI j h1 h
  subst h;exact hq
 refine w_6 ?_;refine bm 2 rfl rfl rfl ?_;refine hrr ?_;exact ⟨_,_,rfl,b93,agi (k:=k) b8i hI,trivial⟩
abbrev wo (v:Val):List Value:=[.int .i64 v.kind, .int .i64 v.num, .string v.str]
def az6 (v:Val):∀ j,j < 3 -> (PV.raw ((wo v).getD j (.bool false))) = v.c j:=a0n rfl rfl rfl
def aoo (g:Nat) (caps:Nat -> PV) (hg:∀ args w,(callFunc g args).run b98 w = .ok (.enter g args) w) (hc:∀ x y:Val,a8 b98 g [x.pc,y.pc] (ae [pI (f5 x y)])) (id:Nat) (l:List Val) (hsz:l.length <= 8589934592) :
 cq b98 62 [.one (.ref id l.length), .one (.p (.fn g 0 caps))] [(id, .arr true 3 114 l.length (lf (fun v j=>.raw ((wo v).getD j (.bool false))) l))] (.tup []) [(id, .arr true 3 114 l.length (lf (fun v j=>.raw ((wo v).getD j (.bool false))) (a4k f5 l)))] [id] :=
 aie Tryz.laysSortV 3 b8n Tryz.isAgg114 Tryz.sizeOf114 wo (fun _=>rfl) (fun x v hv=>by
  rcases b5k.1 hv with rfl | hv
  · rfl
  rcases b5k.1 hv with rfl | hv
  · rfl
  rcases b5k.1 hv with rfl | hv
  · rfl
  cases hv) f5 l7.swo l7.eq g caps hg (fun x y=>hc x y) id 114 l hsz
def arj {wr wr':Bool} {n:Nat} {e:TypeId} {l:List Val} (hw:wr' = true -> wr = true):CoO (.arr wr 3 e n (lf (fun v j=>.raw ((wo v).getD j (.bool false))) l)) (.arr wr' 3 e n (lf Val.c l)) :=
 ⟨hw,rfl,rfl,rfl,fun i j hi hj=>CoP.of_eq (az6 _ j hj)⟩
def co_encV' {wr wr':Bool} {n:Nat} {e:TypeId} {l:List Val} (hw:wr' = true -> wr = true):CoO (.arr wr 3 e n (lf Val.c l)) (.arr wr' 3 e n (lf (fun v j=>.raw ((wo v).getD j (.bool false))) l)) :=
 ⟨hw,rfl,rfl,rfl,fun i j hi hj=>CoP.of_eq (az6 _ j hj).symm⟩
def ayt (id:Nat) (l:List Val) (hsz:l.length <= 8589934592) (caps:Nat -> PV) :
 cq b98 62 [.one (.ref id l.length), .one (.p (.fn 63 0 caps))] [(id, .arr true 3 114 l.length (lf (fun v j=>.raw ((wo v).getD j (.bool false))) l))] (.tup []) [(id, .arr true 3 114 l.length (lf (fun v j=>.raw ((wo v).getD j (.bool false))) (a4k f5 l)))] [id] :=
 aoo 63 caps (enters_of Tryz.func63 (by kernel_rfl) rfl) at1 id l hsz
end
section
abbrev a6i:PV:=.sl 0 3 true (lf Val.c [])
def uw (R:List Row) (a:Nat):Nat -> Nat -> PV:=fun i _=>if i < a then vals (x2 R i) else a6i
section
variable {R:List Row} {a:Nat}
def ari {j:Nat}:uw R a a j = a6i:=if_neg (Nat.lt_irrefl a)
def alk {j:Nat}:CoP (vals (x2 R a)) (uw R (a + 1) a j):=CoP.of_eq (if_pos (Nat.lt_succ_self a)).symm
variable {n:Nat}
def asb:∀ i,i < n -> i ≠ a -> CoP (uw R a i 0) (uw R (a + 1) i 0):=fun i _ h=>by
 refine CoP.of_eq ?_;unfold uw;by_cases h1:i < a
 · rw [if_pos h1,if_pos b8i]
 rw [if_neg h1,if_neg b8i]
variable {e:TypeId} {f:Nat -> Nat -> PV}
def al3 {n':Nat} (hn:n' = n) (hf:∀ i,CoP (f i 0) a6i):CoO (.arr true 1 e n f) (.arr true 1 e n' (uw R 0)):=by
 subst hn;refine ⟨fun h=>h,rfl,rfl,rfl,fun i j hi hj=>?_⟩;obtain rfl:j = 0:=by omega
 have:uw R 0 i 0 = a6i:=if_neg b8i;rw [this];exact hf i
variable {cl:Bool}
def aqc:CoP (.sl n 1 cl (uw R n)) (rj (be R n)):=by
 refine CoP.sl vt (.inl rfl) (fun h=>by cases h) fun i j hi hj=>CoP.of_eq ?_;show uw R n i j = vals ((be R n).getD i default);rw [ol hi];exact if_pos hi
def am7 {s:Nat}:CoP (.sl 0 s true f) a6i:=CoP.sl rfl (.inr rfl) (fun h=>h) fun i j hi _=>absurd hi (b5i i)
def yk:(nu R a).length = R.length:=b64 _
variable {g:Nat -> Nat -> PV}
def ajx {i:Nat} (hi:i < R.length) (h:∀ j,j < 3 -> CoP (g 0 j) (((R.getD i default).vals.getD a default).c j)):
 CoO (.arr true 3 e (i + 1) (d8 i (lf Val.c (nu R a)) g)) (.arr true 3 e (i + 1) (lf Val.c (nu R a))) :=
 fj (fun h=>h) fun j hj=>by
  show CoP _ (((nu R a).getD i default).c j)
  have:(nu R a).getD i default = (R.getD i default).vals.getD a default:=by
   unfold nu;simp [List.getD,hi]
  rw [this];exact h j hj
variable {l:List Val}
def asc {wr wr':Bool} (hw:wr' = true -> wr = true) (hn:n = l.length):CoO (.arr wr 3 e n (lf Val.c l)) (.arr wr' 3 e l.length (lf (fun v j=>.raw ((wo v).getD j (.bool false))) l)):=by subst hn;exact co_encV' hw
def co_encL' {wr wr':Bool} (hw:wr' = true -> wr = true) (hn:n = l.length):CoO (.arr wr 3 e n (lf (fun v j=>.raw ((wo v).getD j (.bool false))) l)) (.arr wr' 3 e l.length (lf Val.c l)):=by subst hn;exact arj hw
variable {s:AS}
def aqa {n':Nat} (hn:n' = n) (hf:∀ i,CoP (f i 0) (.raw (.map none))):CoO (.arr true 1 e n f) (.arr true 1 e n' (lvT R s 0)):=by
 subst hn;refine ⟨fun h=>h,rfl,rfl,rfl,fun i j hi hj=>?_⟩;obtain rfl:j = 0:=by omega
 have:lvT R s 0 i 0 = .raw (.map none):=if_neg b8i;rw [this];exact hf i
def atp {k:Nat} {f:MK -> Option PV} (hf:∀ m,f m = none):CoO (.mp .str 0 f) (.mp .str 0 (t8 (R.take 0) s k)):=by
 refine ⟨rfl,b5g _,fun m=>?_⟩;rw [hf m]
 cases m with
 | i q n=>exact CoM.refl _
 | s b=>exact CoM.refl _
def asr {k i:Nat} (hi:i < R.length) {e:ByteArray} (he:e = fp ((R.getD i default).vals.take k) s):
 CoO (.mp .str (i + 1) (ue (t8 (R.take i) s k) (.s e) (.raw (.bool true)))) (.mp .str (i + 1) (t8 (R.take (i + 1)) s k)):=by
 subst he;refine ⟨rfl,b5g _,fun m=>CoM.of_eq ?_⟩
 cases m with
 | i q n=>rfl
 | s b =>
  show (bif decide (b = fp ((R.getD i default).vals.take k) s) then some (PV.raw (.bool true)) else (if ky (R.take i) s k b = true then some (.raw (.bool true)) else none)) = if ky (R.take (i + 1)) s k b = true then some (.raw (.bool true)) else none
  rw [ai1 hi];by_cases hb:b = fp ((R.getD i default).vals.take k) s
  · subst hb
    simp
  have h1:decide (b = fp ((R.getD i default).vals.take k) s) = false:=decide_eq_false hb;have h2:decide (fp ((R.getD i default).vals.take k) s = b) = false:=decide_eq_false fun e=>hb e.symm;rw [h1,h2,Bool.or_false];rfl
def b0b {k M:Nat}:∀ i j,i < n -> j < 1 -> (∃ k',fu k (.ref M 0) (lvT R s k) i j = .ref M k' /\ k' = 0 /\ CoP (mpP .str R.length (t8 (R.take R.length) s k)) (lvT R s (k + 1) i j)) \/ CoH (fu k (.ref M 0) (lvT R s k) i j) (.p (lvT R s (k + 1) i j)):=fun i j hi hj=>by
 by_cases h:i = k
 · subst h
   refine .inl ⟨0,if_pos rfl,rfl, ?_⟩;rw [b67];exact CoP.of_eq (if_pos (Nat.lt_succ_self i)).symm
 refine .inr ?_;unfold fu;rw [if_neg h];refine CoP.of_eq ?_;unfold lvT;by_cases h1:i < k
 · rw [if_pos h1,if_pos b8i]
 rw [if_neg h1,if_neg b8i]
def avd:CoP (.sl (n + 1) 1 cl (lvT R s (n + 1))) (.sl (n + 1) 1 false (lvF R s)) :=
 CoP.sl rfl (.inl rfl) (fun h=>by cases h) fun i j hi hj=>CoP.of_eq (if_pos hi)
variable {ps:List AS}
def an3 {i:Nat} (hg:g 0 0 = .sl (n + 1) 1 cl (lvT R (ps.getD i default) (n + 1))):
 CoO (.arr true 1 e (i + 1) (d8 i (lf (lvC R n) ps) g)) (.arr true 1 e (i + 1) (lf (lvC R n) ps)) :=
 fj (fun h=>h) fun j hj=>by
  obtain rfl:j = 0:=by omega
  rw [hg];exact avd
def apa {k:Nat} (hk:k <= l.length):CoP (.sl (gp (bo n (some (k:Int))) none) 3 cl (pn (lf Val.c l) none)) (vals (l.take k)):=a1v hk
def te {l:List (List Val)}:(f7 l).length = l.length:=by simp [f7]
def aft {l:List (List Val)} {i:Nat} (hi:i < l.length) (h0:CoP (g 0 0) (.raw (.int .i64 ((i:Int) + 1)))) (h1:CoP (g 0 1) (vals (l.getD i default))):
 CoO (.arr true 2 e (i + 1) (d8 i (lf Row.c (f7 l)) g)) (.arr true 2 e (i + 1) (lf Row.c (f7 l))) :=
 fj (fun h=>h) fun j hj=>by
  show CoP _ (Row.c ((f7 l).getD i default) j)
  have:(f7 l).getD i default = ⟨(i:Int) + 1,l.getD i []⟩:=by
   unfold f7;simp [List.getD,hi]
  rw [this]
  rcases (by omega:j = 0 \/ j = 1) with rfl | rfl
  · exact h0
  exact h1
variable {t:Tbl}
def av0 (h:¬ cb t = 0):jo t ps = cb t:=if_pos h
def ash (h1:cb t = 0) (h:¬ lvE t.attrs.length ps = 0):jo t ps = lvE t.attrs.length ps:=by unfold jo;rw [if_neg (by simp [h1]),if_pos h]
def arq (h1:cb t = 0) (h2:lvE t.attrs.length ps = 0) (h:(1000:Int) < ((ir t.rows ps t.attrs.length).length:Int)):jo t ps = 3:=by
 unfold jo;rw [if_neg (by simp [h1]),if_neg (by simp [h2]),if_pos b8i]
def a7n (h1:cb t = 0) (h2:lvE t.attrs.length ps = 0) (h:¬ (1000:Int) < ((ir t.rows ps t.attrs.length).length:Int)):jo t ps = 0:=by
 unfold jo;rw [if_neg (by simp [h1]),if_neg (by simp [h2]),if_neg b8i]
def a7o {e:Int} (h:jo t ps = e) (he:e ≠ 0):jp t ps = T0:=if_neg (by rw [h];exact he)
def a8k (h:jo t ps = 0):jp t ps = ⟨t.name,t.attrs,f7 (ir t.rows ps t.attrs.length)⟩:=if_pos h
def au2 {n:Int} (h:lvE n ps = 0):0 < ps.length:=by
 cases ps with
 | nil =>
  exfalso;unfold lvE at h
  repeat' split at h
  all_goals first | omega | (simp at * <;> omega)
 | cons x l=>simp
def arh {n:Int} (h:lvE n ps = 0):ps.length <= 64:=by
 unfold lvE at h
 repeat' split at h
 all_goals omega
def aal {n:Int} (h:lvE n ps = 0):0 <= n /\ n <= 8:=by
 unfold lvE at h
 repeat' split at h
 all_goals omega
end
end
section
abbrev RSt:=Bool × Int × Int × Int
abbrev RSt.c (s:RSt):Nat -> PV:=fun j=>[.raw (.bool s.1), .raw (.int .i64 s.2.1), .raw (.int .i64 s.2.2.1), .raw (.int .i64 s.2.2.2)].getD j .any
abbrev RSt.pc (s:RSt):PC:=.agg [.raw (.bool s.1), .raw (.int .i64 s.2.1), .raw (.int .i64 s.2.2.1), .raw (.int .i64 s.2.2.2)]
abbrev an1 (l:List RSt):PV:=psl 4 RSt.c l
def St.r (s:St):RSt:=(s.1,(s.2.1:Int),(s.2.2.1:Int),(s.2.2.2:Int))
def au5 {l:List St}:CoP (stl l) (an1 (l.map St.r)):=by
 refine CoP.sl (b64 _) (.inl rfl) (fun h=>h) fun i j hi hj=>CoP.of_eq ?_;show St.c (l.getD i default) j = RSt.c ((l.map St.r).getD i default) j;have:(l.map St.r).getD i default = St.r (l.getD i default):=by simp [List.getD,hi]
 rw [this];rfl
abbrev zc (a:Int) (l:List Rw) (p m:List Fd) (s:RSt):Int × List Rw × Int:=da a l p m s.1 s.2.1 s.2.2.1 s.2.2.2
def z1 (n:Int) (p m:List Fd):Int -> List Rw -> List RSt -> Bool
 | _,l,[]=>ig n l
 | a,l,s :: r=>if (zc a l p m s).2.2 = 0 then z1 n p m (zc a l p m s).1 (zc a l p m s).2.1 r else false
def wt (n:Int) (ps:List AS) (p m:List Fd) (sts:List RSt):Bool:=decide (lvE n ps = 0) && (decide (bw n p m = 0) && z1 n p m n (ai (ak n ps)) sts)
structure zt (n:Int) (ps:List AS) (p m:List Fd) (sts:List RSt) (x:Nat × Int × List Rw × Int):Prop where
 le:x.1 <= sts.length
 ok:x.2.2.2 = 0 -> z1 n p m n (ai (ak n ps)) sts = z1 n p m x.2.1 x.2.2.1 (sts.drop x.1)
 no:¬ x.2.2.2 = 0 -> z1 n p m n (ai (ak n ps)) sts = false
section
variable {n:Int} {ps:List AS} {p m:List Fd} {sts:List RSt}
def zt.start:zt n ps p m sts (0,n,ai (ak n ps),0):=⟨b5h _,fun _=>rfl,fun h=>absurd rfl h⟩
section
variable {x:Nat × Int × List Rw × Int}
def zt.step (h:zt n ps p m sts x) (hi:x.1 < sts.length) (h0:x.2.2.2 = 0):zt n ps p m sts (x.1 + 1,(zc x.2.1 x.2.2.1 p m (sts.getD x.1 default)).1,(zc x.2.1 x.2.2.1 p m (sts.getD x.1 default)).2.1,(zc x.2.1 x.2.2.1 p m (sts.getD x.1 default)).2.2):=by
 have e:sts.drop x.1 = sts.getD x.1 default :: sts.drop (x.1 + 1):=by
  rw [b7e hi,b5c,b5b hi];rfl
 have h1:=h.ok h0;rw [e,z1] at h1;refine ⟨hi,fun h2=>?_,fun h2=>?_⟩
 · rw [h1,if_pos h2]
 rw [h1,if_neg h2]
def zt.fin (h:zt n ps p m sts x) (hi:¬ x.1 < sts.length) (h0:x.2.2.2 = 0):z1 n p m n (ai (ak n ps)) sts = ig n x.2.2.1:=by
 rw [h.ok h0,List.drop_of_length_le b8i,z1]
def akm (h:¬ lvE n ps = 0):wt n ps p m sts = false:=by unfold wt;rw [decide_eq_false h];rfl
def amx (h:¬ bw n p m = 0):wt n ps p m sts = false:=by unfold wt;rw [decide_eq_false h];simp
def abk (h:lvE n ps = 0) (h2:bw n p m = 0):wt n ps p m sts = z1 n p m n (ai (ak n ps)) sts:=by unfold wt;rw [decide_eq_true h,decide_eq_true h2];rfl
def a6t (h:lsC n ps p m = 0):lvE n ps = 0 /\ bw n p m = 0 /\ (lsT n ps p m).2.2 = 0 /\ lcR n ps p m = ((n,ai (ak n ps)),(lsT n ps p m).1,(lsT n ps p m).2.1,(lsT n ps p m).2.2):=by
 obtain ⟨h1,h2⟩:=a0x h;exact ⟨h1,h2,(ab0 h1 h2).symm.trans h,ai3 h1 h2⟩
def ax5 (h:¬ lsC n ps p m = 0):prS n ps p m = [] /\ prC n ps p m = lsC n ps p m:=by
 have h':¬ (rcR n ps p m).2.2 = 0:=by rw [ug];exact h
 exact ⟨if_neg h',by unfold prC;rw [if_neg h',ug]⟩
def ayw (h:lsC n ps p m = 0) {i:Nat} (hi:i <= (lsT n ps p m).1.length) (hI:∀ j,j < i -> ig n ((trL n p m (ai (ak n ps)) (lsT n ps p m).1).getD j default) = false)
 (hf:ig n ((trL n p m (ai (ak n ps)) (lsT n ps p m).1).getD i default) = true):prS n ps p m = (lsT n ps p m).1.take i /\ prC n ps p m = 0:=by
 have e:=aav (n:=n) (ps:=ps) (p:=p) (m:=m) h
 have hx:prX n ps p m = (i:Int):=by
  unfold prX;rw [e];refine a2b (p:=fun a:Int × List Rw=>ig n a.2) (i:=i) (by rw [u7];omega) (fun j hj=>?_) ?_
  · show ig n _ = false
    rw [y7 b8i];exact hI j hj
  show ig n _ = true;rw [y7 hi];exact hf
 constructor
 · unfold prS
   rw [hx,e,if_pos rfl,if_neg b8i];rfl
 unfold prC;rw [hx,e,if_pos rfl,if_neg b8i]
def au8 (h:lsC n ps p m = 0) (hI:∀ j,j < (lsT n ps p m).1.length + 1 -> ig n ((trL n p m (ai (ak n ps)) (lsT n ps p m).1).getD j default) = false):prS n ps p m = [] /\ prC n ps p m = 11:=by
 have e:=aav (n:=n) (ps:=ps) (p:=p) (m:=m) h
 have hx:prX n ps p m < 0:=by
  unfold prX;rw [e]
  have:idx (fun a:Int × List Rw=>ig n a.2) (j4 n p m (ai (ak n ps)) (lsT n ps p m).1) = -1:=a2f fun j hj=>by
   rw [u7] at hj;rw [y7 b8i];exact hI j hj
  show idx _ (j4 n p m (ai (ak n ps)) (lsT n ps p m).1) < 0;omega
 constructor
 · unfold prS
   rw [e,if_pos rfl];exact if_pos hx
 unfold prC;rw [e,if_pos rfl];exact if_pos hx
end
end
def dl (r:Rw):List Val:=r.map fun z=>⟨1,z,emp⟩
def l5 (l:List Rw):List Row:=(List.range l.length).map fun (i:Nat)=>⟨(i:Int) + 1,dl (l.getD i default)⟩
def lb (n:Int) (ps:List AS) (p m:List Fd):Int:=if lsC n ps p m ≠ 0 then lsC n ps p m else if ig n (lsT n ps p m).2.1.2 = true then 10 else 0
def fz (n:Int) (ps:List AS) (p m:List Fd):Tbl:=if lb n ps p m = 0 then ⟨⟨#[116]⟩,ff.take n.toNat,l5 (lsT n ps p m).2.1.2⟩ else T0
section
variable {n:Int} {ps:List AS} {p m:List Fd}
def amd (h:¬ lsC n ps p m = 0):lb n ps p m = lsC n ps p m /\ fz n ps p m = T0:=by
 have e:lb n ps p m = lsC n ps p m:=if_pos h;exact ⟨e,if_neg (by rw [e];exact h)⟩
def ajv (h:lsC n ps p m = 0) (hf:ig n (lsT n ps p m).2.1.2 = true):lb n ps p m = 10 /\ fz n ps p m = T0:=by
 have e:lb n ps p m = 10:=by unfold lb;rw [if_neg (by simp [h]),if_pos hf]
 exact ⟨e,if_neg (by rw [e];decide)⟩
def abr (h:lsC n ps p m = 0) (hf:ig n (lsT n ps p m).2.1.2 = false):lb n ps p m = 0 /\ fz n ps p m = ⟨⟨#[116]⟩,ff.take n.toNat,l5 (lsT n ps p m).2.1.2⟩:=by
 have e:lb n ps p m = 0:=by unfold lb;rw [if_neg (by simp [h]),if_neg (by simp [hf])]
 exact ⟨e,if_pos e⟩
end
def alx {a:Nat} (h:a < 8):Utf8.encode (97 + (a:Int)) = ff.getD a default:=by
 have:∀ a,a < 8 -> Utf8.encode (97 + ((a:Nat):Int)) = ff.getD a default:=by decide
 exact this a h
def a58 {r:Rw} {k:Nat} (hk:k < r.length):(dl r).getD k default = ⟨1,r.getD k default,emp⟩:=by unfold dl;simp [List.getD,hk]
def jl {r:Rw}:(dl r).length = r.length:=b64 _
def qn {l:List Rw}:(l5 l).length = l.length:=by simp [l5]
def qz {l:List Rw} {i:Nat} (hi:i < l.length):(l5 l).getD i default = ⟨(i:Int) + 1,dl (l.getD i default)⟩:=by unfold l5;simp [List.getD,hi]
def b54 (n:Int) (a b:AS) (l:List Fd):Bool:=decide (db n l = 0) && (decide (a ||| b = b6 n) && (decide (sub a (clo l (a &&& b))) || decide (sub b (clo l (a &&& b)))))
end
section
open Go.Proofs Go.Proofs.YteklilhbjjofbaaGreatDoor
open Go.RowKit Go.ChangeShapes Go.WideShapes Go.ChangeAt
def b2a:RdB b98 90 2 Dp.c fun _ _=>True:=by
 intro H enc w sp held fuel cs x h;obtain ⟨hl,n,hf⟩:=anz Tryz.underlying90 h;obtain ⟨y0,e0⟩:=hf 0 b8i;obtain ⟨y1,e1⟩:=hf 1 b8i;have hc:b98.cellsOf 5 = 1:=by kernel_rfl
 obtain ⟨a0,_,h0⟩:=oz (off:=0) (fun _ _ _ _ _=>trivial) rd5.toB (by simpa using e0);obtain ⟨a1,_,h1⟩:=oz (off:=1) (fun _ _ _ _ _=>trivial) rd5.toB (by simpa [hc] using e1);refine ⟨hl.trans (by kernel_rfl),(⟨a0,a1⟩:Dp),trivial,fun j hj=>?_⟩
 match j,hj with
 | 0,_=>exact h0 0 b8i
 | 1,_=>exact h1 0 b8i
def avn:RdB b98 30 1 (apy 2 Dp.c) fun b l=>l.length <= b :=
 (a9g (B:=fun _ _=>True) (fun _ _ _ _ _=>trivial) Tryz.underlying30 (by kernel_rfl) b8i b2a).co id (fun b a h=>h.1) fun a j hj=>CoP.refl _
abbrev Rcp.c (d:Rcp):Nat -> PV:=fun j=>[.raw (.int .u8 (d.n.toNat:Int)),dpl d.f,dpl d.m,psl 1 u8C d.p].getD j .any
def b1c:RdB b98 33 4 Rcp.c fun b d=>d.f.length <= b /\ d.m.length <= b /\ d.p.length <= b:=by
 intro H enc w sp held fuel cs x h;obtain ⟨hl,n,hf⟩:=ajc Tryz.underlying33 h;obtain ⟨y0,e0⟩:=hf 0 _ rfl;obtain ⟨y1,e1⟩:=hf 1 _ rfl;obtain ⟨y2,e2⟩:=hf 2 _ rfl;obtain ⟨y3,e3⟩:=hf 3 _ rfl;obtain ⟨a0,_,h0⟩:=oz (fun _ _ _ _ _=>trivial) rd5.toB e0;obtain ⟨a1,b1,h1⟩:=oz (B:=fun b (l:List Dp)=>l.length <= b) (fun _ _ _ h k=>b6i k h) avn e1;obtain ⟨a2,b2,h2⟩:=oz (B:=fun b (l:List Dp)=>l.length <= b) (fun _ _ _ h k=>b6i k h) avn e2;obtain ⟨a3,b3,h3⟩:=oz (B:=fun b (l:List (BitVec 8))=>l.length <= b) (fun _ _ _ h k=>b6i k h) b2g e3;refine ⟨hl.trans (by kernel_rfl),(⟨a0,a1,a2,a3⟩:Rcp),⟨b1,b2,b3⟩,fun j hj=>?_⟩
 match j,hj with
 | 0,_=>exact h0 0 b8i
 | 1,_=>exact h1 0 b8i
 | 2,_=>exact h2 0 b8i
 | 3,_=>exact h3 0 b8i
abbrev C3:=BitVec 8 × BitVec 8 × BitVec 8
abbrev C3.c (x:C3):Nat -> PV:=fun j=>[.raw (.int .u8 (x.1.toNat:Int)), .raw (.int .u8 (x.2.1.toNat:Int)), .raw (.int .u8 (x.2.2.toNat:Int))].getD j .any
def b0s:b98.readableRec 33 = true /\ 33 < b98.types.size:=⟨by kernel_rfl,of_decide_eq_true (by kernel_rfl)⟩
end
section
section
variable {α:Type} [DecidableEq α] {c:α -> α -> Int}
def a3x (h:Tot c):∀ (l:List α) (p:Option α),l.Pairwise (fun a b=>¬ c b a < 0) -> (∀ x,p = some x -> ∀ y ∈ l,¬ c y x < 0) -> Asc c (jf p l) /\ ∀ x,p = some x -> ∀ y ∈ jf p l,c x y < 0
 | [],p,_,_=>⟨List.Pairwise.nil,fun _ _ y hy=>by cases hy⟩
 | y :: l,p,hl,hp=>by
  have hl':=b6a.1 hl;simp only [jf];split
  · rename_i he
    exact a3x h l p hl'.2 fun x hx z hz=>hp x hx z (by simp [hz])
  rename_i he
  obtain ⟨h1,h2⟩:=a3x h l (some y) hl'.2 fun x hx z hz=>by
   simp only [b5a] at hx;subst hx;exact hl'.1 z hz
  refine ⟨b6a.2 ⟨fun z hz=>h2 y rfl z hz,h1⟩,fun x hx z hz=>?_⟩
  have hxy:c x y < 0:=by
   have h3:=hp x hx y b8l;have h4:=h.anti x y;have h5:c x y ≠ 0:=fun e=>he (by rw [hx,(h.zero x y).1 e]);omega
  rcases b5k.1 hz with rfl | hz
  · exact hxy
  exact h.tr _ _ _ hxy (h2 y rfl z hz)
def anj (h:Tot c) {l:List α} (hl:l.Pairwise fun a b=>¬ c b a < 0):Asc c (jx l):=(a3x h l none hl fun x hx=>by cases hx).1
def yn (c:α -> α -> Int) (x:α):List α -> List α
 | []=>[x]
 | y :: l=>if c x y < 0 then x :: y :: l else if c x y = 0 then y :: l else y :: yn c x l
def a49 (h:Tot c) {x z:α}:∀ {l:List α},z ∈ yn c x l <-> z = x \/ z ∈ l
 | []=>by simp [yn]
 | y :: l=>by
  unfold yn;split
  · simp
  split
  · rename_i e
    have e:=(h.zero x y).1 e;subst e;simp
  rw [b5k,a49 h (l:=l),b5k];constructor
  · rintro (e | e | e)
    · exact .inr (.inl e)
    · exact .inl e
    exact .inr (.inr e)
  rintro (e | e | e)
  · exact .inr (.inl e)
  · exact .inl e
  exact .inr (.inr e)
def ab7 (h:Tot c) {x:α}:∀ {l:List α},Asc c l -> Asc c (yn c x l)
 | [],_=>by simp [yn,Asc]
 | y :: l,hl=>by
  have hl':=b6a.1 hl;unfold yn;split
  · rename_i e
    exact b6a.2 ⟨fun z hz=>by
     rcases b5k.1 hz with rfl | hz
     · exact e
     exact h.tr _ _ _ e (hl'.1 z hz),hl⟩
  split
  · exact hl
  rename_i e1 e2;refine b6a.2 ⟨fun z hz=>?_,ab7 h hl'.2⟩
  rcases (a49 h).1 hz with rfl | hz
  · have:=h.anti z y;omega
  exact hl'.1 z hz
def a3q (c:α -> α -> Int) (l:List α):List α:=l.foldr (yn c) []
def aev (h:Tot c) {z:α}:∀ {l:List α},z ∈ a3q c l <-> z ∈ l
 | []=>by simp [a3q]
 | y :: l=>by
  show z ∈ yn c y (a3q c l) <-> _;rw [a49 h,aev h (l:=l),b5k]
def adp (h:Tot c):∀ {l:List α},Asc c (a3q c l)
 | []=>List.Pairwise.nil
 | y :: l=>ab7 h (adp h (l:=l))
end
section
variable {R:List Row}
def abj {a:Nat}:Asc f5 (x2 R a):=anj l7 (l7.srt _)
def yj {a:Nat} {v:Val}:v ∈ x2 R a <-> ∃ r ∈ R,r.vals.getD a default = v:=by
 unfold x2;rw [a56,aet,nu,b5w]
def auv {a:Nat}:x2 R a = a3q f5 (nu R a):=by
 refine l7.ext abj (adp l7) fun v=>?_;unfold x2;rw [a56,aet,aev l7]
def ap3 {n:Nat}:be R n = (List.range n).map fun a=>a3q f5 (nu R a):=b76 fun a _=>auv
def aqq:lsB 3 [3,6] [⟨2,4⟩] [] = true /\ lsC 3 [3,6] [⟨2,4⟩] [] = 0:=by decide +kernel
def aqg:prS 3 [3,6] [⟨2,4⟩] [] = [(false,0,0,1)] /\ prC 3 [3,6] [⟨2,4⟩] [] = 0:=by decide +kernel
def azq:wt 3 [3,6] [⟨2,4⟩] [] [(false,0,0,1)] = true:=by decide +kernel
def awR:List Row:=[⟨1,[⟨1,0,emp⟩,⟨1,1,emp⟩,⟨1,5,emp⟩]⟩,⟨2,[⟨1,6,emp⟩,⟨1,1,emp⟩,⟨1,2,emp⟩]⟩]
def awT:Tbl:=⟨⟨#[116]⟩,ff.take 3,awR⟩
def aqz:fz 3 [3,6] [] [] = awT /\ lb 3 [3,6] [] [] = 0:=by decide +kernel
def b04:(f0 awR [3,6] ((List.range 3).map fun a=>a3q f5 (nu awR a)) 3 [] []).length = 4:=by decide +kernel
def ayo:(ir awR [3,6] 3).length = 4:=by
 unfold ir;rw [ap3];exact b04
def aqm:cb awT = 0 /\ lvE 3 [3,6] = 0:=by decide +kernel
def ar3:jo awT [3,6] = 0:=a7n aqm.1 aqm.2 (by
 show ¬ (1000:Int) < ((ir awR [3,6] 3).length:Int)
 rw [ayo];decide)
def b0f:(jp awT [3,6]).rows.length = 4:=by
 rw [a8k ar3];show (f7 (ir awR [3,6] 3)).length = 4;rw [te,ayo]
end
end
section
def a1p (l:List Row) (v:List Val):Bool:=l.any fun r=>decide (r.vals = v)
def gi (s:AS):Nat -> List Val -> List Val
 | _,[]=>[]
 | a,v :: l=>if bi s (a:Int) = true then v :: gi s (a + 1) l else gi s (a + 1) l
def sel (l:List Val) (s:AS):List Val:=gi s 0 l
section
variable {s:AS}
def a0a:∀ {l:List Val} {a:Nat} {v:Val},gi s a (l ++ [v]) = if bi s ((a + l.length:Nat):Int) = true then gi s a l ++ [v] else gi s a l
 | [],a,v=>by
  simp only [b6u,gi,b7n,b73]
 | x :: l,a,v=>by
  have ih:gi s (a + 1) (l ++ [v]) = if bi s ((a + 1 + l.length:Nat):Int) = true then gi s (a + 1) l ++ [v] else gi s (a + 1) l:=a0a
  simp only [b6x,gi,b6k];rw [ih,show a + 1 + l.length = a + (l.length + 1) by omega];split <;> split <;> simp
variable {l:List Val}
def aaw {i:Nat} (hi:i < l.length) (h:bi s (i:Int) = true):sel (l.take (i + 1)) s = sel (l.take i) s ++ [l.getD i default]:=by
 unfold sel;rw [c0 hi,a0a,b5p,b6p b8i,b5q,if_pos h]
def aao {i:Nat} (hi:i < l.length) (h:bi s (i:Int) = false):sel (l.take (i + 1)) s = sel (l.take i) s:=by
 unfold sel;rw [c0 hi,a0a,b5p,b6p b8i,b5q,if_neg (by simp [h])]
def a40:∀ {l:List Val} {a:Nat} {v:Val},v ∈ gi s a l -> v ∈ l
 | x :: l,a,v,h=>by
  unfold gi at h;split at h
  · rcases b5k.1 h with rfl | h
    · simp
    exact b65 _ (a40 h)
  exact b65 _ (a40 h)
def acx:∀ {l:List Val} {a:Nat},(gi s a l).length <= l.length
 | [],_=>b5g _
 | x :: l,a=>by
  have:(gi s (a + 1) l).length <= l.length:=acx;unfold gi;split <;> simp only [b6k] <;> omega
def as3:(sel l s).length <= l.length:=acx
def ye:n5 l <-> ∀ v ∈ l,v.ok:=by
 constructor
 · intro h v hv
   obtain ⟨i,hi,e⟩:=b5z hv;have:=h i hi;rw [ca _ _ hi,e] at this;exact this
 intro h i hi;rw [ca _ _ hi];exact h _ (b5l hi)
def amr (h:n5 l):n5 (sel l s):=ye.2 fun v hv=>ye.1 h v (a40 hv)
def o3 (a b:Row) (s:AS):Bool:=decide (sel a.vals s = sel b.vals s)
def b2s (t:Tbl) (q:AS) (r:Row) (n:Int):Bool:=t.rows.any fun x=>o3 x r (q &&& b6 n)
def aid (a b:List Row):Bool:=a.all fun r=>a1p b r.vals
def vj (a b:Tbl):Bool:=decide (a.attrs = b.attrs) && (aid a.rows b.rows && aid b.rows a.rows)
def b09 (a b:Tbl) (r s:Row) (i:Nat):Bool:=decide (a0u a.attrs (b.attrs.getD i default) < 0) || decide (f5 (r.vals.getD (a0u a.attrs (b.attrs.getD i default)).toNat default) (s.vals.getD i default) = 0)
def b1f (a b:Tbl) (r s:Row):Bool:=(List.range b.attrs.length).all (b09 a b r s)
def b38 (a b:Tbl):Bool:=b.rows.all fun s=>a.rows.any fun r=>b1f a b r s
def x3 (t:Tbl) (d:Fd) (i k:Nat):Bool:=!o3 (t.rows.getD i default) (t.rows.getD k default) d.lhs || o3 (t.rows.getD i default) (t.rows.getD k default) d.rhs
def fdB (t:Tbl) (d:Fd):Bool:=(List.range t.rows.length).all fun i=>(List.range i).all fun k=>x3 t d i k
def ajl (t:Tbl) (a b:Row) (left:AS):Bool:=t.rows.any fun x=>o3 x a left && o3 x b (b6 t.attrs.length &&& ~~~left)
def wj (t:Tbl) (d:Fd) (i k:Nat):Bool:=!o3 (t.rows.getD i default) (t.rows.getD k default) d.lhs || ajl t (t.rows.getD i default) (t.rows.getD k default) (d.lhs ||| d.rhs)
def mvB (t:Tbl) (d:Fd):Bool:=(List.range t.rows.length).all fun i=>(List.range t.rows.length).all fun k=>wj t d i k
end
end
section
open Go.Proofs
def sT:List Rw:=[[0,1,5],[0,7,2]]
def fdX:List Fd:=[⟨1,2⟩]
end
section
open Go.Proofs
def atw (l:List Row) (v:List Val) (hl:v8 l) (hv:n5 v):a8 b98 71 [pP (rows l),pP (vals v)] (ae [pB (a1p l v)]):=by
 refine hpx (nt:=19) Tryz.func71 ?_;refine w_6 ?_;refine bv 0 rfl fun hn=>?_;refine w_4 ?_;refine af (ι:=Nat) (ka 0 (ka 1 kn)) km (fun i=>⟨[(5,some (vI i))],[]⟩) (fun i=>i <= l.length /\ (∀ j,j < i -> decide ((l.getD j default).vals = v) = false)) (fun i=>l.length - i) (0) (⟨b5h _,ar⟩) kk ?_;rintro i ⟨hi,hIi⟩;refine w_8 ?_;refine hcd (fun h0=>?_) (fun h0=>?_)
 ·
  refine ej ?_;refine qcx acy (c81 (l.getD i default).vals v (hl i b8i).2 hv) ?_;refine bq ?_;refine hcb (fun h1=>?_) (fun h1=>?_)
  · refine v_4 ?_;exact ⟨ccb (a5w (p:=fun r:Row=>decide (r.vals = v)) (i:=i) b8i b8j).symm,trivial⟩
  refine w_6 ?_;refine lpz (i + 1) kk ?_;exact ⟨by show i + 1 <= _;omega,aj hIi b8j⟩
 obtain rfl:i = l.length:=by omega
 refine v_5 ?_;exact ⟨ccb (a5k (p:=fun r:Row=>decide (r.vals = v)) hIi).symm,trivial⟩
def ag7 (r:Row) (s:AS) (hl:r.vals.length <= 68719476736):a8 b98 117 [r.pc,pA s] (ae [pP (vals (sel r.vals s))]):=by
 refine hpx (nt:=26) Tryz.func117 ?_;refine sx7 ?_;refine m9 0 ?_;refine o4 ?_;refine eo 5 900 true 3 114 (lf Val.c []) b8n rfl (CoP.sl rfl (.inr rfl) (fun h=>h) (fun i j hi _=>absurd hi (b5i i))) (.inr rfl) rfl ?_;refine cj (ka 1 (ka 2 kn)) (kb 0 km) (fun i=>⟨[(5,some (.v (.one (.ref 900 (sel (r.vals.take i) s).length)))),(6,some (vI i))],[(900,some (.arr true 3 114 (sel (r.vals.take i) s).length (lf Val.c (sel (r.vals.take i) s))))]⟩) r.vals.length ⟨⟨⟨_,rfl,(CoR.refl _)⟩,tt⟩,uu⟩ ?_;rintro i hi;have hlen:(sel (r.vals.take i) s).length <= i:=b6i as3 (by rw [b5p];omega);refine w_9 ?_;refine hcd (fun h0=>?_) (fun h0=>?_)
 ·
  refine w_7 ?_;refine qcx tn (a7k s i) ?_;refine bq ?_;refine ag _ rfl (fun r1=>?_) (fun r1=>?_)
  ·
   have h1:=r1;have hh:bi s (i:Int) = true:=r1;refine w_7 ?_;refine m9 1 ?_;refine r9 2 true ?_;refine w_7 ?_
   first | (refine lpz (i + 1) ⟨⟨⟨_, rfl, (j0 (aaw b8i hh))⟩, tt⟩, ⟨⟨_, rfl, (qp (aaw b8i hh) (a0n (CoP.refl _) (CoP.refl _) (CoP.refl _)))⟩, uu⟩⟩ ?_; show i + 1 <= _; omega)
         | (refine lpz (i + 1) ⟨⟨⟨_,rfl,(a4x (aao b8i hh))⟩,tt⟩,⟨⟨_,rfl,(ik (aao b8i hh))⟩,uu⟩⟩ ?_;show i + 1 <= _;omega)
  have h1:=r1;have hh:bi s (i:Int) = false:=r1;refine w_6 ?_
  first | (refine lpz (i + 1) ⟨⟨⟨_, rfl, (j0 (aaw b8i hh))⟩, tt⟩, ⟨⟨_, rfl, (qp (aaw b8i hh) (a0n (CoP.refl _) (CoP.refl _) (CoP.refl _)))⟩, uu⟩⟩ ?_; show i + 1 <= _; omega)
        | (refine lpz (i + 1) ⟨⟨⟨_,rfl,(a4x (aao b8i hh))⟩,tt⟩,⟨⟨_,rfl,(ik (aao b8i hh))⟩,uu⟩⟩ ?_;show i + 1 <= _;omega)
 obtain rfl:i = r.vals.length:=by omega
 rw [show r.vals.take r.vals.length = r.vals from b67];refine w_2 ?_;refine bm 5 rfl rfl rfl ?_;refine v_4 ?_;exact CoL.refl _
def a0c:goodFn b98 77:=wgx Tryz.func77
def a5i (a b:Row) (s:AS) (ha:a.ok) (hb:b.ok):a8 b98 77 [a.pc,b.pc,pA s] (ae [pB (o3 a b s)]):=by
 refine hpx (nt:=14) Tryz.func77 ?_;refine sx7 ?_;refine m9 0 ?_;refine m9 1 ?_;refine w_6 ?_;refine qcx (wgx Tryz.func117) (ag7 a s ha.1) ?_;refine w_2 ?_;refine qcx (wgx Tryz.func117) (ag7 b s hb.1) ?_;refine qcx acy (c81 (sel a.vals s) (sel b.vals s) (amr ha.2) (amr hb.2)) ?_;refine v_3 ?_;exact CoL.refl _
def agl (a b:List Row) (ha:v8 a) (hb:v8 b):a8 b98 69 [pP (rows a),pP (rows b)] (ae [pB (aid a b)]):=by
 refine hpx (nt:=20) Tryz.func69 ?_;refine w_6 ?_;refine bv 0 rfl fun hn=>?_;refine w_4 ?_;refine af (ι:=Nat) (ka 0 (ka 1 kn)) km (fun i=>⟨[(5,some (vI i))],[]⟩) (fun i=>i <= a.length /\ (∀ j,j < i -> a1p b (a.getD j default).vals = true)) (fun i=>a.length - i) (0) (⟨b5h _,ar⟩) kk ?_;rintro i ⟨hi,hIi⟩;refine w_8 ?_;refine hcd (fun h0=>?_) (fun h0=>?_)
 ·
  refine ej ?_;refine qcx (wgx Tryz.func71) (atw b (a.getD i default).vals hb (ha i b8i).2) ?_;refine w_2 ?_;refine hcv (fun h1=>?_) (fun h1=>?_)
  · refine v_4 ?_;exact ⟨ccb (s4 (p:=fun r:Row=>a1p b r.vals) (i:=i) b8i b8p).symm,trivial⟩
  refine w_6 ?_;refine lpz (i + 1) kk ?_;exact ⟨by show i + 1 <= _;omega,aj hIi b8p⟩
 obtain rfl:i = a.length:=by omega
 refine v_5 ?_;exact ⟨ccb (w5 (p:=fun r:Row=>a1p b r.vals) hIi).symm,trivial⟩
def ax8 (a b:Tbl) (ha:a.ok) (hb:b.ok):a8 b98 32 [a.pc,b.pc] (ae [pB (vj a b)]):=by
 refine hpx (nt:=24) Tryz.func32 ?_;refine sx7 ?_;refine m9 0 ?_;refine m9 1 ?_;refine w_8 ?_;refine qcx (wgx Tryz.func59) (c75 a.attrs b.attrs) ?_;refine qy ?_;refine aa rfl rfl (fun r0=>?_) (fun r0=>?_)
 ·
  have h0:=r0;(iterate 4 refine qy ?_ (hg:=(gtt r0)));refine qcx (wgx Tryz.func69) (agl a.rows b.rows ha.2.2 hb.2.2) ?_ (hg:=(gtt r0));refine w_2 ?_;refine aa rfl rfl (fun r1=>?_) (fun r1=>?_)
  ·
   have h1:=bd r0 r1;(iterate 4 refine qy ?_ (hg:=(gtt r1)));refine qcx (wgx Tryz.func69) (agl b.rows a.rows hb.2.2 ha.2.2) ?_ (hg:=(gtt r1));refine w_3 ?_
   exact hx8 rfl rfl rfl (⟨ccb (by unfold vj;simp_all),trivial⟩)
  have h1:=bd r0 r1;(iterate 5 refine k9 (gft r1) ?_);refine w_3 ?_
  exact hx8 rfl rfl rfl (⟨ccb (by unfold vj;simp_all),trivial⟩)
 have h0:=r0;(iterate 5 refine k9 (gft r0) ?_);refine w_2 ?_;(iterate 5 refine k9 rfl ?_);refine w_3 ?_
 exact hx8 rfl rfl rfl (⟨ccb (by unfold vj;simp_all),trivial⟩)
end
end Go.Hx

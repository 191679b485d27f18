/- A part of the proof: SrK Jw2 Jn3 Jn5 Rb21 Jw5 Jw1. -/
import Derived.Shelf.SlSortCmp.NoneTotal
import Derived.Test.YteklilhbjjofbaaGreatDoorLb29
import Derived.Test.YteklilhbjjofbaaGreatDoorLb31
import Derived.Test.YteklilhbjjofbaaGreatDoorLb32
set_option linter.all false
set_option maxRecDepth 100000
set_option maxHeartbeats 1000000
namespace Go.Hx
section
open Go.Proofs Go.RowKit Go.Sort
def acw {α:Type} [Inhabited α] {enc:α -> List Value} {k:Nat} (hk:∀ x,(enc x).length = k) {l:List α} {i j:Nat} (hi:i < l.length) (hj:j < k) :
 (flatK enc k l.toArray).toList[i * k + j]? = some ((enc (l.getD i default)).getD j (.bool false)):=by
 have hlt:i * k + j < l.toArray.size * k:=by rw [b2z];exact s7 hi hj
 have hlt2:i * k + j < (flatK enc k l.toArray).size:=by rw [size_flatK];exact hlt
 have h:=get_flatK enc k l.toArray (i * k + j) hlt;have k0:0 < k:=by omega
 have e1:(i * k + j) / k = i:=(blk_iff k i _ k0).1 ⟨by omega,by omega⟩;have e2:(i * k + j) % k = j:=by rw [Nat.mod_eq_sub_div_mul,e1];omega
 rw [e1,e2,getElem!_pos (flatK enc k l.toArray) _ hlt2,getElem!_pos l.toArray i (by simpa using hi)] at h;rw [b3v,b30 hlt2,h];have hj2:j < (enc l.toArray[i]).length:=by rw [hk];exact hj
 rw [getElem!_pos (enc l.toArray[i]) _ hj2];simp only [List.getElem_toArray,b26,b25 hi,b36] at hj2 ⊢;rw [b25 hj2];rfl
def ah1 {P:Program} {ρ:Go.Shelf.Ren} {α:Type} [Inhabited α] (L:SlLaysF0.n6 P ρ) (k:Nat) (hk0:0 < k) (aE:∀ w,(isAgg (ρ.t 24)).run P w = .ok true w) (zE:∀ w,(Go.sizeOf (ρ.t 24)).run P w = .ok k w) (enc:α -> List Value) (hk:∀ x,(enc x).length = k) (h1:∀ x,∀ v ∈ enc x,v.oneCell' = true)
 (cf:α -> α -> Int) (hO:SWO (ltOf cf)) (hT:∀ x y,(ltOf cf) x y = false -> (ltOf cf) y x = false -> x = y)
 (g:Nat) (caps:Nat -> PV) (hg:∀ args w,(callFunc g args).run P w = .ok (.enter g args) w) (hc:∀ x y,a8 P g [.agg ((enc x).map .raw), .agg ((enc y).map .raw)] (ah [.one (.raw (.int .i64 (cf x y)))])) (id:Nat) (e:TypeId) (l:List α) (hsz:l.length <= 8589934592) :
 c4 P (ρ.f 6) [.one (.ref id l.length), .one (.p (.fn g 0 caps))] [(id, .arr true k e l.length (lf (fun x j=>.raw ((enc x).getD j (.bool false))) l))] (.tup [])
  [(id, .arr true k e l.length (lf (fun x j=>.raw ((enc x).getD j (.bool false))) (l.mergeSort fun x y=>!(ltOf cf) y x)))] [id]:=by
 intro w c us hM hus
 match us,hus with
 | [u,v],⟨hu,hv,_⟩ =>
  obtain ⟨cs,rfl,hcl,_⟩:=hv;have hcs:cs = []:=b3s hcl;subst hcs;have hl1:lk [(id,a6.arr true k e l.length (lf (fun x j=>.raw ((enc x).getD j (.bool false))) l))] id = some (.arr true k e l.length (lf (fun x j=>.raw ((enc x).getD j (.bool false))) l)):=by simp [lk]
  have hu2:=(hu.2.2 _ _ _ _ hl1 rfl).2 rfl;subst hu2;have hob:=hM.objs id _ hl1;obtain ⟨h0,hmax,h5⟩:=hob;have hlen:(l.mergeSort fun x y=>!(ltOf cf) y x).length = l.length:=b5b _
  have hev:∀ f':Nat -> Nat -> PV,Evo c (lk [(id,a6.arr true k e l.length (lf (fun x j=>.raw ((enc x).getD j (.bool false))) l))]) c (lk [(id,a6.arr true k e l.length f')]) id:=fun f' =>
   .inr (.inr ⟨_, .arr true k e l.length f',k,e,l.length,l.length,hl1,rfl,by simp [lk],rfl,b29 _,fun _=>rfl,fun _ _ _ _ _ _ _ h=>by cases h⟩)
  rcases b3h l.length with hz | hpos
  · have hl:l = []:=b3s hz
    subst hl
    have hform:∃ ad cap,c.own id = .slice ad 0 cap:=by
     rcases h5 with ⟨_,xs,h2,_⟩ | ⟨_,_,ad,cap,hv,_⟩
     · rcases h2.2 with ⟨hv,_⟩ | ⟨g,cap,cur,hv,_⟩
       · exact ⟨none,0,hv⟩
       exact ⟨_,cap,hv⟩
     exact ⟨ad,cap,hv⟩
    obtain ⟨ad,cap,hown⟩:=hform;have hms:([]:List α).mergeSort (fun x y=>!(ltOf cf) y x) = []:=by simp
    rw [hown,hms];refine (AnyF.slices_SortFunc_none { L with } ad cap (.func (.func g) #[] #[]) w).mono ?_;rintro e' w' ⟨rfl,rfl⟩
    exact ⟨_,c,rfl,⟨[],rfl,trivial⟩,hM,Below.refl _ _,fun _ _ _=>⟨rfl,rfl⟩,fun id0 ob b ho hb=>.inr ⟨id0,ob,ho,hb⟩,fun id0 hid=>by
     rw [b2q.1 hid]
     exact Evo.refl _ _ _⟩
  obtain ⟨h6,xs,h2,h4⟩:c.blk id = eu (c.own id) /\ ∃ xs,w.ownsRow 0 e k (c.own id) l.length xs /\ ∀ i j,i < l.length -> j < k -> ∃ x,xs[i * k + j]? = some x /\ aj c.imm (lf (fun x j=>.raw ((enc x).getD j (.bool false))) l i j) x:=by
   rcases h5 with h5 | ⟨h6 | h6,_⟩
   · exact h5
   · cases h6
   omega
  obtain ⟨hxl,hrow⟩:=h2
  rcases hrow with ⟨_,hz⟩ | ⟨b,cap,cur,hown,hbase,hheap,hnc,hcm,hcs,htake⟩
  · omega
  have hblk:c.blk id b:=by rw [h6,hown];rfl
  have hlt:b < w.heap.size:=(b28.1 hheap).1
  have hcell:∀ t,t < l.length * k -> cur[t]? = some (flatK enc k l.toArray)[t]!:=fun t ht=>by
   have htk:t / k < l.length:=Nat.div_lt_of_lt_mul (by rw [Nat.mul_comm];exact ht);have hmk:t % k < k:=b4u _ hk0;have hdm:t / k * k + t % k = t:=by rw [Nat.mul_comm];exact Nat.div_add_mod t k
   obtain ⟨x,hx,hr⟩:=h4 (t / k) (t % k) htk hmk;have hf:=acw (enc:=enc) hk htk hmk;rw [hdm] at hx hf;rw [<- htake,b2o,if_pos ht,b3v] at hx;rw [hx];have hr:x = (enc (l.getD (t / k) default)).getD (t % k) (.bool false) /\ _:=hr;rw [hr.1];have hft:t < (flatK enc k l.toArray).size:=by rw [size_flatK,b2z];exact ht
   rw [b3v,b30 hft] at hf;rw [getElem!_pos (flatK enc k l.toArray) _ hft];exact hf.symm
  have hH:HoldsK enc k w b 0 l.toArray:=fun j hj=>by
   have hj:j < l.length * k:=by rw [size_flatK,b2z] at hj;exact hj
   rw [b2r];refine ⟨?_,by simp [World.frozen?,hheap]⟩;simp only [World.cell?,hheap,hcell j hj];rfl
  have hcmp:CmpLays P g #[] enc k cf b 0 l.toArray.size w:=by
   intro m os dk hdk x y
   have hcimm:∀ b' ob,c.imm b' = some ob -> (sortWorldK enc k w b 0 m dk os).heap[b']? = some ob:=fun b' ob hb'=>by
    have hne:b' ≠ b:=fun he=>by
     have:=hM.sep id _ b hl1 hblk;rw [<- he,hb'] at this;cases this
    have hw:=hM.imm b' ob hb';rw [show sortWorldK enc k w b 0 m dk os = sortWorld (fun x:Value=>x) w b 0 m (flatK enc k dk) os from rfl,y4 (b28.1 hw).1 hne];exact hw
   have hrep:∀ x,gv c.imm (.agg ((enc x).map .raw)) (.agg (enc x).toArray):=fun x=>⟨enc x,rfl,by
    have:∀ l:List Value,(∀ v ∈ l,v.oneCell' = true) -> dj c.imm (l.map .raw) l:=by
     intro l
     induction l with
     | nil=>intro _;trivial
     | cons v l ih=>exact fun h=>⟨⟨rfl,h v b5f⟩,ih fun u hu=>h u (by simp [hu])⟩
    exact this _ (h1 x)⟩
   have h:=hc x y (sortWorldK enc k w b 0 m dk os) c.imm [.agg (enc x).toArray, .agg (enc y).toArray] c.tab hcimm ⟨hrep x,hrep y,trivial⟩;refine h.mono ?_;rintro e' w' ⟨v,imm',rfl,hr,_,_,hb⟩;obtain ⟨q,os',hq⟩:=ahg hb;exact ⟨by rw [hr.1],q,os',hq⟩
  have hS:=AnyQ.slices_SortFunc_total L k aE zE enc hk h1 cf hO g #[] b 0 cap l.toArray w hg hcmp hH hlt (by rw [b2z];omega) hT;rw [hown];refine Calls.mono hS ?_;rintro e' w' ⟨rfl,m,os,rfl⟩;generalize hSd:(l.mergeSort fun x y=>!(ltOf cf) y x) = S at *;rw [show sortWorldK enc k w b 0 m S.toArray os = sortWorld (fun x:Value=>x) w b 0 m (flatK enc k S.toArray) os from rfl]
  refine ⟨_,c,rfl,⟨[],rfl,trivial⟩,⟨fun id0 ob ho=>?_,fun id0 id1 ob0 ob1 b' ho0 ho1 _ _=>(ll ho0).1.trans (ll ho1).1.symm,fun b' ob hb'=>?_,fun id0 ob b' ho hb'=>?_⟩,ahs,
   fun b' hb' hno=>⟨y4 hb' (fun he=>hno _ _ hl1 (by rw [he];exact hblk)),rfl⟩,fun id0 ob b' ho hb'=>.inr ⟨_,_,hl1,by rw [<- (ll ho).1];exact hb'⟩,fun id0 hid=>by
    rw [b2q.1 hid]
    exact hev _⟩
  · obtain ⟨rfl,rfl⟩:=ll ho
    refine ⟨h0,hmax, .inl ⟨h6,(flatK enc k S.toArray).toList,⟨by rw [b2w,size_flatK,b2z,hlen], .inr ⟨b,cap,putCells (fun x=>x) 0 (flatK enc k S.toArray) cur,hown,hbase,ahr hheap,hnc,hcm,by simpa [putCells] using hcs, ?_⟩⟩,fun i j hi hj=>?_⟩⟩
    · have hle:l.length * k <= cap * k:=b2d _ hnc
      have:=ann (enc:=fun x:Value=>x) (d:=flatK enc k S.toArray) (cur:=cur) (by rw [size_flatK,b2z,hlen,hcs];exact hle);rw [size_flatK,b2z,hlen,List.map_id'] at this;exact this
    have hi':i < S.length:=by rw [hlen];exact hi
    refine ⟨_,acw hk hi' hj, ?_⟩;refine ⟨rfl, ?_⟩;have hj2:j < (enc (S.getD i default)).length:=by rw [hk];exact hj
    rw [b26,b25 hj2,b36];exact h1 _ _ (b2l hj2)
  · have hne:b' ≠ b:=fun he=>by
     have:=hM.sep id _ b hl1 hblk;rw [<- he,hb'] at this;cases this
    have hw:=hM.imm b' ob hb';rw [y4 (b28.1 hw).1 hne];exact hw
  have:=(ll ho).1;subst this;exact hM.sep id0 _ b' hl1 hb'
 | [],h=>exact h.elim
 | [_],⟨_,h⟩=>exact h.elim
 | _ :: _ :: _ :: _,⟨_,_,h⟩=>exact h.elim
end
section
open Go.Proofs
def aqv {α:Type} [Inhabited α] {cl:Bool} {c:α -> Nat -> PV} {x y z:α} {f:Nat -> Nat -> PV} (h0:CoP (f 0 0) (c x 0)) (h1:CoP (f 1 0) (c y 0)) (h2:CoP (f 2 0) (c z 0)):CoP (.sl 3 1 cl f) (psl 1 c [x,y,z]) :=
 CoP.sl rfl (.inl rfl) (fun h=>by cases h) fun i j hi hj=>by
  obtain rfl:j = 0:=by omega
  match i,hi with
  | 0,_=>exact h0
  | 1,_=>exact h1
  | 2,_=>exact h2
def as7 (a b:Val):orF [gf a.kind b.kind,gf a.num b.num,lh a.str b.str] = iq a b:=by
 have e:∀ x y:Int,sgn x y = gf x y:=fun _ _=>rfl;unfold iq orF;rw [e,e];by_cases h1:gf a.kind b.kind = 0
 · by_cases h2:gf a.num b.num = 0
   · by_cases h3:lh a.str b.str = 0
     · simp [h1,h2,h3]
     simp [h1,h2,h3]
   simp [h1,h2]
 simp [h1]
def ahz (a:Int):a8 b62 153 [pI a] (ah [pB false]):=by
 refine hpx (nt:=6) Tryz.func153 ?_;refine dn ?_;exact hx8 rfl rfl rfl (⟨ccb b5f,trivial⟩)
def au5 (a b:Int):a8 b62 104 [pI a,pI b] (ah [pI (gf a b)]):=by
 refine hpx (nt:=20) Tryz.func104 ?_;refine w_7 ?_;refine qcx (wgx Tryz.func153) (ahz _) ?_;refine w_5 ?_;refine qcx (wgx Tryz.func153) (ahz _) ?_;refine ahf ?_;refine hcd (fun h0=>?_) (fun h0=>?_)
 · refine v_4 ?_;exact ⟨cci b5t,trivial⟩
 refine w_8 ?_;refine hcd (fun h1=>?_) (fun h1=>?_)
 · refine v_4 ?_;exact ⟨cci b5t,trivial⟩
 refine v_5 ?_;exact ⟨cci b5t,trivial⟩
def aqm (a b:ByteArray):a8 b62 105 [pS a,pS b] (ah [pI (lh a b)]):=by
 refine hpx (nt:=8) Tryz.func105 ?_;refine w_8 ?_;refine qcx ar9 (aq2 _ _) ?_;refine v_2 ?_;exact CoL.refl _
def asj (a b:Val):a8 b62 63 [a.pc,b.pc] (ah [pI (iq a b)]):=by
 refine hpx (nt:=22) Tryz.func63 ?_;refine sx7 ?_;refine m9 0 ?_;refine m9 1 ?_;refine w_8 ?_;refine qcx (wgx Tryz.func103) (aoj _ _) ?_;refine w_4 ?_;refine qcx (wgx Tryz.func104) (au5 _ _) ?_;refine w_4 ?_;refine qcx (wgx Tryz.func105) (aqm _ _) ?_;refine m9 2 ?_;refine rc rfl rfl rfl rfl rfl rfl (wgx Tryz.func102) (cOr [gf a.kind b.kind,gf a.num b.num,lh a.str b.str]) (⟨CoC.one (aqv (CoP.refl _) (CoP.refl _) (CoP.refl _)),trivial⟩) rfl rfl ?_;refine v_3 ?_;exact ⟨cci (as7 a b),trivial⟩
def ay7 (n:Int):a8 b62 58 [pI n] (ah [(⟨1,n,emp⟩:Val).pc]):=by
 refine hpx (nt:=5) Tryz.func58 ?_;refine sx7 ?_;refine m9 0 ?_;refine v_7 ?_;exact CoL.refl _
def b5x {p:Prop} (h:p:=by (repeat' apply And.intro) <;> first | trivial | exact b27 rfl):p:=h
def b60 {p:Prop} (h:p:=by first | rfl | (dsimp only;omega)):p:=h
def auy (l:List Val):c4 b62 64 [.one (.ref 900 l.length)] [(900, .arr true 3 114 l.length (lf Val.c l))] (.v (.one (.p (vals (j4 l))))) [] []:=by
 refine hfx (nt:=61) Tryz.func64 ?_;refine c7 ?_;refine ag8 900 rfl fun hlen=>?_;refine dm ?_;refine hcd (fun h0=>?_) (fun h0=>?_)
 · refine w_5 ?_;refine bo 2 rfl rfl rfl ?_;refine hrr ?_;exact ⟨_,_,rfl,b5x,aey (k:=l.length) (b29 _) (fun j h1 h2=>by omega),trivial⟩
 refine w_7 ?_;refine am (ι:=Nat) (ka 0 kn) (kb 900 km) (fun k=>⟨[(3,some (vI k))],[]⟩) (fun k=>1 <= k /\ k <= l.length /\ ∀ j,0 < j -> j < k -> ¬ l.getD j default = l.getD (j - 1) default) (fun k=>l.length - k) (1) (⟨b29 _,by omega,fun j h1 h2=>by omega⟩) kk ?_;rintro k ⟨hk1,hk,hI⟩;refine w_8 ?_;refine hcd (fun h1=>?_) (fun h1=>?_)
 ·
  refine za ?_;refine al _ rfl (fun r2=>?_) (fun r2=>?_)
  ·
   have h2:=r2;have hq:=eqJ (l:=l) (a:=k) (b:=k - 1) (by simpa [and_assoc] using r2) rfl b5c;refine mj ?_;refine am (ι:=Nat × Nat × List Val) (ka 0 (ka 4 kn)) km (fun x=>⟨[(3,some (vI x.1)),(5,some (vI ((x.2.1:Int) - k)))],[(900,some (.arr true 3 114 l.length (lf Val.c x.2.2)))]⟩) (fun x=>CpJ l k x.1 x.2.1 x.2.2) (fun x=>l.length - x.2.1) ((k,k + 1,l)) (CpJ.start hk1 b5c hI hq) ⟨⟨zy,⟨_,rfl,(coi b60)⟩,trivial⟩,uu⟩ ?_;rintro ⟨p,q,m⟩ hC;have hC0:=hC;obtain ⟨hml,hkq,hpq,hql,_,_⟩:=hC0;dsimp only at hC hml hkq hpq hql;refine w_8 ?_;refine hcd (fun h3=>?_) (fun h3=>?_)
   ·
    simp only [f0,bd,b2k] at h3;refine za ?_;refine al _ rfl (fun r4=>?_) (fun r4=>?_)
    ·
     have h4:=r4;have hq2:=ayi (l:=m) (a:=q) (b:=q - 1) (by simpa [and_assoc] using r4) (by simp only [bd];omega) (by simp only [bd];omega);refine alm ?_
     first | (refine lpz (p + 1, q + 1, m.set p (m.getD q default)) ⟨⟨⟨_, rfl, (coi (by first | rfl | (dsimp only; omega)))⟩, ⟨_, rfl, (coi (by first | rfl | (dsimp only; omega)))⟩, tt⟩, ⟨⟨_, rfl, (abu id hml.symm b5c (by dsimp only; omega) (by simp only [bd]; omega))⟩, trivial⟩⟩ ?_; exact hC.keep b5c hq2)
           | (refine lpz (p,q + 1,m) ⟨⟨⟨_,rfl,(coi b60)⟩,⟨_,rfl,(coi b60)⟩,tt⟩,uu⟩ ?_;exact hC.skip b5c hq2)
    have h4:=r4;have hq2:=eqJ (l:=m) (a:=q) (b:=q - 1) (by simpa [and_assoc] using r4) (by simp only [bd];omega) (by simp only [bd];omega);refine w_6 ?_
    first | (refine lpz (p + 1, q + 1, m.set p (m.getD q default)) ⟨⟨⟨_, rfl, (coi (by first | rfl | (dsimp only; omega)))⟩, ⟨_, rfl, (coi (by first | rfl | (dsimp only; omega)))⟩, tt⟩, ⟨⟨_, rfl, (abu id hml.symm b5c (by dsimp only; omega) (by simp only [bd]; omega))⟩, trivial⟩⟩ ?_; exact hC.keep b5c hq2)
          | (refine lpz (p,q + 1,m) ⟨⟨⟨_,rfl,(coi b60)⟩,⟨_,rfl,(coi b60)⟩,tt⟩,uu⟩ ?_;exact hC.skip b5c hq2)
   simp only [f0,bd,b2k] at h3;refine w_6 ?_;refine r9 0 true ?_;refine w_5 ?_;refine aur rfl rfl rfl rfl rfl ?_;refine w_2 ?_;refine hrr ?_;exact ⟨_,_,rfl,b5x,aoy hC b5c (by simp [bd]),trivial⟩
  have h2:=r2;have hq:=neJ (l:=l) (a:=k) (b:=k - 1) (by simpa [and_assoc] using r2) rfl b5c;refine w_6 ?_;refine lpz (k + 1) kk ?_;refine ⟨by omega,by show k + 1 <= _;omega,fun j h1 h2=>?_⟩
  rcases b4h (b56 h2) with h | h
  · exact hI j h1 h
  subst h;exact hq
 refine w_6 ?_;refine bo 2 rfl rfl rfl ?_;refine hrr ?_;exact ⟨_,_,rfl,b5x,aey (k:=k) b5c hI,trivial⟩
abbrev vh (v:Val):List Value:=[.int .i64 v.kind, .int .i64 v.num, .string v.str]
def atj (v:Val):∀ j,j < 3 -> (PV.raw ((vh v).getD j (.bool false))) = v.c j:=aa7 rfl rfl rfl
def amp (g:Nat) (caps:Nat -> PV) (hg:∀ args w,(callFunc g args).run b62 w = .ok (.enter g args) w) (hc:∀ x y:Val,a8 b62 g [x.pc,y.pc] (ah [pI (iq x y)])) (id:Nat) (l:List Val) (hsz:l.length <= 8589934592) :
 c4 b62 62 [.one (.ref id l.length), .one (.p (.fn g 0 caps))] [(id, .arr true 3 114 l.length (lf (fun v j=>.raw ((vh v).getD j (.bool false))) l))] (.tup []) [(id, .arr true 3 114 l.length (lf (fun v j=>.raw ((vh v).getD j (.bool false))) (a2n iq l)))] [id] :=
 ah1 Tryz.laysSortV 3 b5i Tryz.isAgg114 Tryz.sizeOf114 vh (fun _=>rfl) (fun x v hv=>by
  rcases b2f.1 hv with rfl | hv
  · rfl
  rcases b2f.1 hv with rfl | hv
  · rfl
  rcases b2f.1 hv with rfl | hv
  · rfl
  cases hv) iq pf.swo pf.eq g caps hg (fun x y=>hc x y) id 114 l hsz
def aqy {wr wr':Bool} {n:Nat} {e:TypeId} {l:List Val} (hw:wr' = true -> wr = true):CoO (.arr wr 3 e n (lf (fun v j=>.raw ((vh v).getD j (.bool false))) l)) (.arr wr' 3 e n (lf Val.c l)) :=
 ⟨hw,rfl,rfl,rfl,fun i j hi hj=>CoP.of_eq (atj _ j hj)⟩
def co_encV' {wr wr':Bool} {n:Nat} {e:TypeId} {l:List Val} (hw:wr' = true -> wr = true):CoO (.arr wr 3 e n (lf Val.c l)) (.arr wr' 3 e n (lf (fun v j=>.raw ((vh v).getD j (.bool false))) l)) :=
 ⟨hw,rfl,rfl,rfl,fun i j hi hj=>CoP.of_eq (atj _ j hj).symm⟩
def auh (id:Nat) (l:List Val) (hsz:l.length <= 8589934592) (caps:Nat -> PV) :
 c4 b62 62 [.one (.ref id l.length), .one (.p (.fn 63 0 caps))] [(id, .arr true 3 114 l.length (lf (fun v j=>.raw ((vh v).getD j (.bool false))) l))] (.tup []) [(id, .arr true 3 114 l.length (lf (fun v j=>.raw ((vh v).getD j (.bool false))) (a2n iq l)))] [id] :=
 amp 63 caps (enters_of Tryz.func63 (by kernel_rfl) rfl) asj id l hsz
end
section
abbrev a4t:PV:=.sl 0 3 true (lf Val.c [])
def tc (R:List Row) (a:Nat):Nat -> Nat -> PV:=fun i _=>if i < a then vals (yp R i) else a4t
section
variable {R:List Row} {a:Nat}
def asa {j:Nat}:tc R a a j = a4t:=if_neg (b50 a)
def ake {j:Nat}:CoP (vals (yp R a)) (tc R (a + 1) a j):=CoP.of_eq (if_pos (Nat.lt_succ_self a)).symm
variable {n:Nat}
def apj:∀ i,i < n -> i ≠ a -> CoP (tc R a i 0) (tc R (a + 1) i 0):=fun i _ h=>by
 refine CoP.of_eq ?_;unfold tc;by_cases h1:i < a
 · rw [if_pos h1,if_pos b5c]
 rw [if_neg h1,if_neg b5c]
variable {e:TypeId} {f:Nat -> Nat -> PV}
def ak3 {n':Nat} (hn:n' = n) (hf:∀ i,CoP (f i 0) a4t):CoO (.arr true 1 e n f) (.arr true 1 e n' (tc R 0)):=by
 subst hn;refine ⟨fun h=>h,rfl,rfl,rfl,fun i j hi hj=>?_⟩;obtain rfl:j = 0:=by omega
 have:tc R 0 i 0 = a4t:=if_neg b5c;rw [this];exact hf i
variable {cl:Bool}
def ao0:CoP (.sl n 1 cl (tc R n)) (pl (bm R n)):=by
 refine CoP.sl uf (.inl rfl) (fun h=>by cases h) fun i j hi hj=>CoP.of_eq ?_;show tc R n i j = vals ((bm R n).getD i default);rw [aki hi];exact if_pos hi
def ajr {s:Nat}:CoP (.sl 0 s true f) a4t:=CoP.sl rfl (.inr rfl) (fun h=>h) fun i j hi _=>absurd hi (b2c i)
def xf:(nu R a).length = R.length:=b33 _
variable {g:Nat -> Nat -> PV}
def akv {i:Nat} (hi:i < R.length) (h:∀ j,j < 3 -> CoP (g 0 j) (((R.getD i default).vals.getD a default).c j)):
 CoO (.arr true 3 e (i + 1) (d6 i (lf Val.c (nu R a)) g)) (.arr true 3 e (i + 1) (lf Val.c (nu R a))) :=
 fk (fun h=>h) fun j hj=>by
  show CoP _ (((nu R a).getD i default).c j)
  have:(nu R a).getD i default = (R.getD i default).vals.getD a default:=by
   unfold nu;simp [List.getD,hi]
  rw [this];exact h j hj
variable {l:List Val}
def apc {wr wr':Bool} (hw:wr' = true -> wr = true) (hn:n = l.length):CoO (.arr wr 3 e n (lf Val.c l)) (.arr wr' 3 e l.length (lf (fun v j=>.raw ((vh v).getD j (.bool false))) l)):=by subst hn;exact co_encV' hw
def co_encL' {wr wr':Bool} (hw:wr' = true -> wr = true) (hn:n = l.length):CoO (.arr wr 3 e n (lf (fun v j=>.raw ((vh v).getD j (.bool false))) l)) (.arr wr' 3 e l.length (lf Val.c l)):=by subst hn;exact aqy hw
variable {s:AS}
def anw {n':Nat} (hn:n' = n) (hf:∀ i,CoP (f i 0) (.raw (.map none))):CoO (.arr true 1 e n f) (.arr true 1 e n' (lvT R s 0)):=by
 subst hn;refine ⟨fun h=>h,rfl,rfl,rfl,fun i j hi hj=>?_⟩;obtain rfl:j = 0:=by omega
 have:lvT R s 0 i 0 = .raw (.map none):=if_neg b5c;rw [this];exact hf i
def aqa {k:Nat} {f:MK -> Option PV} (hf:∀ m,f m = none):CoO (.mp .str 0 f) (.mp .str 0 (rh (R.take 0) s k)):=by
 refine ⟨rfl,b29 _,fun m=>?_⟩;rw [hf m]
 cases m with
 | i q n=>exact CoM.refl _
 | s b=>exact CoM.refl _
def ash {k i:Nat} (hi:i < R.length) {e:ByteArray} (he:e = fw ((R.getD i default).vals.take k) s):
 CoO (.mp .str (i + 1) (tg (rh (R.take i) s k) (.s e) (.raw (.bool true)))) (.mp .str (i + 1) (rh (R.take (i + 1)) s k)):=by
 subst he;refine ⟨rfl,b29 _,fun m=>CoM.of_eq ?_⟩
 cases m with
 | i q n=>rfl
 | s b =>
  show (bif decide (b = fw ((R.getD i default).vals.take k) s) then some (PV.raw (.bool true)) else (if kz (R.take i) s k b = true then some (.raw (.bool true)) else none)) = if kz (R.take (i + 1)) s k b = true then some (.raw (.bool true)) else none
  rw [ag0 hi];by_cases hb:b = fw ((R.getD i default).vals.take k) s
  · subst hb
    simp
  have h1:decide (b = fw ((R.getD i default).vals.take k) s) = false:=decide_eq_false hb;have h2:decide (fw ((R.getD i default).vals.take k) s = b) = false:=decide_eq_false fun e=>hb e.symm;rw [h1,h2,Bool.or_false];rfl
def axa {k M:Nat}:∀ i j,i < n -> j < 1 -> (∃ k',f7 k (.ref M 0) (lvT R s k) i j = .ref M k' /\ k' = 0 /\ CoP (mpP .str R.length (rh (R.take R.length) s k)) (lvT R s (k + 1) i j)) \/ CoH (f7 k (.ref M 0) (lvT R s k) i j) (.p (lvT R s (k + 1) i j)):=fun i j hi hj=>by
 by_cases h:i = k
 · subst h
   refine .inl ⟨0,if_pos rfl,rfl, ?_⟩;rw [b31];exact CoP.of_eq (if_pos (Nat.lt_succ_self i)).symm
 refine .inr ?_;unfold f7;rw [if_neg h];refine CoP.of_eq ?_;unfold lvT;by_cases h1:i < k
 · rw [if_pos h1,if_pos b5c]
 rw [if_neg h1,if_neg b5c]
def auz:CoP (.sl (n + 1) 1 cl (lvT R s (n + 1))) (.sl (n + 1) 1 false (lvF R s)) :=
 CoP.sl rfl (.inl rfl) (fun h=>by cases h) fun i j hi hj=>CoP.of_eq (if_pos hi)
variable {ps:List AS}
def anq {i:Nat} (hg:g 0 0 = .sl (n + 1) 1 cl (lvT R (ps.getD i default) (n + 1))):
 CoO (.arr true 1 e (i + 1) (d6 i (lf (lvC R n) ps) g)) (.arr true 1 e (i + 1) (lf (lvC R n) ps)) :=
 fk (fun h=>h) fun j hj=>by
  obtain rfl:j = 0:=by omega
  rw [hg];exact auz
def anu {k:Nat} (hk:k <= l.length):CoP (.sl (f0 (bd n (some (k:Int))) none) 3 cl (ne (lf Val.c l) none)) (vals (l.take k)):=a5t hk
def a5i {l:List (List Val)}:(jo l).length = l.length:=by simp [jo]
def adb {l:List (List Val)} {i:Nat} (hi:i < l.length) (h0:CoP (g 0 0) (.raw (.int .i64 ((i:Int) + 1)))) (h1:CoP (g 0 1) (vals (l.getD i default))):
 CoO (.arr true 2 e (i + 1) (d6 i (lf Row.c (jo l)) g)) (.arr true 2 e (i + 1) (lf Row.c (jo l))) :=
 fk (fun h=>h) fun j hj=>by
  show CoP _ (Row.c ((jo l).getD i default) j)
  have:(jo l).getD i default = ⟨(i:Int) + 1,l.getD i []⟩:=by
   unfold jo;simp [List.getD,hi]
  rw [this]
  rcases (by omega:j = 0 \/ j = 1) with rfl | rfl
  · exact h0
  exact h1
variable {t:Tbl}
def arh (h:¬ cg t = 0):lz t ps = cg t:=if_pos h
def ar3 (h1:cg t = 0) (h:¬ lvE t.attrs.length ps = 0):lz t ps = lvE t.attrs.length ps:=by unfold lz;rw [if_neg (by simp [h1]),if_pos h]
def aql (h1:cg t = 0) (h2:lvE t.attrs.length ps = 0) (h:(1000:Int) < ((jx t.rows ps t.attrs.length).length:Int)):lz t ps = 3:=by
 unfold lz;rw [if_neg (by simp [h1]),if_neg (by simp [h2]),if_pos b5c]
def afa (h1:cg t = 0) (h2:lvE t.attrs.length ps = 0) (h:¬ (1000:Int) < ((jx t.rows ps t.attrs.length).length:Int)):lz t ps = 0:=by
 unfold lz;rw [if_neg (by simp [h1]),if_neg (by simp [h2]),if_neg b5c]
def a64 {e:Int} (h:lz t ps = e) (he:e ≠ 0):a1a t ps = T0:=if_neg (by rw [h];exact he)
def af5 (h:lz t ps = 0):a1a t ps = ⟨t.name,t.attrs,jo (jx t.rows ps t.attrs.length)⟩:=if_pos h
def asc {n:Int} (h:lvE n ps = 0):0 < ps.length:=by
 cases ps with
 | nil =>
  exfalso;unfold lvE at h
  repeat' split at h
  all_goals first | omega | (simp at * <;> omega)
 | cons x l=>simp
def aqd {n:Int} (h:lvE n ps = 0):ps.length <= 64:=by
 unfold lvE at h
 repeat' split at h
 all_goals omega
def a96 {n:Int} (h:lvE n ps = 0):0 <= n /\ n <= 8:=by
 unfold lvE at h
 repeat' split at h
 all_goals omega
end
end
section
abbrev RSt:=Bool × Int × Int × Int
abbrev RSt.c (s:RSt):Nat -> PV:=fun j=>[.raw (.bool s.1), .raw (.int .i64 s.2.1), .raw (.int .i64 s.2.2.1), .raw (.int .i64 s.2.2.2)].getD j .any
abbrev RSt.pc (s:RSt):PC:=.agg [.raw (.bool s.1), .raw (.int .i64 s.2.1), .raw (.int .i64 s.2.2.1), .raw (.int .i64 s.2.2.2)]
abbrev xg (l:List RSt):PV:=psl 4 RSt.c l
def St.r (s:St):RSt:=(s.1,(s.2.1:Int),(s.2.2.1:Int),(s.2.2.2:Int))
def aez {l:List St}:CoP (stl l) (xg (l.map St.r)):=by
 refine CoP.sl (b33 _) (.inl rfl) (fun h=>h) fun i j hi hj=>CoP.of_eq ?_;show St.c (l.getD i default) j = RSt.c ((l.map St.r).getD i default) j;have:(l.map St.r).getD i default = St.r (l.getD i default):=by simp [List.getD,hi]
 rw [this];rfl
abbrev nj (a:Int) (l:List Rw) (p m:List Fd) (s:RSt):Int × List Rw × Int:=bw a l p m s.1 s.2.1 s.2.2.1 s.2.2.2
def qv (n:Int) (p m:List Fd):Int -> List Rw -> List RSt -> Bool
 | _,l,[]=>fg n l
 | a,l,s :: r=>if (nj a l p m s).2.2 = 0 then qv n p m (nj a l p m s).1 (nj a l p m s).2.1 r else false
def nq (n:Int) (ps:List AS) (p m:List Fd) (sts:List RSt):Bool:=decide (lvE n ps = 0) && (decide (bj n p m = 0) && qv n p m n (ae (ai n ps)) sts)
structure so (n:Int) (ps:List AS) (p m:List Fd) (sts:List RSt) (x:Nat × Int × List Rw × Int):Prop where
 le:x.1 <= sts.length
 ok:x.2.2.2 = 0 -> qv n p m n (ae (ai n ps)) sts = qv n p m x.2.1 x.2.2.1 (sts.drop x.1)
 no:¬ x.2.2.2 = 0 -> qv n p m n (ae (ai n ps)) sts = false
section
variable {n:Int} {ps:List AS} {p m:List Fd} {sts:List RSt}
def so.start:so n ps p m sts (0,n,ae (ai n ps),0):=⟨b2b _,fun _=>rfl,fun h=>absurd rfl h⟩
section
variable {x:Nat × Int × List Rw × Int}
def so.step (h:so n ps p m sts x) (hi:x.1 < sts.length) (h0:x.2.2.2 = 0):so n ps p m sts (x.1 + 1,(nj x.2.1 x.2.2.1 p m (sts.getD x.1 default)).1,(nj x.2.1 x.2.2.1 p m (sts.getD x.1 default)).2.1,(nj x.2.1 x.2.2.1 p m (sts.getD x.1 default)).2.2):=by
 have e:sts.drop x.1 = sts.getD x.1 default :: sts.drop (x.1 + 1):=by
  rw [b45 hi,b26,b25 hi];rfl
 have h1:=h.ok h0;rw [e,qv] at h1;refine ⟨hi,fun h2=>?_,fun h2=>?_⟩
 · rw [h1,if_pos h2]
 rw [h1,if_neg h2]
def so.fin (h:so n ps p m sts x) (hi:¬ x.1 < sts.length) (h0:x.2.2.2 = 0):qv n p m n (ae (ai n ps)) sts = fg n x.2.2.1:=by
 rw [h.ok h0,List.drop_of_length_le b5c,qv]
def a58 (h:¬ lvE n ps = 0):nq n ps p m sts = false:=by unfold nq;rw [decide_eq_false h];rfl
def a40 (h:¬ bj n p m = 0):nq n ps p m sts = false:=by unfold nq;rw [decide_eq_false h];simp
def qf (h:lvE n ps = 0) (h2:bj n p m = 0):nq n ps p m sts = qv n p m n (ae (ai n ps)) sts:=by unfold nq;rw [decide_eq_true h,decide_eq_true h2];rfl
def abl (h:lsC n ps p m = 0):lvE n ps = 0 /\ bj n p m = 0 /\ (lsT n ps p m).2.2 = 0 /\ lcR n ps p m = ((n,ae (ai n ps)),(lsT n ps p m).1,(lsT n ps p m).2.1,(lsT n ps p m).2.2):=by
 obtain ⟨h1,h2⟩:=su h;exact ⟨h1,h2,(a4o h1 h2).symm.trans h,afz h1 h2⟩
def aaq (h:¬ lsC n ps p m = 0):prS n ps p m = [] /\ prC n ps p m = lsC n ps p m:=by
 have h':¬ (rcR n ps p m).2.2 = 0:=by rw [o6];exact h
 exact ⟨if_neg h',by unfold prC;rw [if_neg h',o6]⟩
def ahv (h:lsC n ps p m = 0) {i:Nat} (hi:i <= (lsT n ps p m).1.length) (hI:∀ j,j < i -> fg n ((trL n p m (ae (ai n ps)) (lsT n ps p m).1).getD j default) = false)
 (hf:fg n ((trL n p m (ae (ai n ps)) (lsT n ps p m).1).getD i default) = true):prS n ps p m = (lsT n ps p m).1.take i /\ prC n ps p m = 0:=by
 have e:=a1b (n:=n) (ps:=ps) (p:=p) (m:=m) h
 have hx:prX n ps p m = (i:Int):=by
  unfold prX;rw [e];refine a0n (p:=fun a:Int × List Rw=>fg n a.2) (i:=i) (by rw [t6];omega) (fun j hj=>?_) ?_
  · show fg n _ = false
    rw [a10 b5c];exact hI j hj
  show fg n _ = true;rw [a10 hi];exact hf
 constructor
 · unfold prS
   rw [hx,e,if_pos rfl,if_neg b5c];rfl
 unfold prC;rw [hx,e,if_pos rfl,if_neg b5c]
def aet (h:lsC n ps p m = 0) (hI:∀ j,j < (lsT n ps p m).1.length + 1 -> fg n ((trL n p m (ae (ai n ps)) (lsT n ps p m).1).getD j default) = false):prS n ps p m = [] /\ prC n ps p m = 11:=by
 have e:=a1b (n:=n) (ps:=ps) (p:=p) (m:=m) h
 have hx:prX n ps p m < 0:=by
  unfold prX;rw [e]
  have:idx (fun a:Int × List Rw=>fg n a.2) (gi n p m (ae (ai n ps)) (lsT n ps p m).1) = -1:=a16 fun j hj=>by
   rw [t6] at hj;rw [a10 b5c];exact hI j hj
  show idx _ (gi n p m (ae (ai n ps)) (lsT n ps p m).1) < 0;omega
 constructor
 · unfold prS
   rw [e,if_pos rfl];exact if_pos hx
 unfold prC;rw [e,if_pos rfl];exact if_pos hx
end
end
def yr (r:Rw):List Val:=r.map fun z=>⟨1,z,emp⟩
def yg (l:List Rw):List Row:=(List.range l.length).map fun (i:Nat)=>⟨(i:Int) + 1,yr (l.getD i default)⟩
def tf (n:Int) (ps:List AS) (p m:List Fd):Int:=if lsC n ps p m ≠ 0 then lsC n ps p m else if fg n (lsT n ps p m).2.1.2 = true then 10 else 0
def ab2 (n:Int) (ps:List AS) (p m:List Fd):Tbl:=if tf n ps p m = 0 then ⟨⟨#[116]⟩,jg.take n.toNat,yg (lsT n ps p m).2.1.2⟩ else T0
section
variable {n:Int} {ps:List AS} {p m:List Fd}
def at0 (h:¬ lsC n ps p m = 0):tf n ps p m = lsC n ps p m /\ ab2 n ps p m = T0:=by
 have e:tf n ps p m = lsC n ps p m:=if_pos h;exact ⟨e,if_neg (by rw [e];exact h)⟩
def atz (h:lsC n ps p m = 0) (hf:fg n (lsT n ps p m).2.1.2 = true):tf n ps p m = 10 /\ ab2 n ps p m = T0:=by
 have e:tf n ps p m = 10:=by unfold tf;rw [if_neg (by simp [h]),if_pos hf]
 exact ⟨e,if_neg (by rw [e];decide)⟩
def au1 (h:lsC n ps p m = 0) (hf:fg n (lsT n ps p m).2.1.2 = false):tf n ps p m = 0 /\ ab2 n ps p m = ⟨⟨#[116]⟩,jg.take n.toNat,yg (lsT n ps p m).2.1.2⟩:=by
 have e:tf n ps p m = 0:=by unfold tf;rw [if_neg (by simp [h]),if_neg (by simp [hf])]
 exact ⟨e,if_pos e⟩
end
def aku {a:Nat} (h:a < 8):Utf8.encode (97 + (a:Int)) = jg.getD a default:=by
 have:∀ a,a < 8 -> Utf8.encode (97 + ((a:Nat):Int)) = jg.getD a default:=by decide
 exact this a h
def an4 {r:Rw} {k:Nat} (hk:k < r.length):(yr r).getD k default = ⟨1,r.getD k default,emp⟩:=by unfold yr;simp [List.getD,hk]
def aln {r:Rw}:(yr r).length = r.length:=b33 _
def anh {l:List Rw}:(yg l).length = l.length:=by simp [yg]
def alc {l:List Rw} {i:Nat} (hi:i < l.length):(yg l).getD i default = ⟨(i:Int) + 1,yr (l.getD i default)⟩:=by unfold yg;simp [List.getD,hi]
def b1l (n:Int) (a b:AS) (l:List Fd):Bool:=decide (ct n l = 0) && (decide (a ||| b = bi n) && (decide (sub a (clo l (a &&& b))) || decide (sub b (clo l (a &&& b)))))
end
section
open Go.Proofs Go.Proofs.YteklilhbjjofbaaGreatDoor
open Go.RowKit Go.ChangeShapes Go.WideShapes Go.ChangeAt
def ay0:RdB b62 90 2 Dp.c fun _ _=>True:=by
 intro H enc w sp held fuel cs x h;obtain ⟨hl,n,hf⟩:=aaf Tryz.underlying90 h;obtain ⟨y0,e0⟩:=hf 0 b5c;obtain ⟨y1,e1⟩:=hf 1 b5c;have hc:b62.cellsOf 5 = 1:=by kernel_rfl
 obtain ⟨a0,_,h0⟩:=ey (off:=0) (fun _ _ _ _ _=>trivial) rd5.toB (by simpa using e0);obtain ⟨a1,_,h1⟩:=ey (off:=1) (fun _ _ _ _ _=>trivial) rd5.toB (by simpa [hc] using e1);refine ⟨hl.trans b5q,(⟨a0,a1⟩:Dp),trivial,fun j hj=>?_⟩
 match j,hj with
 | 0,_=>exact h0 0 b5c
 | 1,_=>exact h1 0 b5c
def avq:RdB b62 30 1 (agd 2 Dp.c) fun b l=>l.length <= b :=
 (a08 (B:=fun _ _=>True) (fun _ _ _ _ _=>trivial) Tryz.underlying30 b5q b5c ay0).co id (fun b a h=>h.1) fun a j hj=>CoP.refl _
abbrev Rcp.c (d:Rcp):Nat -> PV:=fun j=>[.raw (.int .u8 (d.n.toNat:Int)),dpl d.f,dpl d.m,psl 1 u8C d.p].getD j .any
def azj:RdB b62 33 4 Rcp.c fun b d=>d.f.length <= b /\ d.m.length <= b /\ d.p.length <= b:=by
 intro H enc w sp held fuel cs x h;obtain ⟨hl,n,hf⟩:=a4v Tryz.underlying33 h;obtain ⟨y0,e0⟩:=hf 0 _ rfl;obtain ⟨y1,e1⟩:=hf 1 _ rfl;obtain ⟨y2,e2⟩:=hf 2 _ rfl;obtain ⟨y3,e3⟩:=hf 3 _ rfl;obtain ⟨a0,_,h0⟩:=ey (fun _ _ _ _ _=>trivial) rd5.toB e0;obtain ⟨a1,b1,h1⟩:=ey (B:=fun b (l:List Dp)=>l.length <= b) (fun _ _ _ h k=>b37 k h) avq e1;obtain ⟨a2,b2,h2⟩:=ey (B:=fun b (l:List Dp)=>l.length <= b) (fun _ _ _ h k=>b37 k h) avq e2;obtain ⟨a3,b3,h3⟩:=ey (B:=fun b (l:List (BitVec 8))=>l.length <= b) (fun _ _ _ h k=>b37 k h) ay2 e3;refine ⟨hl.trans b5q,(⟨a0,a1,a2,a3⟩:Rcp),⟨b1,b2,b3⟩,fun j hj=>?_⟩
 match j,hj with
 | 0,_=>exact h0 0 b5c
 | 1,_=>exact h1 0 b5c
 | 2,_=>exact h2 0 b5c
 | 3,_=>exact h3 0 b5c
def ayq:RdB b62 85 4 RSt.c fun _ _=>True:=by
 intro H enc w sp held fuel cs x h;obtain ⟨hl,n,hf⟩:=a4v Tryz.underlying85 h;obtain ⟨y0,e0⟩:=hf 0 _ rfl;obtain ⟨y1,e1⟩:=hf 1 _ rfl;obtain ⟨y2,e2⟩:=hf 2 _ rfl;obtain ⟨y3,e3⟩:=hf 3 _ rfl;obtain ⟨a0,_,h0⟩:=ey (fun _ _ _ _ _=>trivial) azh.toB e0;obtain ⟨a1,_,h1⟩:=ey (fun _ _ _ _ _=>trivial) rd3.toB e1;obtain ⟨a2,_,h2⟩:=ey (fun _ _ _ _ _=>trivial) rd3.toB e2;obtain ⟨a3,_,h3⟩:=ey (fun _ _ _ _ _=>trivial) rd3.toB e3;refine ⟨hl.trans b5q,((a0,a1,a2,a3):RSt),trivial,fun j hj=>?_⟩
 match j,hj with
 | 0,_=>exact h0 0 b5c
 | 1,_=>exact h1 0 b5c
 | 2,_=>exact h2 0 b5c
 | 3,_=>exact h3 0 b5c
def az2:RdB b62 46 1 (agd 4 RSt.c) fun b l=>l.length <= b :=
 (a08 (B:=fun _ _=>True) (fun _ _ _ _ _=>trivial) Tryz.underlying46 b5q b5c ayq).co id (fun b a h=>h.1) fun a j hj=>CoP.refl _
abbrev C3:=BitVec 8 × BitVec 8 × BitVec 8
abbrev C3.c (x:C3):Nat -> PV:=fun j=>[.raw (.int .u8 (x.1.toNat:Int)), .raw (.int .u8 (x.2.1.toNat:Int)), .raw (.int .u8 (x.2.2.toNat:Int))].getD j .any
def az3:RdB b62 82 3 C3.c fun _ _=>True:=by
 intro H enc w sp held fuel cs x h;obtain ⟨hl,n,hf⟩:=aaf Tryz.underlying82 h;obtain ⟨y0,e0⟩:=hf 0 b5c;obtain ⟨y1,e1⟩:=hf 1 b5c;obtain ⟨y2,e2⟩:=hf 2 b5c;have hc:b62.cellsOf 5 = 1:=by kernel_rfl
 obtain ⟨a0,_,h0⟩:=ey (off:=0) (fun _ _ _ _ _=>trivial) rd5.toB (by simpa using e0);obtain ⟨a1,_,h1⟩:=ey (off:=1) (fun _ _ _ _ _=>trivial) rd5.toB (by simpa [hc] using e1);obtain ⟨a2,_,h2⟩:=ey (off:=2) (fun _ _ _ _ _=>trivial) rd5.toB (by simpa [hc] using e2);refine ⟨hl.trans b5q,((a0,a1,a2):C3),trivial,fun j hj=>?_⟩
 match j,hj with
 | 0,_=>exact h0 0 b5c
 | 1,_=>exact h1 0 b5c
 | 2,_=>exact h2 0 b5c
def ax4:b62.readableRec 82 = true /\ 82 < b62.types.size:=⟨by kernel_rfl,of_decide_eq_true b5q⟩
def awv:b62.readableRec 33 = true /\ 33 < b62.types.size:=⟨by kernel_rfl,of_decide_eq_true b5q⟩
def awl:b62.readableRec 46 = true /\ 46 < b62.types.size:=⟨by kernel_rfl,of_decide_eq_true b5q⟩
end
section
open Go.Proofs
def avh (n:Int) (ps:List AS) (p m:List Fd):a8 b62 21 [pI n,pP (asl ps),pP (fdl p),pP (fdl m)] (ah [pP (stl (prS n ps p m)),pI (prC n ps p m)]):=by
 refine hpx (nt:=55) Tryz.func21 ?_;refine dn ?_;refine qcx ad0 (a62 n ps p m) ?_;refine w_5 ?_;refine m9 0 ?_;refine m9 1 ?_;refine dn ?_;refine hcn (fun h0=>?_) (fun h0=>?_)
 · refine w_6 ?_;refine hrr ?_;obtain ⟨e1,e2⟩:=aaq (p:=p) (m:=m) (n:=n) (ps:=ps) (by rw [<- gq];assumption);exact f9 rfl rfl (⟨(by rw [e1];exact CoC.one (CoP.sl rfl (.inr rfl) (fun _=>rfl) (fun i j hi _=>absurd hi (b2c i)))),cci (gq.trans e2.symm),trivial⟩)
 have hls:lsC n ps p m = 0:=gq.symm.trans b5d;obtain ⟨hv,hb,hc,hR⟩:=abl hls;have hz:=a96 hv;have htr:=ajp hv hb hc;have hfew:(lsT n ps p m).1.length <= 1300000:=a0r (p:=p) (m:=m) hv hb;refine w_6 ?_;refine am (ι:=Nat) (ka 0 (ka 2 (ka 3 (ka 10 kn)))) km (fun i=>⟨[(14,some (vI i)),(11,some (vP (stl (lsT n ps p m).1)))],[(0,some (.box [.p (.raw (.int .i64 n)), .p (rl ((trL n p m (ae (ai n ps)) (lsT n ps p m).1).getD i default))]))]⟩) (fun i=>i <= (lsT n ps p m).1.length /\ (∀ j,j < i -> fg n ((trL n p m (ae (ai n ps)) (lsT n ps p m).1).getD j default) = false)) (fun i=>(lsT n ps p m).1.length - i) (0) (⟨b2b _,fun j hj=>absurd hj (b2c j)⟩) ⟨⟨zy,⟨_,rfl,(by rw [hR];exact CoR.refl _)⟩,trivial⟩,⟨⟨_,rfl,(by rw [hR,afl];exact CoO.refl _)⟩,trivial⟩⟩ ?_;rintro i ⟨hi,hI⟩;refine w_7 ?_;refine qcx a4j (a0s n hz.1 b5c) ?_;refine qcx zo (a4s n ((trL n p m (ae (ai n ps)) (lsT n ps p m).1).getD i default) (br n)) ?_;refine w_2 ?_;refine al _ rfl (fun r1=>?_) (fun r1=>?_)
 · have h1:=r1;obtain ⟨e1,e2⟩:=ahv hls hi hI r1;refine v_8 ?_;exact by rw [e1,e2];exact ⟨CoC.one (aai (by rw [b2g];dsimp only [f0,bd];omega) (fun a j=>by first | rfl | (simp;rfl))),CoC.refl _,trivial⟩
 have h1:=r1;have hno:fg n ((trL n p m (ae (ai n ps)) (lsT n ps p m).1).getD i default) = false:=r1;refine w_9 ?_;refine hcd (fun h2=>?_) (fun h2=>?_)
 ·
  obtain ⟨e1,e2⟩:=aet hls fun j hj=>by
   by_cases e:j = i
   · rw [e];exact hno
   exact hI j b5c
  refine v_5 ?_;exact by rw [e1,e2];exact ⟨CoC.one (CoP.sl rfl (.inr rfl) (fun _=>rfl) (fun i j hi _=>absurd hi (b2c i))),CoC.refl _,trivial⟩
 obtain ⟨hx1,hx2,hx3⟩:=aos b5c (aft htr (i:=i) b5c);refine dm ?_;refine qcx (wgx Tryz.func48) (ajb n ((trL n p m (ae (ai n ps)) (lsT n ps p m).1).getD i default) p m ((lsT n ps p m).1.getD i default) hx1 hb hx2 hx3) ?_;refine a2k ?_;refine lpz (i + 1) ⟨tt,⟨⟨_,rfl,(by rw [a15 b5c];exact CoO.refl _)⟩,trivial⟩⟩ ?_;refine ⟨by omega,fun j hj=>?_⟩;by_cases e:j = i
 · rw [e];exact hno
 exact hI j b5c
def aep (n:Int) (ps:List AS) (p m:List Fd) (sts:List RSt):a8 b62 24 [pI n,pP (asl ps),pP (fdl p),pP (fdl m),pP (xg sts)] (ah [pB (nq n ps p m sts)]):=by
 refine hpx (nt:=57) Tryz.func24 ?_;refine w_9 ?_;refine qcx a9u (a78 n ps) ?_;refine w_2 ?_;refine ag rfl rfl (fun r0=>?_) (fun r0=>?_)
 ·
  have h0:=tz2 (dq r0);(iterate 5 refine k9 (gtf r0) ?_);refine w_7 ?_
  exact hx8 rfl rfl rfl (⟨ccb (by first | exact (a58 b5d).symm | exact (a40 b5d).symm | (symm;simp_all [nq])),trivial⟩)
 have h0:=tz1 (dt r0);(iterate 3 refine qy ?_ (hg:=(gff r0)));refine qcx aca (a73 n p m) ?_ (hg:=(gff r0));refine qy ?_ (hg:=(gff r0));refine w_2 ?_;refine al _ rfl (fun r1=>?_) (fun r1=>?_)
 · have h1:=tz2 (dq (af r0 r1));refine v_4 ?_;exact ⟨ccb (by first | exact (a58 b5d).symm | exact (a40 b5d).symm | (symm;simp_all [nq])),trivial⟩
 have h1:=tz1 (dt (af r0 r1));have hv:lvE n ps = 0:=by simp_all
 have hb:bj n p m = 0:=by simp_all
 have hz:=a96 hv;refine w_5 ?_;refine qcx (wgx Tryz.func53) (aea n ps hv) ?_;refine w_3 ?_;refine m9 0 ?_;refine dn ?_;refine am (ι:=Nat × Int × List Rw × Int) (ka 0 (ka 2 (ka 3 (ka 11 (ka 32 (ka 33 kn)))))) km (fun x=>⟨[(12,some (vI x.2.2.2)),(34,some (vI x.1))],[(0,some (.box [.p (.raw (.int .i64 x.2.1)), .p (rl x.2.2.1)]))]⟩) (fun x=>so n ps p m sts x) (fun x=>sts.length - x.1) ((0,n,(ae (ai n ps)),0)) (so.start) kk ?_;rintro x hC;have hle:=hC.le;refine c7 ?_;refine ca 32 rfl fun hsn=>?_;refine w_4 ?_;refine hcd (fun h2=>?_) (fun h2=>?_)
 ·
  refine w_7 ?_;refine m9 1 ?_;refine w_8 ?_;refine hcn (fun h3=>?_) (fun h3=>?_)
  · refine v_4 ?_;exact ⟨ccb (by rw [qf hv hb];exact (hC.no b5d).symm),trivial⟩
  refine w_6 ?_;refine qcx (wgx Tryz.func48) (afk x.2.1 x.2.2.1 p m (sts.getD x.1 default).1 (sts.getD x.1 default).2.1 (sts.getD x.1 default).2.2.1 (sts.getD x.1 default).2.2.2) ?_;refine dm ?_;refine lpz (x.1 + 1,(nj x.2.1 x.2.2.1 p m (sts.getD x.1 default)).1,(nj x.2.1 x.2.2.1 p m (sts.getD x.1 default)).2.1,(nj x.2.1 x.2.2.1 p m (sts.getD x.1 default)).2.2) ⟨⟨⟨_,rfl,(CoR.refl _)⟩,⟨_,rfl,(coi b5k)⟩,tt⟩,uu⟩ ?_;exact hC.step b5c b5d
 have hend:¬ x.1 < sts.length:=by omega
 refine w_6 ?_;refine ag rfl rfl (fun r4=>?_) (fun r4=>?_)
 ·
  have h4:=tz1 r4;(iterate 2 refine qy ?_ (hg:=(gtt r4)));refine qcx a4j (a0s n hz.1 b5c) ?_ (hg:=(gtt r4));refine qcx zo (a4s x.2.1 x.2.2.1 (br n)) ?_ (hg:=(gtt r4));refine w_4 ?_
  exact hx8 rfl rfl rfl (⟨ccb (by rw [qf hv hb];first | exact (hC.no b5d).symm | (refine Eq.trans ?_ (hC.no b5d).symm;simp_all;done) | (refine Eq.trans ?_ (hC.fin hend b5d).symm;first | rfl | (simp_all;done) | (simp_all;rfl))),trivial⟩)
 have h4:=tz2 r4;(iterate 4 refine k9 (gft r4) ?_);refine w_4 ?_
 exact hx8 rfl rfl rfl (⟨ccb (by rw [qf hv hb];first | exact (hC.no b5d).symm | (refine Eq.trans ?_ (hC.no b5d).symm;simp_all;done) | (refine Eq.trans ?_ (hC.fin hend b5d).symm;first | rfl | (simp_all;done) | (simp_all;rfl))),trivial⟩)
def axm (n:Int) (ps:List AS) (p m:List Fd):a8 b62 27 [pI n,pP (asl ps),pP (fdl p),pP (fdl m)] (ah [(ab2 n ps p m).pc,pI (tf n ps p m)]):=by
 refine hpx (nt:=88) Tryz.func27 ?_;refine sx7 ?_;refine m9 0 ?_;refine w_8 ?_;refine qcx ad0 (a62 n ps p m) ?_;refine w_5 ?_;refine m9 1 ?_;refine m9 2 ?_;refine dn ?_;refine hcn (fun h0=>?_) (fun h0=>?_)
 · refine w_7 ?_;refine hrr ?_;obtain ⟨e1,e2⟩:=at0 (p:=p) (m:=m) (n:=n) (ps:=ps) (by rw [<- gq];assumption);exact f9 rfl rfl (⟨(by rw [e2];exact CoC.agg ⟨CoP.refl _,kg,kg,trivial⟩),cci (gq.trans e1.symm),trivial⟩)
 have hls:lsC n ps p m = 0:=gq.symm.trans b5d;obtain ⟨hv,hb,hc,hR⟩:=abl hls;have hz:=a96 hv;obtain ⟨sts0,lend,he0,_,htk,_⟩:=aaa hv hb hc;have htok:tok n (lsT n ps p m).2.1.2 = true:=by rw [he0];exact htk
 obtain ⟨_,_,hl256,hlen⟩:=ew htok;refine w_6 ?_;refine qcx a4j (a0s n hz.1 b5c) ?_;refine qcx zo (a4s (lcR n ps p m).2.2.1.1 (lcR n ps p m).2.2.1.2 (br n)) ?_;refine w_2 ?_;refine al _ rfl (fun r1=>?_) (fun r1=>?_)
 ·
  have h1:=r1;have hf:fg n (lsT n ps p m).2.1.2 = true:=by have hq:=r1;rw [hR] at hq;exact hq
  refine w_6 ?_;refine hrr ?_;obtain ⟨e1,e2⟩:=atz hls hf;exact f9 rfl rfl (⟨(by rw [e2];exact CoC.agg ⟨CoP.refl _,kg,kg,trivial⟩),cci e1.symm,trivial⟩)
 have h1:=r1;have hf:fg n (lsT n ps p m).2.1.2 = false:=by have hq:=r1;rw [hR] at hq;exact hq
 refine w_4 ?_;refine m9 3 ?_;refine w_9 ?_;refine er 3 1 30 true 1 9 (lf a3b jg) b5i rfl rfl (CoP.sl rfl (.inr rfl) (fun h=>h) (fun i j hi _=>absurd hi (b2c i))) (.inr rfl) rfl rfl ?_;refine ce (ka 8 (ka 12 (ka 14 (ka 41 kn)))) (kb 0 (kb 2 km)) (fun a=>⟨[(42,some (vI a))],[(3,some (.box [.p (.raw (.string ⟨#[116]⟩)), .ref 30 a, .p (jf (.slice none 0 0))])),(30,some (.arr true 1 9 a (lf a3b jg)))]⟩) n.toNat kk ?_;rintro a ha;refine w_5 ?_;refine hcd (fun h2=>?_) (fun h2=>?_)
 · refine ml ?_;refine m9 4 ?_;refine r9 5 true ?_;refine w_7 ?_;exact lpx (a + 1) ⟨tt,⟨u9,⟨_,rfl,(fk (fun h=>h) (lt1 (CoP.of_eq (congrArg (fun s=>PV.raw (.string s)) (aku b5c)))))⟩,uu⟩⟩
 obtain rfl:a = n.toNat:=by omega
 refine w_3 ?_;refine fm 3 1 rfl rfl rfl rfl rfl ?_;refine w_7 ?_;refine er 3 2 31 true 2 112 (lf Row.c (yg (lsT n ps p m).2.1.2)) b5i rfl rfl (CoP.sl rfl (.inr rfl) (fun h=>h) (fun i j hi _=>absurd hi (b2c i))) (.inr rfl) rfl rfl ?_;refine ce (ka 8 (ka 14 kn)) (kb 0 km) (fun i=>⟨[(58,some (vI i)),(56,some (vP (rl (lsT n ps p m).2.1.2))),(57,some (vI (lsT n ps p m).2.1.2.length))],[(3,some (.box [.p (.raw (.string ⟨#[116]⟩)), .p (.sl n.toNat 1 false (lf a3b jg)), .ref 31 i])),(31,some (.arr true 2 112 i (lf Row.c (yg (lsT n ps p m).2.1.2))))]⟩) ((lsT n ps p m).2.1.2.length) ⟨⟨zy,⟨_,rfl,(by rw [hR];exact CoR.refl _)⟩,⟨_,rfl,(by rw [hR];exact CoR.refl _)⟩,trivial⟩,uu⟩ ?_;rintro i hi;refine w_5 ?_;refine hcd (fun h3=>?_) (fun h3=>?_)
 ·
  refine og ?_;refine m9 6 ?_;refine dm ?_;refine er 6 1 32 true 3 114 (lf Val.c (yr ((lsT n ps p m).2.1.2.getD i default))) b5i rfl rfl (CoP.sl rfl (.inr rfl) (fun h=>h) (fun i j hi _=>absurd hi (b2c i))) (.inr rfl) rfl rfl ?_;refine ce (ka 8 (ka 14 (ka 18 (ka 56 (ka 57 (ka 58 (ka 66 (ka 67 kn)))))))) (kb 3 (kb 31 (kb 0 km))) (fun k=>⟨[(68,some (vI k))],[(6,some (.box [.p (.raw (.int .i64 ((i:Int) + 1))), .ref 32 k])),(32,some (.arr true 3 114 k (lf Val.c (yr ((lsT n ps p m).2.1.2.getD i default)))))]⟩) (((lsT n ps p m).2.1.2.getD i default).length) kk ?_;rintro k hk;have hrl:=hlen i b5c;refine w_5 ?_;refine hcd (fun h4=>?_) (fun h4=>?_)
  ·
   refine mj ?_;refine qcx (wgx Tryz.func58) (ay7 _) ?_;refine m9 7 ?_;refine r9 8 true ?_;refine w_8 ?_;refine ⟨k + 1, ?_, ?_, ?_⟩
   · show k + 1 <= _;omega
   · first | omega | (dsimp only;omega)
   exact ⟨tt,⟨u9,⟨_,rfl,(fk (fun h=>h) fun j hj=>by
   show CoP _ (Val.c ((yr _).getD k default) j);rw [an4 b5c];revert j
   exact aa7 (CoP.refl _) (CoP.refl _) (CoP.refl _))⟩,uu⟩⟩
  obtain rfl:k = ((lsT n ps p m).2.1.2.getD i default).length:=by omega
  refine cu ?_;refine fm 6 1 rfl rfl rfl rfl rfl ?_;refine w_4 ?_;refine m9 9 ?_;refine r9 10 true ?_;refine w_7 ?_;refine ⟨i + 1, ?_, ?_, ?_⟩
  · show i + 1 <= _;omega
  · first | omega | (dsimp only;omega)
  exact ⟨tt,⟨u9,⟨_,rfl,(fk (fun h=>h) fun j hj=>by
  show CoP _ (Row.c ((yg (lsT n ps p m).2.1.2).getD i default) j);rw [alc b5c];revert j
  exact lt2 (CoP.refl _) (CoP.sl aln (.inl rfl) (fun h=>h) fun _ _ _ _=>CoP.refl _))⟩,uu⟩⟩
 obtain rfl:i = (lsT n ps p m).2.1.2.length:=by omega
 refine w_2 ?_;refine fm 3 2 rfl rfl rfl rfl rfl ?_;refine w_5 ?_;refine hrr ?_;obtain ⟨e1,e2⟩:=au1 hls hf;exact f9 rfl rfl (⟨(by rw [e2];exact CoC.agg ⟨CoP.refl _,a5t (by show n.toNat <= 8;omega),CoP.sl anh (.inl rfl) (fun h=>h) (fun _ _ _ _=>CoP.refl _),trivial⟩),cci e1.symm,trivial⟩)
end
section
open Go.Proofs
def af2 (l:List Int) (n:Int) (hl:l.length <= 1000000):c4 b62 155 [.one (.ref 1000 l.length), .one (.p (.raw (.int .i64 n)))] [(1000, .arr true 1 5 l.length (lf byC l))] (.v (.one (.ref 1000 (l ++ zb n).length))) [(1000, .arr true 1 5 (l ++ zb n).length (lf byC (l ++ zb n)))] [1000]:=by
 refine hfx (nt:=22) Tryz.func155 ?_;refine w_7 ?_;refine rqw rfl rfl rfl rfl rfl ?_;refine w_9 ?_;refine ce (ka 5 kn) km (fun i=>⟨[(0,some (.v (.one (.ref 1000 (l ++ oq n i).length)))),(6,some (vI (56 - 8 * (i:Int))))],[(1000,some (.arr true 1 5 (l ++ oq n i).length (lf byC (l ++ oq n i))))]⟩) 8 ⟨⟨⟨_,rfl,(anl (by simp [oq]))⟩,⟨_,rfl,(coi (by first | rfl | omega))⟩,trivial⟩,⟨⟨_,rfl,(jl (by simp [oq]))⟩,trivial⟩⟩ ?_;rintro i hi;have hlen:(l ++ oq n i).length = l.length + i:=by simp [oq]
 refine w_6 ?_;refine hcd (fun h0=>?_) (fun h0=>?_)
 · refine w_8 ?_;refine rqw rfl rfl rfl rfl rfl ?_;refine m9 0 ?_;refine r9 1 true ?_;refine w_7 ?_;exact lpx (i + 1) ⟨⟨⟨_,rfl,(ju aau)⟩,⟨_,rfl,(coi (by first | omega | (dsimp only;omega)))⟩,tt⟩,⟨⟨_,rfl,(ji aau (CoP.of_eq (by dsimp only;rw [show ((56:Int) - 8 * (i:Int)).toNat = 56 - 8 * i by omega];rfl)))⟩,trivial⟩⟩
 obtain rfl:i = 8:=by omega
 refine w_6 ?_;refine hrr ?_;exact ⟨_,_,rfl,(by (repeat' apply And.intro) <;> first | trivial | exact b27 rfl),ik (by rw [aas]),⟨⟨_,rfl,jl (by rw [aas])⟩,trivial⟩⟩
def b5v {p:Prop} (h:p:=by first | exact .inl b5d | exact .inr b5d):p:=h
def b61 {p:Prop} (h:p:=by first | exact ik (by rw [(n3 b5v)]) | exact ik (by rw [my b5d,b2s];rfl) | exact ik (by rw [(mo b5d b5d b5d)];rfl)):p:=h
def ayh (v:Val):a8 b62 106 [v.pc] (ah [pS (xd v),pI (al4 v)]):=by
 refine hpx (nt:=51) Tryz.func106 ?_;refine sx7 ?_;refine m9 0 ?_;refine w_7 ?_;refine qcx (wgx Tryz.func141) (c76 v) ?_;refine w_2 ?_;refine hcv (fun h0=>?_) (fun h0=>?_)
 · refine v_5 ?_;exact ⟨CoC.one (by rw [ap8 b5d];exact CoP.refl _),cci (as2 b5d).symm,trivial⟩
 have hs:=xp h0;refine w_5 ?_;refine rqw rfl rfl rfl rfl rfl ?_;refine m9 1 ?_;refine w_2 ?_;refine a4l kn (kb 0 km) ⟨[(4,some (.v (.one (.ref 1 (qu v).length))))],[(1,some (.arr true 1 5 (qu v).length (lf byC (qu v))))]⟩ ?_ ?_
 ·
  refine pe ?_;refine al _ rfl (fun r1=>?_) (fun r1=>?_)
  · have h1:=tz1 r1;refine da ?_;refine al _ rfl (fun _=>?_) (fun e=>Bool.noConfusion (r1.symm.trans e));refine w_4 ?_;refine fc9 (wgx Tryz.func155) ((af2 [kB v] v.num l9).swap 1000 1) ⟨⟨_,rfl,me (CoP.refl _)⟩,trivial⟩ ?_;refine w_2 ?_;exact ⟨⟨⟨_,rfl,b61⟩,trivial⟩,⟨⟨_,rfl,(by first | exact jl (n3 b5v) | exact ya (my b5d) (CoP.refl _) (CoP.refl _) | (rw [(mo b5d b5d b5d)];exact me (CoP.refl _)))⟩,uu⟩⟩
  have h1:=tz2 r1;refine w_4 ?_;refine hcd (fun h2=>?_) (fun h2=>?_)
  · refine w_4 ?_;refine fc9 (wgx Tryz.func155) ((af2 [kB v] v.num l9).swap 1000 1) ⟨⟨_,rfl,me (CoP.refl _)⟩,trivial⟩ ?_;refine w_2 ?_;exact ⟨⟨⟨_,rfl,b61⟩,trivial⟩,⟨⟨_,rfl,(by first | exact jl (n3 b5v) | exact ya (my b5d) (CoP.refl _) (CoP.refl _) | (rw [(mo b5d b5d b5d)];exact me (CoP.refl _)))⟩,uu⟩⟩
  refine w_5 ?_;refine hcd (fun h3=>?_) (fun h3=>?_)
  ·
   refine w_9 ?_;refine ce (ka 1 (ka 26 kn)) (kb 0 km) (fun i=>⟨[(4,some (.v (.one (.ref 1 (p7 v i).length)))),(27,some (vI i))],[(1,some (.arr true 1 5 (p7 v i).length (lf byC (p7 v i))))]⟩) v.str.size ⟨⟨⟨_,rfl,(CoR.refl _)⟩,tt⟩,⟨⟨_,rfl,(me (CoP.refl _))⟩,trivial⟩⟩ ?_;rintro i hi;have hlen:=apx (v:=v) (i:=i);refine w_5 ?_;refine hcd (fun h4=>?_) (fun h4=>?_)
   ·
    refine ml ?_;refine m9 2 ?_;refine r9 3 true ?_;refine dm ?_;refine hcd (fun h5=>?_) (fun h5=>?_)
    ·
     refine w_2 ?_;refine m9 4 ?_;refine r9 5 true ?_;refine w_6 ?_
     first | (refine lpz (i + 1) ⟨⟨⟨_, rfl, (by rw [a91 b5c b5d]; simp only [b2s]; exact CoR.refl _)⟩, tt⟩, ⟨⟨_, rfl, (by rw [a91 b5c b5d]; exact a7m rfl (CoP.refl _) (CoP.refl _))⟩, uu⟩⟩ ?_; show i + 1 <= _; omega)
           | (refine lpz (i + 1) ⟨⟨⟨_,rfl,(ju (a8t b5c b5d))⟩,tt⟩,⟨⟨_,rfl,(ji (a8t b5c b5d) (CoP.refl _))⟩,uu⟩⟩ ?_;show i + 1 <= _;omega)
    refine w_5 ?_
    first | (refine lpz (i + 1) ⟨⟨⟨_, rfl, (by rw [a91 b5c b5d]; simp only [b2s]; exact CoR.refl _)⟩, tt⟩, ⟨⟨_, rfl, (by rw [a91 b5c b5d]; exact a7m rfl (CoP.refl _) (CoP.refl _))⟩, uu⟩⟩ ?_; show i + 1 <= _; omega)
          | (refine lpz (i + 1) ⟨⟨⟨_,rfl,(ju (a8t b5c b5d))⟩,tt⟩,⟨⟨_,rfl,(ji (a8t b5c b5d) (CoP.refl _))⟩,uu⟩⟩ ?_;show i + 1 <= _;omega)
   obtain rfl:i = v.str.size:=by omega
   refine w_3 ?_;refine m9 6 ?_;refine r9 7 true ?_;refine w_2 ?_;exact ⟨⟨⟨_,rfl,b61⟩,trivial⟩,⟨⟨_,rfl,(by first | exact jl (n3 b5v) | exact ya (my b5d) (CoP.refl _) (CoP.refl _) | (rw [(mo b5d b5d b5d)];exact me (CoP.refl _)))⟩,uu⟩⟩
  refine da ?_;exact ⟨⟨⟨_,rfl,b61⟩,trivial⟩,⟨⟨_,rfl,(by first | exact jl (n3 b5v) | exact ya (my b5d) (CoP.refl _) (CoP.refl _) | (rw [(mo b5d b5d b5d)];exact me (CoP.refl _)))⟩,uu⟩⟩
 refine c7 ?_;refine bo 4 rfl rfl rfl ?_;refine w_2 ?_;refine rq rfl rfl rfl rfl rfl ?_ (hp:=⟨rfl,fun i hi=>⟨_,rfl⟩⟩);refine v_3 ?_;exact ⟨CoC.one (by rw [asg b5d,<- ap7];exact CoP.refl _),cci (ara b5d).symm,trivial⟩
def aam:goodFn b62 65:=wgx Tryz.func65
def a5p (l:List Val) (s:AS) (hl:l.length <= 16):a8 b62 65 [pP (vals l),pA s] (ah [pS (fw l s)]):=by
 refine hpx (nt:=32) Tryz.func65 ?_;refine dm ?_;refine ca 0 rfl fun hn=>?_;refine w_6 ?_;refine ce (ka 1 (ka 10 (ka 11 kn))) km (fun i=>⟨[(5,some (vS (fw (l.take i) s))),(12,some (vI i))],[]⟩) l.length kk ?_;rintro i hi;have hsz:=a7p (l:=l.take i) (s:=s);rw [b2g] at hsz;have hk:=a83 (v:=l.getD i default);refine w_5 ?_;refine hcd (fun h0=>?_) (fun h0=>?_)
 ·
  refine w_8 ?_;refine m9 0 ?_;refine dn ?_;refine hcd (fun h1=>?_) (fun h1=>?_)
  ·
   refine w_3 ?_;refine qcx (wgx Tryz.func106) (ayh (l.getD i default)) ?_;refine og ?_
   first | (refine lpz (i + 1) ⟨⟨⟨_, rfl, (coS (ao7 b5c b5c b5d).symm)⟩, tt⟩, trivial⟩ ?_; show i + 1 <= _; omega)
         | (refine lpz (i + 1) ⟨⟨⟨_,rfl,(coS (aot b5c b5c b5d).symm)⟩,tt⟩,trivial⟩ ?_;show i + 1 <= _;omega)
  refine w_5 ?_
  first | (refine lpz (i + 1) ⟨⟨⟨_, rfl, (coS (ao7 b5c b5c b5d).symm)⟩, tt⟩, trivial⟩ ?_; show i + 1 <= _; omega)
        | (refine lpz (i + 1) ⟨⟨⟨_,rfl,(coS (aot b5c b5c b5d).symm)⟩,tt⟩,trivial⟩ ?_;show i + 1 <= _;omega)
 obtain rfl:i = l.length:=by omega
 refine v_6 ?_;exact ⟨CoC.one (by rw [b31];exact CoP.refl _),trivial⟩
end
end Go.Hx

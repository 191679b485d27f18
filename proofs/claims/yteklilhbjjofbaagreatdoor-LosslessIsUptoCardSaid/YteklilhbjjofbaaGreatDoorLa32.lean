/- A part of the proof: SrK Jw2 Jn3 Jn5 Rb21 Jw5. -/
import Derived.Shelf.SlSortCmp.NoneTotal
import Derived.Test.YteklilhbjjofbaaGreatDoorLa28
import Derived.Test.YteklilhbjjofbaaGreatDoorLa30
import Derived.Test.YteklilhbjjofbaaGreatDoorLa31
set_option linter.all false
set_option maxRecDepth 100000
set_option maxHeartbeats 1000000
namespace Go.Hx
section
open Go.Proofs Go.RowKit Go.Sort
def ab7 {α:Type} [Inhabited α] {enc:α -> List Value} {k:Nat} (hk:∀ x,(enc x).length = k) {l:List α} {i j:Nat} (hi:i < l.length) (hj:j < k) :
 (flatK enc k l.toArray).toList[i * k + j]? = some ((enc (l.getD i default)).getD j (.bool false)):=by
 have hlt:i * k + j < l.toArray.size * k:=by rw [b3q];exact vv hi hj
 have hlt2:i * k + j < (flatK enc k l.toArray).size:=by rw [size_flatK];exact hlt
 have h:=get_flatK enc k l.toArray (i * k + j) hlt;have k0:0 < k:=by omega
 have e1:(i * k + j) / k = i:=(blk_iff k i _ k0).1 ⟨by omega,by omega⟩;have e2:(i * k + j) % k = j:=by rw [Nat.mod_eq_sub_div_mul,e1];omega
 rw [e1,e2,getElem!_pos (flatK enc k l.toArray) _ hlt2,getElem!_pos l.toArray i (by simpa using hi)] at h;rw [b4d,b3p hlt2,h];have hj2:j < (enc l.toArray[i]).length:=by rw [hk];exact hj
 rw [getElem!_pos (enc l.toArray[i]) _ hj2];simp only [List.getElem_toArray,b2t,b2s hi,b3t] at hj2 ⊢;rw [b2s hj2];rfl
def ag7 {P:Program} {ρ:Go.Shelf.Ren} {α:Type} [Inhabited α] (L:SlLaysF0.n6 P ρ) (k:Nat) (hk0:0 < k) (aE:∀ w,(isAgg (ρ.t 24)).run P w = .ok true w) (zE:∀ w,(Go.sizeOf (ρ.t 24)).run P w = .ok k w) (enc:α -> List Value) (hk:∀ x,(enc x).length = k) (h1:∀ x,∀ v ∈ enc x,v.oneCell' = true)
 (cf:α -> α -> Int) (hO:SWO (ltOf cf)) (hT:∀ x y,(ltOf cf) x y = false -> (ltOf cf) y x = false -> x = y)
 (g:Nat) (caps:Nat -> PV) (hg:∀ args w,(callFunc g args).run P w = .ok (.enter g args) w) (hc:∀ x y,a8 P g [.agg ((enc x).map .raw), .agg ((enc y).map .raw)] (aa [.one (.raw (.int .i64 (cf x y)))])) (id:Nat) (e:TypeId) (l:List α) (hsz:l.length <= 8589934592) :
 c8 P (ρ.f 6) [.one (.ref id l.length), .one (.p (.fn g 0 caps))] [(id, .arr true k e l.length (lf (fun x j=>.raw ((enc x).getD j (.bool false))) l))] (.tup [])
  [(id, .arr true k e l.length (lf (fun x j=>.raw ((enc x).getD j (.bool false))) (l.mergeSort fun x y=>!(ltOf cf) y x)))] [id]:=by
 intro w c us hM hus
 match us,hus with
 | [u,v],⟨hu,hv,_⟩ =>
  obtain ⟨cs,rfl,hcl,_⟩:=hv;have hcs:cs = []:=b4b hcl;subst hcs;have hl1:lk [(id,a6.arr true k e l.length (lf (fun x j=>.raw ((enc x).getD j (.bool false))) l))] id = some (.arr true k e l.length (lf (fun x j=>.raw ((enc x).getD j (.bool false))) l)):=by simp [lk]
  have hu2:=(hu.2.2 _ _ _ _ hl1 rfl).2 rfl;subst hu2;have hob:=hM.objs id _ hl1;obtain ⟨h0,hmax,h5⟩:=hob;have hlen:(l.mergeSort fun x y=>!(ltOf cf) y x).length = l.length:=b5m _
  have hev:∀ f':Nat -> Nat -> PV,Evo c (lk [(id,a6.arr true k e l.length (lf (fun x j=>.raw ((enc x).getD j (.bool false))) l))]) c (lk [(id,a6.arr true k e l.length f')]) id:=fun f' =>
   .inr (.inr ⟨_, .arr true k e l.length f',k,e,l.length,l.length,hl1,rfl,by simp [lk],rfl,b2x _,fun _=>rfl,fun _ _ _ _ _ _ _ h=>by cases h⟩)
  rcases b3y l.length with hz | hpos
  · have hl:l = []:=b4b hz
    subst hl
    have hform:∃ ad cap,c.own id = .slice ad 0 cap:=by
     rcases h5 with ⟨_,xs,h2,_⟩ | ⟨_,_,ad,cap,hv,_⟩
     · rcases h2.2 with ⟨hv,_⟩ | ⟨g,cap,cur,hv,_⟩
       · exact ⟨none,0,hv⟩
       exact ⟨_,cap,hv⟩
     exact ⟨ad,cap,hv⟩
    obtain ⟨ad,cap,hown⟩:=hform;have hms:([]:List α).mergeSort (fun x y=>!(ltOf cf) y x) = []:=by simp
    rw [hown,hms];refine (AnyF.slices_SortFunc_none { L with } ad cap (.func (.func g) #[] #[]) w).mono ?_;rintro e' w' ⟨rfl,rfl⟩
    exact ⟨_,c,rfl,⟨[],rfl,trivial⟩,hM,Below.refl _ _,fun _ _ _=>⟨rfl,rfl⟩,fun id0 ob b ho hb=>.inr ⟨id0,ob,ho,hb⟩,fun id0 hid=>by
     rw [b3c.1 hid]
     exact Evo.refl _ _ _⟩
  obtain ⟨h6,xs,h2,h4⟩:c.blk id = fm (c.own id) /\ ∃ xs,w.ownsRow 0 e k (c.own id) l.length xs /\ ∀ i j,i < l.length -> j < k -> ∃ x,xs[i * k + j]? = some x /\ aj c.imm (lf (fun x j=>.raw ((enc x).getD j (.bool false))) l i j) x:=by
   rcases h5 with h5 | ⟨h6 | h6,_⟩
   · exact h5
   · cases h6
   omega
  obtain ⟨hxl,hrow⟩:=h2
  rcases hrow with ⟨_,hz⟩ | ⟨b,cap,cur,hown,hbase,hheap,hnc,hcm,hcs,htake⟩
  · omega
  have hblk:c.blk id b:=by rw [h6,hown];rfl
  have hlt:b < w.heap.size:=(b2v.1 hheap).1
  have hcell:∀ t,t < l.length * k -> cur[t]? = some (flatK enc k l.toArray)[t]!:=fun t ht=>by
   have htk:t / k < l.length:=Nat.div_lt_of_lt_mul (by rw [Nat.mul_comm];exact ht);have hmk:t % k < k:=Nat.mod_lt _ hk0;have hdm:t / k * k + t % k = t:=by rw [Nat.mul_comm];exact Nat.div_add_mod t k
   obtain ⟨x,hx,hr⟩:=h4 (t / k) (t % k) htk hmk;have hf:=ab7 (enc:=enc) hk htk hmk;rw [hdm] at hx hf;rw [<- htake,b3o,if_pos ht,b4d] at hx;rw [hx];have hr:x = (enc (l.getD (t / k) default)).getD (t % k) (.bool false) /\ _:=hr;rw [hr.1];have hft:t < (flatK enc k l.toArray).size:=by rw [size_flatK,b3q];exact ht
   rw [b4d,b3p hft] at hf;rw [getElem!_pos (flatK enc k l.toArray) _ hft];exact hf.symm
  have hH:HoldsK enc k w b 0 l.toArray:=fun j hj=>by
   have hj:j < l.length * k:=by rw [size_flatK,b3q] at hj;exact hj
   rw [b3b];refine ⟨?_,by simp [World.frozen?,hheap]⟩;simp only [World.cell?,hheap,hcell j hj];rfl
  have hcmp:CmpLays P g #[] enc k cf b 0 l.toArray.size w:=by
   intro m os dk hdk x y
   have hcimm:∀ b' ob,c.imm b' = some ob -> (sortWorldK enc k w b 0 m dk os).heap[b']? = some ob:=fun b' ob hb'=>by
    have hne:b' ≠ b:=fun he=>by
     have:=hM.sep id _ b hl1 hblk;rw [<- he,hb'] at this;cases this
    have hw:=hM.imm b' ob hb';rw [show sortWorldK enc k w b 0 m dk os = sortWorld (fun x:Value=>x) w b 0 m (flatK enc k dk) os from rfl,y6 (b2v.1 hw).1 hne];exact hw
   have hrep:∀ x,gv c.imm (.agg ((enc x).map .raw)) (.agg (enc x).toArray):=fun x=>⟨enc x,rfl,by
    have:∀ l:List Value,(∀ v ∈ l,v.oneCell' = true) -> dm c.imm (l.map .raw) l:=by
     intro l
     induction l with
     | nil=>intro _;trivial
     | cons v l ih=>exact fun h=>⟨⟨rfl,h v b5r⟩,ih fun u hu=>h u (by simp [hu])⟩
    exact this _ (h1 x)⟩
   have h:=hc x y (sortWorldK enc k w b 0 m dk os) c.imm [.agg (enc x).toArray, .agg (enc y).toArray] c.tab hcimm ⟨hrep x,hrep y,trivial⟩;refine h.mono ?_;rintro e' w' ⟨v,imm',rfl,hr,_,_,hb⟩;obtain ⟨q,os',hq⟩:=ah6 hb;exact ⟨by rw [hr.1],q,os',hq⟩
  have hS:=AnyQ.slices_SortFunc_total L k aE zE enc hk h1 cf hO g #[] b 0 cap l.toArray w hg hcmp hH hlt (by rw [b3q];omega) hT;rw [hown];refine Calls.mono hS ?_;rintro e' w' ⟨rfl,m,os,rfl⟩;generalize hSd:(l.mergeSort fun x y=>!(ltOf cf) y x) = S at *;rw [show sortWorldK enc k w b 0 m S.toArray os = sortWorld (fun x:Value=>x) w b 0 m (flatK enc k S.toArray) os from rfl]
  refine ⟨_,c,rfl,⟨[],rfl,trivial⟩,⟨fun id0 ob ho=>?_,fun id0 id1 ob0 ob1 b' ho0 ho1 _ _=>(ll ho0).1.trans (ll ho1).1.symm,fun b' ob hb'=>?_,fun id0 ob b' ho hb'=>?_⟩,ah7,
   fun b' hb' hno=>⟨y6 hb' (fun he=>hno _ _ hl1 (by rw [he];exact hblk)),rfl⟩,fun id0 ob b' ho hb'=>.inr ⟨_,_,hl1,by rw [<- (ll ho).1];exact hb'⟩,fun id0 hid=>by
    rw [b3c.1 hid]
    exact hev _⟩
  · obtain ⟨rfl,rfl⟩:=ll ho
    refine ⟨h0,hmax, .inl ⟨h6,(flatK enc k S.toArray).toList,⟨by rw [b3m,size_flatK,b3q,hlen], .inr ⟨b,cap,putCells (fun x=>x) 0 (flatK enc k S.toArray) cur,hown,hbase,ai2 hheap,hnc,hcm,by simpa [putCells] using hcs, ?_⟩⟩,fun i j hi hj=>?_⟩⟩
    · have hle:l.length * k <= cap * k:=b32 _ hnc
      have:=aoa (enc:=fun x:Value=>x) (d:=flatK enc k S.toArray) (cur:=cur) (by rw [size_flatK,b3q,hlen,hcs];exact hle);rw [size_flatK,b3q,hlen,List.map_id'] at this;exact this
    have hi':i < S.length:=by rw [hlen];exact hi
    refine ⟨_,ab7 hk hi' hj, ?_⟩;refine ⟨rfl, ?_⟩;have hj2:j < (enc (S.getD i default)).length:=by rw [hk];exact hj
    rw [b2t,b2s hj2,b3t];exact h1 _ _ (b38 hj2)
  · have hne:b' ≠ b:=fun he=>by
     have:=hM.sep id _ b hl1 hblk;rw [<- he,hb'] at this;cases this
    have hw:=hM.imm b' ob hb';rw [y6 (b2v.1 hw).1 hne];exact hw
  have:=(ll ho).1;subst this;exact hM.sep id0 _ b' hl1 hb'
 | [],h=>exact h.elim
 | [_],⟨_,h⟩=>exact h.elim
 | _ :: _ :: _ :: _,⟨_,_,h⟩=>exact h.elim
end
section
open Go.Proofs
def aq9 {α:Type} [Inhabited α] {cl:Bool} {c:α -> Nat -> PV} {x y z:α} {f:Nat -> Nat -> PV} (h0:CoP (f 0 0) (c x 0)) (h1:CoP (f 1 0) (c y 0)) (h2:CoP (f 2 0) (c z 0)):CoP (.sl 3 1 cl f) (psl 1 c [x,y,z]) :=
 CoP.sl rfl (.inl rfl) (fun h=>by cases h) fun i j hi hj=>by
  obtain rfl:j = 0:=by omega
  match i,hi with
  | 0,_=>exact h0
  | 1,_=>exact h1
  | 2,_=>exact h2
def ar9 (a b:Val):orF [gh a.kind b.kind,gh a.num b.num,lw a.str b.str] = iz a b:=by
 have e:∀ x y:Int,sgn x y = gh x y:=fun _ _=>rfl;unfold iz orF;rw [e,e];by_cases h1:gh a.kind b.kind = 0
 · by_cases h2:gh a.num b.num = 0
   · by_cases h3:lw a.str b.str = 0
     · simp [h1,h2,h3]
     simp [h1,h2,h3]
   simp [h1,h2]
 simp [h1]
def aja (a:Int):a8 b6e 153 [pI a] (aa [pB false]):=by
 refine hpx (nt:=6) Tryz.func153 ?_;refine dq ?_;exact hx8 rfl rfl rfl (⟨ccb b5r,trivial⟩)
def atv (a b:Int):a8 b6e 104 [pI a,pI b] (aa [pI (gh a b)]):=by
 refine hpx (nt:=20) Tryz.func104 ?_;refine w_7 ?_;refine qcx (wgx Tryz.func153) (aja _) ?_;refine w_5 ?_;refine qcx (wgx Tryz.func153) (aja _) ?_;refine agw ?_;refine hcd (fun h0=>?_) (fun h0=>?_)
 · refine v_4 ?_;exact ⟨cci b65,trivial⟩
 refine w_8 ?_;refine hcd (fun h1=>?_) (fun h1=>?_)
 · refine v_4 ?_;exact ⟨cci b65,trivial⟩
 refine v_5 ?_;exact ⟨cci b65,trivial⟩
def aql (a b:ByteArray):a8 b6e 105 [pS a,pS b] (aa [pI (lw a b)]):=by
 refine hpx (nt:=8) Tryz.func105 ?_;refine w_8 ?_;refine qcx aq1 (arp _ _) ?_;refine v_2 ?_;exact CoL.refl _
def arw (a b:Val):a8 b6e 63 [a.pc,b.pc] (aa [pI (iz a b)]):=by
 refine hpx (nt:=22) Tryz.func63 ?_;refine sx7 ?_;refine m9 0 ?_;refine m9 1 ?_;refine w_8 ?_;refine qcx (wgx Tryz.func103) (aos _ _) ?_;refine w_4 ?_;refine qcx (wgx Tryz.func104) (atv _ _) ?_;refine w_4 ?_;refine qcx (wgx Tryz.func105) (aql _ _) ?_;refine m9 2 ?_;refine rc rfl rfl rfl rfl rfl rfl (wgx Tryz.func102) (cOr [gh a.kind b.kind,gh a.num b.num,lw a.str b.str]) (⟨CoC.one (aq9 (CoP.refl _) (CoP.refl _) (CoP.refl _)),trivial⟩) rfl rfl ?_;refine v_3 ?_;exact ⟨cci (ar9 a b),trivial⟩
def azz (n:Int):a8 b6e 58 [pI n] (aa [(⟨1,n,emp⟩:Val).pc]):=by
 refine hpx (nt:=5) Tryz.func58 ?_;refine sx7 ?_;refine m9 0 ?_;refine v_7 ?_;exact CoL.refl _
def b69 {p:Prop} (h:p:=by (repeat' apply And.intro) <;> first | trivial | exact b2u rfl):p:=h
def b6c {p:Prop} (h:p:=by first | rfl | (dsimp only;omega)):p:=h
def awk (l:List Val):c8 b6e 64 [.one (.ref 900 l.length)] [(900, .arr true 3 114 l.length (lf Val.c l))] (.v (.one (.p (vals (j7 l))))) [] []:=by
 refine hfx (nt:=61) Tryz.func64 ?_;refine c0 ?_;refine aot 900 rfl fun hlen=>?_;refine dh ?_;refine hcd (fun h0=>?_) (fun h0=>?_)
 · refine w_5 ?_;refine bf 2 rfl rfl rfl ?_;refine hrr ?_;exact ⟨_,_,rfl,b69,aem (k:=l.length) (b2x _) (fun j h1 h2=>by omega),trivial⟩
 refine w_7 ?_;refine ak (ι:=Nat) (ka 0 kn) (kb 900 km) (fun k=>⟨[(3,some (vI k))],[]⟩) (fun k=>1 <= k /\ k <= l.length /\ ∀ j,0 < j -> j < k -> ¬ l.getD j default = l.getD (j - 1) default) (fun k=>l.length - k) (1) (⟨b2x _,by omega,fun j h1 h2=>by omega⟩) kk ?_;rintro k ⟨hk1,hk,hI⟩;refine w_8 ?_;refine hcd (fun h1=>?_) (fun h1=>?_)
 ·
  refine yo ?_;refine ai _ rfl (fun r2=>?_) (fun r2=>?_)
  ·
   have h2:=r2;have hq:=eqJ (l:=l) (a:=k) (b:=k - 1) (by simpa [and_assoc] using r2) rfl b5o;refine kj ?_;refine ak (ι:=Nat × Nat × List Val) (ka 0 (ka 4 kn)) km (fun x=>⟨[(3,some (vI x.1)),(5,some (vI ((x.2.1:Int) - k)))],[(900,some (.arr true 3 114 l.length (lf Val.c x.2.2)))]⟩) (fun x=>CpJ l k x.1 x.2.1 x.2.2) (fun x=>l.length - x.2.1) ((k,k + 1,l)) (CpJ.start hk1 b5o hI hq) ⟨⟨zy,⟨_,rfl,(coi b6c)⟩,trivial⟩,uu⟩ ?_;rintro ⟨p,q,m⟩ hC;have hC0:=hC;obtain ⟨hml,hkq,hpq,hql,_,_⟩:=hC0;dsimp only at hC hml hkq hpq hql;refine w_8 ?_;refine hcd (fun h3=>?_) (fun h3=>?_)
   ·
    simp only [fy,bh,b34] at h3;refine yo ?_;refine ai _ rfl (fun r4=>?_) (fun r4=>?_)
    ·
     have h4:=r4;have hq2:=b00 (l:=m) (a:=q) (b:=q - 1) (by simpa [and_assoc] using r4) (by simp only [bh];omega) (by simp only [bh];omega);refine alo ?_
     first | (refine lpz (p + 1, q + 1, m.set p (m.getD q default)) ⟨⟨⟨_, rfl, (coi (by first | rfl | (dsimp only; omega)))⟩, ⟨_, rfl, (coi (by first | rfl | (dsimp only; omega)))⟩, tt⟩, ⟨⟨_, rfl, (acx id hml.symm b5o (by dsimp only; omega) (by simp only [bh]; omega))⟩, trivial⟩⟩ ?_; exact hC.keep b5o hq2)
           | (refine lpz (p,q + 1,m) ⟨⟨⟨_,rfl,(coi b6c)⟩,⟨_,rfl,(coi b6c)⟩,tt⟩,uu⟩ ?_;exact hC.skip b5o hq2)
    have h4:=r4;have hq2:=eqJ (l:=m) (a:=q) (b:=q - 1) (by simpa [and_assoc] using r4) (by simp only [bh];omega) (by simp only [bh];omega);refine w_6 ?_
    first | (refine lpz (p + 1, q + 1, m.set p (m.getD q default)) ⟨⟨⟨_, rfl, (coi (by first | rfl | (dsimp only; omega)))⟩, ⟨_, rfl, (coi (by first | rfl | (dsimp only; omega)))⟩, tt⟩, ⟨⟨_, rfl, (acx id hml.symm b5o (by dsimp only; omega) (by simp only [bh]; omega))⟩, trivial⟩⟩ ?_; exact hC.keep b5o hq2)
          | (refine lpz (p,q + 1,m) ⟨⟨⟨_,rfl,(coi b6c)⟩,⟨_,rfl,(coi b6c)⟩,tt⟩,uu⟩ ?_;exact hC.skip b5o hq2)
   simp only [fy,bh,b34] at h3;refine w_6 ?_;refine r9 0 true ?_;refine w_5 ?_;refine au2 rfl rfl rfl rfl rfl ?_;refine w_2 ?_;refine hrr ?_;exact ⟨_,_,rfl,b69,aqp hC b5o (by simp [bh]),trivial⟩
  have h2:=r2;have hq:=neJ (l:=l) (a:=k) (b:=k - 1) (by simpa [and_assoc] using r2) rfl b5o;refine w_6 ?_;refine lpz (k + 1) kk ?_;refine ⟨by omega,by show k + 1 <= _;omega,fun j h1 h2=>?_⟩
  rcases b55 (b5j h2) with h | h
  · exact hI j h1 h
  subst h;exact hq
 refine w_6 ?_;refine bf 2 rfl rfl rfl ?_;refine hrr ?_;exact ⟨_,_,rfl,b69,aem (k:=k) b5o hI,trivial⟩
abbrev vh (v:Val):List Value:=[.int .i64 v.kind, .int .i64 v.num, .string v.str]
def ats (v:Val):∀ j,j < 3 -> (PV.raw ((vh v).getD j (.bool false))) = v.c j:=ada rfl rfl rfl
def am1 (g:Nat) (caps:Nat -> PV) (hg:∀ args w,(callFunc g args).run b6e w = .ok (.enter g args) w) (hc:∀ x y:Val,a8 b6e g [x.pc,y.pc] (aa [pI (iz x y)])) (id:Nat) (l:List Val) (hsz:l.length <= 8589934592) :
 c8 b6e 62 [.one (.ref id l.length), .one (.p (.fn g 0 caps))] [(id, .arr true 3 114 l.length (lf (fun v j=>.raw ((vh v).getD j (.bool false))) l))] (.tup []) [(id, .arr true 3 114 l.length (lf (fun v j=>.raw ((vh v).getD j (.bool false))) (a2k iz l)))] [id] :=
 ag7 Tryz.laysSortV 3 b5t Tryz.isAgg114 Tryz.sizeOf114 vh (fun _=>rfl) (fun x v hv=>by
  rcases b33.1 hv with rfl | hv
  · rfl
  rcases b33.1 hv with rfl | hv
  · rfl
  rcases b33.1 hv with rfl | hv
  · rfl
  cases hv) iz ol.swo ol.eq g caps hg (fun x y=>hc x y) id 114 l hsz
def asz {wr wr':Bool} {n:Nat} {e:TypeId} {l:List Val} (hw:wr' = true -> wr = true):CoO (.arr wr 3 e n (lf (fun v j=>.raw ((vh v).getD j (.bool false))) l)) (.arr wr' 3 e n (lf Val.c l)) :=
 ⟨hw,rfl,rfl,rfl,fun i j hi hj=>CoP.of_eq (ats _ j hj)⟩
def co_encV' {wr wr':Bool} {n:Nat} {e:TypeId} {l:List Val} (hw:wr' = true -> wr = true):CoO (.arr wr 3 e n (lf Val.c l)) (.arr wr' 3 e n (lf (fun v j=>.raw ((vh v).getD j (.bool false))) l)) :=
 ⟨hw,rfl,rfl,rfl,fun i j hi hj=>CoP.of_eq (ats _ j hj).symm⟩
def att (id:Nat) (l:List Val) (hsz:l.length <= 8589934592) (caps:Nat -> PV) :
 c8 b6e 62 [.one (.ref id l.length), .one (.p (.fn 63 0 caps))] [(id, .arr true 3 114 l.length (lf (fun v j=>.raw ((vh v).getD j (.bool false))) l))] (.tup []) [(id, .arr true 3 114 l.length (lf (fun v j=>.raw ((vh v).getD j (.bool false))) (a2k iz l)))] [id] :=
 am1 63 caps (enters_of Tryz.func63 (by kernel_rfl) rfl) arw id l hsz
end
section
abbrev a4j:PV:=.sl 0 3 true (lf Val.c [])
def tw (R:List Row) (a:Nat):Nat -> Nat -> PV:=fun i _=>if i < a then vals (yn R i) else a4j
section
variable {R:List Row} {a:Nat}
def ari {j:Nat}:tw R a a j = a4j:=if_neg (Nat.lt_irrefl a)
def akq {j:Nat}:CoP (vals (yn R a)) (tw R (a + 1) a j):=CoP.of_eq (if_pos (Nat.lt_succ_self a)).symm
variable {n:Nat}
def aqn:∀ i,i < n -> i ≠ a -> CoP (tw R a i 0) (tw R (a + 1) i 0):=fun i _ h=>by
 refine CoP.of_eq ?_;unfold tw;by_cases h1:i < a
 · rw [if_pos h1,if_pos b5o]
 rw [if_neg h1,if_neg b5o]
variable {e:TypeId} {f:Nat -> Nat -> PV}
def ak8 {n':Nat} (hn:n' = n) (hf:∀ i,CoP (f i 0) a4j):CoO (.arr true 1 e n f) (.arr true 1 e n' (tw R 0)):=by
 subst hn;refine ⟨fun h=>h,rfl,rfl,rfl,fun i j hi hj=>?_⟩;obtain rfl:j = 0:=by omega
 have:tw R 0 i 0 = a4j:=if_neg b5o;rw [this];exact hf i
variable {cl:Bool}
def aln:CoP (.sl n 1 cl (tw R n)) (po (bn R n)):=by
 refine CoP.sl ug (.inl rfl) (fun h=>by cases h) fun i j hi hj=>CoP.of_eq ?_;show tw R n i j = vals ((bn R n).getD i default);rw [ajd hi];exact if_pos hi
def aj2 {s:Nat}:CoP (.sl 0 s true f) a4j:=CoP.sl rfl (.inr rfl) (fun h=>h) fun i j hi _=>absurd hi (b2y i)
def x2:(o7 R a).length = R.length:=b3l _
variable {g:Nat -> Nat -> PV}
def ai8 {i:Nat} (hi:i < R.length) (h:∀ j,j < 3 -> CoP (g 0 j) (((R.getD i default).vals.getD a default).c j)):
 CoO (.arr true 3 e (i + 1) (cq i (lf Val.c (o7 R a)) g)) (.arr true 3 e (i + 1) (lf Val.c (o7 R a))) :=
 fq (fun h=>h) fun j hj=>by
  show CoP _ (((o7 R a).getD i default).c j)
  have:(o7 R a).getD i default = (R.getD i default).vals.getD a default:=by
   unfold o7;simp [List.getD,hi]
  rw [this];exact h j hj
variable {l:List Val}
def aph {wr wr':Bool} (hw:wr' = true -> wr = true) (hn:n = l.length):CoO (.arr wr 3 e n (lf Val.c l)) (.arr wr' 3 e l.length (lf (fun v j=>.raw ((vh v).getD j (.bool false))) l)):=by subst hn;exact co_encV' hw
def co_encL' {wr wr':Bool} (hw:wr' = true -> wr = true) (hn:n = l.length):CoO (.arr wr 3 e n (lf (fun v j=>.raw ((vh v).getD j (.bool false))) l)) (.arr wr' 3 e l.length (lf Val.c l)):=by subst hn;exact asz hw
variable {s:AS}
def an0 {n':Nat} (hn:n' = n) (hf:∀ i,CoP (f i 0) (.raw (.map none))):CoO (.arr true 1 e n f) (.arr true 1 e n' (lvT R s 0)):=by
 subst hn;refine ⟨fun h=>h,rfl,rfl,rfl,fun i j hi hj=>?_⟩;obtain rfl:j = 0:=by omega
 have:lvT R s 0 i 0 = .raw (.map none):=if_neg b5o;rw [this];exact hf i
def as1 {k:Nat} {f:MK -> Option PV} (hf:∀ m,f m = none):CoO (.mp .str 0 f) (.mp .str 0 (rp (R.take 0) s k)):=by
 refine ⟨rfl,b2x _,fun m=>?_⟩;rw [hf m]
 cases m with
 | i q n=>exact CoM.refl _
 | s b=>exact CoM.refl _
def are {k i:Nat} (hi:i < R.length) {e:ByteArray} (he:e = fz ((R.getD i default).vals.take k) s):
 CoO (.mp .str (i + 1) (tl (rp (R.take i) s k) (.s e) (.raw (.bool true)))) (.mp .str (i + 1) (rp (R.take (i + 1)) s k)):=by
 subst he;refine ⟨rfl,b2x _,fun m=>CoM.of_eq ?_⟩
 cases m with
 | i q n=>rfl
 | s b =>
  show (bif decide (b = fz ((R.getD i default).vals.take k) s) then some (PV.raw (.bool true)) else (if ky (R.take i) s k b = true then some (.raw (.bool true)) else none)) = if ky (R.take (i + 1)) s k b = true then some (.raw (.bool true)) else none
  rw [agc hi];by_cases hb:b = fz ((R.getD i default).vals.take k) s
  · subst hb
    simp
  have h1:decide (b = fz ((R.getD i default).vals.take k) s) = false:=decide_eq_false hb;have h2:decide (fz ((R.getD i default).vals.take k) s = b) = false:=decide_eq_false fun e=>hb e.symm;rw [h1,h2,Bool.or_false];rfl
def aws {k M:Nat}:∀ i j,i < n -> j < 1 -> (∃ k',fc k (.ref M 0) (lvT R s k) i j = .ref M k' /\ k' = 0 /\ CoP (mpP .str R.length (rp (R.take R.length) s k)) (lvT R s (k + 1) i j)) \/ CoH (fc k (.ref M 0) (lvT R s k) i j) (.p (lvT R s (k + 1) i j)):=fun i j hi hj=>by
 by_cases h:i = k
 · subst h
   refine .inl ⟨0,if_pos rfl,rfl, ?_⟩;rw [b37];exact CoP.of_eq (if_pos (Nat.lt_succ_self i)).symm
 refine .inr ?_;unfold fc;rw [if_neg h];refine CoP.of_eq ?_;unfold lvT;by_cases h1:i < k
 · rw [if_pos h1,if_pos b5o]
 rw [if_neg h1,if_neg b5o]
def aty:CoP (.sl (n + 1) 1 cl (lvT R s (n + 1))) (.sl (n + 1) 1 false (lvF R s)) :=
 CoP.sl rfl (.inl rfl) (fun h=>by cases h) fun i j hi hj=>CoP.of_eq (if_pos hi)
variable {ps:List AS}
def an7 {i:Nat} (hg:g 0 0 = .sl (n + 1) 1 cl (lvT R (ps.getD i default) (n + 1))):
 CoO (.arr true 1 e (i + 1) (cq i (lf (lvC R n) ps) g)) (.arr true 1 e (i + 1) (lf (lvC R n) ps)) :=
 fq (fun h=>h) fun j hj=>by
  obtain rfl:j = 0:=by omega
  rw [hg];exact aty
def an3 {k:Nat} (hk:k <= l.length):CoP (.sl (fy (bh n (some (k:Int))) none) 3 cl (np (lf Val.c l) none)) (vals (l.take k)):=a6g hk
def a49 {l:List (List Val)}:(ju l).length = l.length:=by simp [ju]
def adk {l:List (List Val)} {i:Nat} (hi:i < l.length) (h0:CoP (g 0 0) (.raw (.int .i64 ((i:Int) + 1)))) (h1:CoP (g 0 1) (vals (l.getD i default))):
 CoO (.arr true 2 e (i + 1) (cq i (lf Row.c (ju l)) g)) (.arr true 2 e (i + 1) (lf Row.c (ju l))) :=
 fq (fun h=>h) fun j hj=>by
  show CoP _ (Row.c ((ju l).getD i default) j)
  have:(ju l).getD i default = ⟨(i:Int) + 1,l.getD i []⟩:=by
   unfold ju;simp [List.getD,hi]
  rw [this]
  rcases (by omega:j = 0 \/ j = 1) with rfl | rfl
  · exact h0
  exact h1
variable {t:Tbl}
def arv (h:¬ ce t = 0):m7 t ps = ce t:=if_pos h
def ary (h1:ce t = 0) (h:¬ lvE t.attrs.length ps = 0):m7 t ps = lvE t.attrs.length ps:=by unfold m7;rw [if_neg (by simp [h1]),if_pos h]
def asy (h1:ce t = 0) (h2:lvE t.attrs.length ps = 0) (h:(1000:Int) < ((k8 t.rows ps t.attrs.length).length:Int)):m7 t ps = 3:=by
 unfold m7;rw [if_neg (by simp [h1]),if_neg (by simp [h2]),if_pos b5o]
def aep (h1:ce t = 0) (h2:lvE t.attrs.length ps = 0) (h:¬ (1000:Int) < ((k8 t.rows ps t.attrs.length).length:Int)):m7 t ps = 0:=by
 unfold m7;rw [if_neg (by simp [h1]),if_neg (by simp [h2]),if_neg b5o]
def a6r {e:Int} (h:m7 t ps = e) (he:e ≠ 0):a1a t ps = T0:=if_neg (by rw [h];exact he)
def afo (h:m7 t ps = 0):a1a t ps = ⟨t.name,t.attrs,ju (k8 t.rows ps t.attrs.length)⟩:=if_pos h
def aqa {n:Int} (h:lvE n ps = 0):0 < ps.length:=by
 cases ps with
 | nil =>
  exfalso;unfold lvE at h
  repeat' split at h
  all_goals first | omega | (simp at * <;> omega)
 | cons x l=>simp
def apw {n:Int} (h:lvE n ps = 0):ps.length <= 64:=by
 unfold lvE at h
 repeat' split at h
 all_goals omega
def ahx {n:Int} (h:lvE n ps = 0):0 <= n /\ n <= 8:=by
 unfold lvE at h
 repeat' split at h
 all_goals omega
end
end
section
abbrev RSt:=Bool × Int × Int × Int
abbrev RSt.c (s:RSt):Nat -> PV:=fun j=>[.raw (.bool s.1), .raw (.int .i64 s.2.1), .raw (.int .i64 s.2.2.1), .raw (.int .i64 s.2.2.2)].getD j .any
abbrev RSt.pc (s:RSt):PC:=.agg [.raw (.bool s.1), .raw (.int .i64 s.2.1), .raw (.int .i64 s.2.2.1), .raw (.int .i64 s.2.2.2)]
abbrev ag4 (l:List RSt):PV:=psl 4 RSt.c l
def St.r (s:St):RSt:=(s.1,(s.2.1:Int),(s.2.2.1:Int),(s.2.2.2:Int))
def aes {l:List St}:CoP (stl l) (ag4 (l.map St.r)):=by
 refine CoP.sl (b3l _) (.inl rfl) (fun h=>h) fun i j hi hj=>CoP.of_eq ?_;show St.c (l.getD i default) j = RSt.c ((l.map St.r).getD i default) j;have:(l.map St.r).getD i default = St.r (l.getD i default):=by simp [List.getD,hi]
 rw [this];rfl
abbrev vj (a:Int) (l:List Rw) (p m:List Fd) (s:RSt):Int × List Rw × Int:=cn a l p m s.1 s.2.1 s.2.2.1 s.2.2.2
def sj (n:Int) (p m:List Fd):Int -> List Rw -> List RSt -> Bool
 | _,l,[]=>fg n l
 | a,l,s :: r=>if (vj a l p m s).2.2 = 0 then sj n p m (vj a l p m s).1 (vj a l p m s).2.1 r else false
def qn (n:Int) (ps:List AS) (p m:List Fd) (sts:List RSt):Bool:=decide (lvE n ps = 0) && (decide (bi n p m = 0) && sj n p m n (ae (ah n ps)) sts)
structure y9 (n:Int) (ps:List AS) (p m:List Fd) (sts:List RSt) (x:Nat × Int × List Rw × Int):Prop where
 le:x.1 <= sts.length
 ok:x.2.2.2 = 0 -> sj n p m n (ae (ah n ps)) sts = sj n p m x.2.1 x.2.2.1 (sts.drop x.1)
 no:¬ x.2.2.2 = 0 -> sj n p m n (ae (ah n ps)) sts = false
section
variable {n:Int} {ps:List AS} {p m:List Fd} {sts:List RSt}
def y9.start:y9 n ps p m sts (0,n,ae (ah n ps),0):=⟨b2z _,fun _=>rfl,fun h=>absurd rfl h⟩
section
variable {x:Nat × Int × List Rw × Int}
def y9.step (h:y9 n ps p m sts x) (hi:x.1 < sts.length) (h0:x.2.2.2 = 0):y9 n ps p m sts (x.1 + 1,(vj x.2.1 x.2.2.1 p m (sts.getD x.1 default)).1,(vj x.2.1 x.2.2.1 p m (sts.getD x.1 default)).2.1,(vj x.2.1 x.2.2.1 p m (sts.getD x.1 default)).2.2):=by
 have e:sts.drop x.1 = sts.getD x.1 default :: sts.drop (x.1 + 1):=by
  rw [b4r hi,b2t,b2s hi];rfl
 have h1:=h.ok h0;rw [e,sj] at h1;refine ⟨hi,fun h2=>?_,fun h2=>?_⟩
 · rw [h1,if_pos h2]
 rw [h1,if_neg h2]
def y9.fin (h:y9 n ps p m sts x) (hi:¬ x.1 < sts.length) (h0:x.2.2.2 = 0):sj n p m n (ae (ah n ps)) sts = fg n x.2.2.1:=by
 rw [h.ok h0,List.drop_of_length_le b5o,sj]
def abj (h:¬ lvE n ps = 0):qn n ps p m sts = false:=by unfold qn;rw [decide_eq_false h];rfl
def ab8 (h:¬ bi n p m = 0):qn n ps p m sts = false:=by unfold qn;rw [decide_eq_false h];simp
def a4d (h:lvE n ps = 0) (h2:bi n p m = 0):qn n ps p m sts = sj n p m n (ae (ah n ps)) sts:=by unfold qn;rw [decide_eq_true h,decide_eq_true h2];rfl
def ac0 (h:lsC n ps p m = 0):lvE n ps = 0 /\ bi n p m = 0 /\ (lsT n ps p m).2.2 = 0 /\ lcR n ps p m = ((n,ae (ah n ps)),(lsT n ps p m).1,(lsT n ps p m).2.1,(lsT n ps p m).2.2):=by
 obtain ⟨h1,h2⟩:=w9 h;exact ⟨h1,h2,(a56 h1 h2).symm.trans h,aga h1 h2⟩
def adb (h:¬ lsC n ps p m = 0):prS n ps p m = [] /\ prC n ps p m = lsC n ps p m:=by
 have h':¬ (rcR n ps p m).2.2 = 0:=by rw [ou];exact h
 exact ⟨if_neg h',by unfold prC;rw [if_neg h',ou]⟩
def al0 (h:lsC n ps p m = 0) {i:Nat} (hi:i <= (lsT n ps p m).1.length) (hI:∀ j,j < i -> fg n ((trL n p m (ae (ah n ps)) (lsT n ps p m).1).getD j default) = false)
 (hf:fg n ((trL n p m (ae (ah n ps)) (lsT n ps p m).1).getD i default) = true):prS n ps p m = (lsT n ps p m).1.take i /\ prC n ps p m = 0:=by
 have e:=a16 (n:=n) (ps:=ps) (p:=p) (m:=m) h
 have hx:prX n ps p m = (i:Int):=by
  unfold prX;rw [e];refine a0s (p:=fun a:Int × List Rw=>fg n a.2) (i:=i) (by rw [t8];omega) (fun j hj=>?_) ?_
  · show fg n _ = false
    rw [a0r b5o];exact hI j hj
  show fg n _ = true;rw [a0r hi];exact hf
 constructor
 · unfold prS
   rw [hx,e,if_pos rfl,if_neg b5o];rfl
 unfold prC;rw [hx,e,if_pos rfl,if_neg b5o]
def aev (h:lsC n ps p m = 0) (hI:∀ j,j < (lsT n ps p m).1.length + 1 -> fg n ((trL n p m (ae (ah n ps)) (lsT n ps p m).1).getD j default) = false):prS n ps p m = [] /\ prC n ps p m = 11:=by
 have e:=a16 (n:=n) (ps:=ps) (p:=p) (m:=m) h
 have hx:prX n ps p m < 0:=by
  unfold prX;rw [e]
  have:idx (fun a:Int × List Rw=>fg n a.2) (gi n p m (ae (ah n ps)) (lsT n ps p m).1) = -1:=a0a fun j hj=>by
   rw [t8] at hj;rw [a0r b5o];exact hI j hj
  show idx _ (gi n p m (ae (ah n ps)) (lsT n ps p m).1) < 0;omega
 constructor
 · unfold prS
   rw [e,if_pos rfl];exact if_pos hx
 unfold prC;rw [e,if_pos rfl];exact if_pos hx
end
end
def za (r:Rw):List Val:=r.map fun z=>⟨1,z,emp⟩
def x3 (l:List Rw):List Row:=(List.range l.length).map fun (i:Nat)=>⟨(i:Int) + 1,za (l.getD i default)⟩
def qp (n:Int) (ps:List AS) (p m:List Fd):Int:=if lsC n ps p m ≠ 0 then lsC n ps p m else if fg n (lsT n ps p m).2.1.2 = true then 10 else 0
def a5r (n:Int) (ps:List AS) (p m:List Fd):Tbl:=if qp n ps p m = 0 then ⟨⟨#[116]⟩,jm.take n.toNat,x3 (lsT n ps p m).2.1.2⟩ else T0
section
variable {n:Int} {ps:List AS} {p m:List Fd}
def ajy (h:¬ lsC n ps p m = 0):qp n ps p m = lsC n ps p m /\ a5r n ps p m = T0:=by
 have e:qp n ps p m = lsC n ps p m:=if_pos h;exact ⟨e,if_neg (by rw [e];exact h)⟩
def au9 (h:lsC n ps p m = 0) (hf:fg n (lsT n ps p m).2.1.2 = true):qp n ps p m = 10 /\ a5r n ps p m = T0:=by
 have e:qp n ps p m = 10:=by unfold qp;rw [if_neg (by simp [h]),if_pos hf]
 exact ⟨e,if_neg (by rw [e];decide)⟩
def awl (h:lsC n ps p m = 0) (hf:fg n (lsT n ps p m).2.1.2 = false):qp n ps p m = 0 /\ a5r n ps p m = ⟨⟨#[116]⟩,jm.take n.toNat,x3 (lsT n ps p m).2.1.2⟩:=by
 have e:qp n ps p m = 0:=by unfold qp;rw [if_neg (by simp [h]),if_neg (by simp [hf])]
 exact ⟨e,if_pos e⟩
end
def akl {a:Nat} (h:a < 8):Utf8.encode (97 + (a:Int)) = jm.getD a default:=by
 have:∀ a,a < 8 -> Utf8.encode (97 + ((a:Nat):Int)) = jm.getD a default:=by decide
 exact this a h
def ang {r:Rw} {k:Nat} (hk:k < r.length):(za r).getD k default = ⟨1,r.getD k default,emp⟩:=by unfold za;simp [List.getD,hk]
def anr {r:Rw}:(za r).length = r.length:=b3l _
def am2 {l:List Rw}:(x3 l).length = l.length:=by simp [x3]
def anu {l:List Rw} {i:Nat} (hi:i < l.length):(x3 l).getD i default = ⟨(i:Int) + 1,za (l.getD i default)⟩:=by unfold x3;simp [List.getD,hi]
def a2q (n:Int) (a b:AS) (l:List Fd):Bool:=decide (c6 n l = 0) && (decide (a ||| b = ax n) && (decide (sub a (clo l (a &&& b))) || decide (sub b (clo l (a &&& b)))))
def ajx {n:Int} {l:List Fd} (h:c6 n l = 0):0 <= n /\ n <= 16:=⟨(rz h).1,(rz h).2.1⟩
def a4h {n:Int} {a b:AS} {l:List Fd} (h:¬ c6 n l = 0 \/ ¬ a ||| b = ax n):a2q n a b l = false:=by
 unfold a2q
 rcases h with h | h
 · rw [decide_eq_false h];rfl
 rw [decide_eq_false h];simp
def wa {n:Int} {a b:AS} {l:List Fd} (h:c6 n l = 0) (h2:a ||| b = ax n):a2q n a b l = (decide (sub a (clo l (a &&& b))) || decide (sub b (clo l (a &&& b)))):=by
 unfold a2q;rw [decide_eq_true h,decide_eq_true h2];rfl
end
section
open Go.Proofs Go.Proofs.YteklilhbjjofbaaGreatDoor
open Go.RowKit Go.ChangeShapes Go.WideShapes Go.ChangeAt
def azo:RdB b6e 90 2 Dp.c fun _ _=>True:=by
 intro H enc w sp held fuel cs x h;obtain ⟨hl,n,hf⟩:=alr Tryz.underlying90 h;obtain ⟨y0,e0⟩:=hf 0 b5o;obtain ⟨y1,e1⟩:=hf 1 b5o;have hc:b6e.cellsOf 5 = 1:=by kernel_rfl
 obtain ⟨a0,_,h0⟩:=gl (off:=0) (fun _ _ _ _ _=>trivial) rd5.toB (by simpa using e0);obtain ⟨a1,_,h1⟩:=gl (off:=1) (fun _ _ _ _ _=>trivial) rd5.toB (by simpa [hc] using e1);refine ⟨hl.trans b62,(⟨a0,a1⟩:Dp),trivial,fun j hj=>?_⟩
 match j,hj with
 | 0,_=>exact h0 0 b5o
 | 1,_=>exact h1 0 b5o
def aud:RdB b6e 30 1 (a6w 2 Dp.c) fun b l=>l.length <= b :=
 (a03 (B:=fun _ _=>True) (fun _ _ _ _ _=>trivial) Tryz.underlying30 b62 b5o azo).co id (fun b a h=>h.1) fun a j hj=>CoP.refl _
abbrev Rcp.c (d:Rcp):Nat -> PV:=fun j=>[.raw (.int .u8 (d.n.toNat:Int)),dpl d.f,dpl d.m,psl 1 u8C d.p].getD j .any
def avg:RdB b6e 33 4 Rcp.c fun b d=>d.f.length <= b /\ d.m.length <= b /\ d.p.length <= b:=by
 intro H enc w sp held fuel cs x h;obtain ⟨hl,n,hf⟩:=y8 Tryz.underlying33 h;obtain ⟨y0,e0⟩:=hf 0 _ rfl;obtain ⟨y1,e1⟩:=hf 1 _ rfl;obtain ⟨y2,e2⟩:=hf 2 _ rfl;obtain ⟨y3,e3⟩:=hf 3 _ rfl;obtain ⟨a0,_,h0⟩:=gl (fun _ _ _ _ _=>trivial) rd5.toB e0;obtain ⟨a1,b1,h1⟩:=gl (B:=fun b (l:List Dp)=>l.length <= b) (fun _ _ _ h k=>b3r k h) aud e1;obtain ⟨a2,b2,h2⟩:=gl (B:=fun b (l:List Dp)=>l.length <= b) (fun _ _ _ h k=>b3r k h) aud e2;obtain ⟨a3,b3,h3⟩:=gl (B:=fun b (l:List (BitVec 8))=>l.length <= b) (fun _ _ _ h k=>b3r k h) az6 e3;refine ⟨hl.trans b62,(⟨a0,a1,a2,a3⟩:Rcp),⟨b1,b2,b3⟩,fun j hj=>?_⟩
 match j,hj with
 | 0,_=>exact h0 0 b5o
 | 1,_=>exact h1 0 b5o
 | 2,_=>exact h2 0 b5o
 | 3,_=>exact h3 0 b5o
def aol:b6e.readableRec 33 = true /\ 33 < b6e.types.size:=⟨by kernel_rfl,of_decide_eq_true b62⟩
def ap2:Rd b6e 22 1 (a6w 1 sC):=alk Tryz.underlying22 b62 b5o azb
def aii:b6e.readableRec 22 = true /\ 22 < b6e.types.size:=⟨by kernel_rfl,of_decide_eq_true b62⟩
def ati:b6e.readableRec 5 = true /\ 5 < b6e.types.size:=⟨by kernel_rfl,of_decide_eq_true b62⟩
def axy:b6e.readableRec 56 = true /\ 56 < b6e.types.size:=awz
end
section
open Go.Proofs
def aa7:goodFn b6e 21:=wgx Tryz.func21
def aax (n:Int) (ps:List AS) (p m:List Fd):a8 b6e 21 [pI n,pP (asl ps),pP (fdl p),pP (fdl m)] (aa [pP (stl (prS n ps p m)),pI (prC n ps p m)]):=by
 refine hpx (nt:=55) Tryz.func21 ?_;refine dq ?_;refine qcx ab0 (a5u n ps p m) ?_;refine w_5 ?_;refine m9 0 ?_;refine m9 1 ?_;refine dq ?_;refine hcn (fun h0=>?_) (fun h0=>?_)
 · refine w_6 ?_;refine hrr ?_;obtain ⟨e1,e2⟩:=adb (p:=p) (m:=m) (n:=n) (ps:=ps) (by rw [<- gp];assumption);exact f9 rfl rfl (⟨(by rw [e1];exact CoC.one (CoP.sl rfl (.inr rfl) (fun _=>rfl) (fun i j hi _=>absurd hi (b2y i)))),cci (gp.trans e2.symm),trivial⟩)
 have hls:lsC n ps p m = 0:=gp.symm.trans b5p;obtain ⟨hv,hb,hc,hR⟩:=ac0 hls;have hz:=ahx hv;have htr:=a9h hv hb hc;have hfew:(lsT n ps p m).1.length <= 1300000:=a6z (p:=p) (m:=m) hv hb;refine w_6 ?_;refine ak (ι:=Nat) (ka 0 (ka 2 (ka 3 (ka 10 kn)))) km (fun i=>⟨[(14,some (vI i)),(11,some (vP (stl (lsT n ps p m).1)))],[(0,some (.box [.p (.raw (.int .i64 n)), .p (rl ((trL n p m (ae (ah n ps)) (lsT n ps p m).1).getD i default))]))]⟩) (fun i=>i <= (lsT n ps p m).1.length /\ (∀ j,j < i -> fg n ((trL n p m (ae (ah n ps)) (lsT n ps p m).1).getD j default) = false)) (fun i=>(lsT n ps p m).1.length - i) (0) (⟨b2z _,fun j hj=>absurd hj (b2y j)⟩) ⟨⟨zy,⟨_,rfl,(by rw [hR];exact CoR.refl _)⟩,trivial⟩,⟨⟨_,rfl,(by rw [hR,a6a];exact CoO.refl _)⟩,trivial⟩⟩ ?_;rintro i ⟨hi,hI⟩;refine w_7 ?_;refine qcx a4e (a0i n hz.1 b5o) ?_;refine qcx zr (a3x n ((trL n p m (ae (ah n ps)) (lsT n ps p m).1).getD i default) (bg n)) ?_;refine w_2 ?_;refine ai _ rfl (fun r1=>?_) (fun r1=>?_)
 · have h1:=r1;obtain ⟨e1,e2⟩:=al0 hls hi hI r1;refine v_8 ?_;exact by rw [e1,e2];exact ⟨CoC.one (a9e (by rw [b3h];dsimp only [fy,bh];omega) (fun a j=>by first | rfl | (simp;rfl))),CoC.refl _,trivial⟩
 have h1:=r1;have hno:fg n ((trL n p m (ae (ah n ps)) (lsT n ps p m).1).getD i default) = false:=r1;refine w_9 ?_;refine hcd (fun h2=>?_) (fun h2=>?_)
 ·
  obtain ⟨e1,e2⟩:=aev hls fun j hj=>by
   by_cases e:j = i
   · rw [e];exact hno
   exact hI j b5o
  refine v_5 ?_;exact by rw [e1,e2];exact ⟨CoC.one (CoP.sl rfl (.inr rfl) (fun _=>rfl) (fun i j hi _=>absurd hi (b2y i))),CoC.refl _,trivial⟩
 obtain ⟨hx1,hx2,hx3⟩:=aor b5o (ahg htr (i:=i) b5o);refine dh ?_;refine qcx (wgx Tryz.func48) (ai7 n ((trL n p m (ae (ah n ps)) (lsT n ps p m).1).getD i default) p m ((lsT n ps p m).1.getD i default) hx1 hb hx2 hx3) ?_;refine a6i ?_;refine lpz (i + 1) ⟨tt,⟨⟨_,rfl,(by rw [a0e b5o];exact CoO.refl _)⟩,trivial⟩⟩ ?_;refine ⟨by omega,fun j hj=>?_⟩;by_cases e:j = i
 · rw [e];exact hno
 exact hI j b5o
def aac:goodFn b6e 24:=wgx Tryz.func24
def a6j (n:Int) (ps:List AS) (p m:List Fd) (sts:List RSt):a8 b6e 24 [pI n,pP (asl ps),pP (fdl p),pP (fdl m),pP (ag4 sts)] (aa [pB (qn n ps p m sts)]):=by
 refine hpx (nt:=57) Tryz.func24 ?_;refine w_9 ?_;refine qcx a3r (a19 n ps) ?_;refine w_2 ?_;refine ag rfl rfl (fun r0=>?_) (fun r0=>?_)
 ·
  have h0:=tz2 (cz r0);(iterate 5 refine k9 (gtf r0) ?_);refine w_7 ?_
  exact hx8 rfl rfl rfl (⟨ccb (by first | exact (abj b5p).symm | exact (ab8 b5p).symm | (symm;simp_all [qn])),trivial⟩)
 have h0:=tz1 (cu r0);(iterate 3 refine qy ?_ (hg:=(gff r0)));refine qcx ace (a6v n p m) ?_ (hg:=(gff r0));refine qy ?_ (hg:=(gff r0));refine w_2 ?_;refine ai _ rfl (fun r1=>?_) (fun r1=>?_)
 · have h1:=tz2 (cz (af r0 r1));refine v_4 ?_;exact ⟨ccb (by first | exact (abj b5p).symm | exact (ab8 b5p).symm | (symm;simp_all [qn])),trivial⟩
 have h1:=tz1 (cu (af r0 r1));have hv:lvE n ps = 0:=by simp_all
 have hb:bi n p m = 0:=by simp_all
 have hz:=ahx hv;refine w_5 ?_;refine qcx (wgx Tryz.func53) (afg n ps hv) ?_;refine w_3 ?_;refine m9 0 ?_;refine dq ?_;refine ak (ι:=Nat × Int × List Rw × Int) (ka 0 (ka 2 (ka 3 (ka 11 (ka 32 (ka 33 kn)))))) km (fun x=>⟨[(12,some (vI x.2.2.2)),(34,some (vI x.1))],[(0,some (.box [.p (.raw (.int .i64 x.2.1)), .p (rl x.2.2.1)]))]⟩) (fun x=>y9 n ps p m sts x) (fun x=>sts.length - x.1) ((0,n,(ae (ah n ps)),0)) (y9.start) kk ?_;rintro x hC;have hle:=hC.le;refine c0 ?_;refine c5 32 rfl fun hsn=>?_;refine w_4 ?_;refine hcd (fun h2=>?_) (fun h2=>?_)
 ·
  refine w_7 ?_;refine m9 1 ?_;refine w_8 ?_;refine hcn (fun h3=>?_) (fun h3=>?_)
  · refine v_4 ?_;exact ⟨ccb (by rw [a4d hv hb];exact (hC.no b5p).symm),trivial⟩
  refine w_6 ?_;refine qcx (wgx Tryz.func48) (af7 x.2.1 x.2.2.1 p m (sts.getD x.1 default).1 (sts.getD x.1 default).2.1 (sts.getD x.1 default).2.2.1 (sts.getD x.1 default).2.2.2) ?_;refine dh ?_;refine lpz (x.1 + 1,(vj x.2.1 x.2.2.1 p m (sts.getD x.1 default)).1,(vj x.2.1 x.2.2.1 p m (sts.getD x.1 default)).2.1,(vj x.2.1 x.2.2.1 p m (sts.getD x.1 default)).2.2) ⟨⟨⟨_,rfl,(CoR.refl _)⟩,⟨_,rfl,(coi b5v)⟩,tt⟩,uu⟩ ?_;exact hC.step b5o b5p
 have hend:¬ x.1 < sts.length:=by omega
 refine w_6 ?_;refine ag rfl rfl (fun r4=>?_) (fun r4=>?_)
 ·
  have h4:=tz1 r4;(iterate 2 refine qy ?_ (hg:=(gtt r4)));refine qcx a4e (a0i n hz.1 b5o) ?_ (hg:=(gtt r4));refine qcx zr (a3x x.2.1 x.2.2.1 (bg n)) ?_ (hg:=(gtt r4));refine w_4 ?_
  exact hx8 rfl rfl rfl (⟨ccb (by rw [a4d hv hb];first | exact (hC.no b5p).symm | (refine Eq.trans ?_ (hC.no b5p).symm;simp_all;done) | (refine Eq.trans ?_ (hC.fin hend b5p).symm;first | rfl | (simp_all;done) | (simp_all;rfl))),trivial⟩)
 have h4:=tz2 r4;(iterate 4 refine k9 (gft r4) ?_);refine w_4 ?_
 exact hx8 rfl rfl rfl (⟨ccb (by rw [a4d hv hb];first | exact (hC.no b5p).symm | (refine Eq.trans ?_ (hC.no b5p).symm;simp_all;done) | (refine Eq.trans ?_ (hC.fin hend b5p).symm;first | rfl | (simp_all;done) | (simp_all;rfl))),trivial⟩)
def ath (n:Int) (ps:List AS) (p m:List Fd):a8 b6e 27 [pI n,pP (asl ps),pP (fdl p),pP (fdl m)] (aa [(a5r n ps p m).pc,pI (qp n ps p m)]):=by
 refine hpx (nt:=88) Tryz.func27 ?_;refine sx7 ?_;refine m9 0 ?_;refine w_8 ?_;refine qcx ab0 (a5u n ps p m) ?_;refine w_5 ?_;refine m9 1 ?_;refine m9 2 ?_;refine dq ?_;refine hcn (fun h0=>?_) (fun h0=>?_)
 · refine w_7 ?_;refine hrr ?_;obtain ⟨e1,e2⟩:=ajy (p:=p) (m:=m) (n:=n) (ps:=ps) (by rw [<- gp];assumption);exact f9 rfl rfl (⟨(by rw [e2];exact CoC.agg ⟨CoP.refl _,kg,kg,trivial⟩),cci (gp.trans e1.symm),trivial⟩)
 have hls:lsC n ps p m = 0:=gp.symm.trans b5p;obtain ⟨hv,hb,hc,hR⟩:=ac0 hls;have hz:=ahx hv;obtain ⟨sts0,lend,he0,_,htk,_⟩:=aa4 hv hb hc;have htok:tok n (lsT n ps p m).2.1.2 = true:=by rw [he0];exact htk
 obtain ⟨_,_,hl256,hlen⟩:=eu htok;refine w_6 ?_;refine qcx a4e (a0i n hz.1 b5o) ?_;refine qcx zr (a3x (lcR n ps p m).2.2.1.1 (lcR n ps p m).2.2.1.2 (bg n)) ?_;refine w_2 ?_;refine ai _ rfl (fun r1=>?_) (fun r1=>?_)
 ·
  have h1:=r1;have hf:fg n (lsT n ps p m).2.1.2 = true:=by have hq:=r1;rw [hR] at hq;exact hq
  refine w_6 ?_;refine hrr ?_;obtain ⟨e1,e2⟩:=au9 hls hf;exact f9 rfl rfl (⟨(by rw [e2];exact CoC.agg ⟨CoP.refl _,kg,kg,trivial⟩),cci e1.symm,trivial⟩)
 have h1:=r1;have hf:fg n (lsT n ps p m).2.1.2 = false:=by have hq:=r1;rw [hR] at hq;exact hq
 refine w_4 ?_;refine m9 3 ?_;refine w_9 ?_;refine eo 3 1 30 true 1 9 (lf a2v jm) b5t rfl rfl (CoP.sl rfl (.inr rfl) (fun h=>h) (fun i j hi _=>absurd hi (b2y i))) (.inr rfl) rfl rfl ?_;refine bw (ka 8 (ka 12 (ka 14 (ka 41 kn)))) (kb 0 (kb 2 km)) (fun a=>⟨[(42,some (vI a))],[(3,some (.box [.p (.raw (.string ⟨#[116]⟩)), .ref 30 a, .p (jo (.slice none 0 0))])),(30,some (.arr true 1 9 a (lf a2v jm)))]⟩) n.toNat kk ?_;rintro a ha;refine w_5 ?_;refine hcd (fun h2=>?_) (fun h2=>?_)
 · refine kw ?_;refine m9 4 ?_;refine r9 5 true ?_;refine w_7 ?_;exact lpx (a + 1) ⟨tt,⟨u9,⟨_,rfl,(fq (fun h=>h) (lt1 (CoP.of_eq (congrArg (fun s=>PV.raw (.string s)) (akl b5o)))))⟩,uu⟩⟩
 obtain rfl:a = n.toNat:=by omega
 refine w_3 ?_;refine fu 3 1 rfl rfl rfl rfl rfl ?_;refine w_7 ?_;refine eo 3 2 31 true 2 112 (lf Row.c (x3 (lsT n ps p m).2.1.2)) b5t rfl rfl (CoP.sl rfl (.inr rfl) (fun h=>h) (fun i j hi _=>absurd hi (b2y i))) (.inr rfl) rfl rfl ?_;refine bw (ka 8 (ka 14 kn)) (kb 0 km) (fun i=>⟨[(58,some (vI i)),(56,some (vP (rl (lsT n ps p m).2.1.2))),(57,some (vI (lsT n ps p m).2.1.2.length))],[(3,some (.box [.p (.raw (.string ⟨#[116]⟩)), .p (.sl n.toNat 1 false (lf a2v jm)), .ref 31 i])),(31,some (.arr true 2 112 i (lf Row.c (x3 (lsT n ps p m).2.1.2))))]⟩) ((lsT n ps p m).2.1.2.length) ⟨⟨zy,⟨_,rfl,(by rw [hR];exact CoR.refl _)⟩,⟨_,rfl,(by rw [hR];exact CoR.refl _)⟩,trivial⟩,uu⟩ ?_;rintro i hi;refine w_5 ?_;refine hcd (fun h3=>?_) (fun h3=>?_)
 ·
  refine mj ?_;refine m9 6 ?_;refine dh ?_;refine eo 6 1 32 true 3 114 (lf Val.c (za ((lsT n ps p m).2.1.2.getD i default))) b5t rfl rfl (CoP.sl rfl (.inr rfl) (fun h=>h) (fun i j hi _=>absurd hi (b2y i))) (.inr rfl) rfl rfl ?_;refine bw (ka 8 (ka 14 (ka 18 (ka 56 (ka 57 (ka 58 (ka 66 (ka 67 kn)))))))) (kb 3 (kb 31 (kb 0 km))) (fun k=>⟨[(68,some (vI k))],[(6,some (.box [.p (.raw (.int .i64 ((i:Int) + 1))), .ref 32 k])),(32,some (.arr true 3 114 k (lf Val.c (za ((lsT n ps p m).2.1.2.getD i default)))))]⟩) (((lsT n ps p m).2.1.2.getD i default).length) kk ?_;rintro k hk;have hrl:=hlen i b5o;refine w_5 ?_;refine hcd (fun h4=>?_) (fun h4=>?_)
  ·
   refine kj ?_;refine qcx (wgx Tryz.func58) (azz _) ?_;refine m9 7 ?_;refine r9 8 true ?_;refine w_8 ?_;refine ⟨k + 1, ?_, ?_, ?_⟩
   · show k + 1 <= _;omega
   · first | omega | (dsimp only;omega)
   exact ⟨tt,⟨u9,⟨_,rfl,(fq (fun h=>h) fun j hj=>by
   show CoP _ (Val.c ((za _).getD k default) j);rw [ang b5o];revert j
   exact ada (CoP.refl _) (CoP.refl _) (CoP.refl _))⟩,uu⟩⟩
  obtain rfl:k = ((lsT n ps p m).2.1.2.getD i default).length:=by omega
  refine cr ?_;refine fu 6 1 rfl rfl rfl rfl rfl ?_;refine w_4 ?_;refine m9 9 ?_;refine r9 10 true ?_;refine w_7 ?_;refine ⟨i + 1, ?_, ?_, ?_⟩
  · show i + 1 <= _;omega
  · first | omega | (dsimp only;omega)
  exact ⟨tt,⟨u9,⟨_,rfl,(fq (fun h=>h) fun j hj=>by
  show CoP _ (Row.c ((x3 (lsT n ps p m).2.1.2).getD i default) j);rw [anu b5o];revert j
  exact lt2 (CoP.refl _) (CoP.sl anr (.inl rfl) (fun h=>h) fun _ _ _ _=>CoP.refl _))⟩,uu⟩⟩
 obtain rfl:i = (lsT n ps p m).2.1.2.length:=by omega
 refine w_2 ?_;refine fu 3 2 rfl rfl rfl rfl rfl ?_;refine w_5 ?_;refine hrr ?_;obtain ⟨e1,e2⟩:=awl hls hf;exact f9 rfl rfl (⟨(by rw [e2];exact CoC.agg ⟨CoP.refl _,a6g (by show n.toNat <= 8;omega),CoP.sl am2 (.inl rfl) (fun h=>h) (fun _ _ _ _=>CoP.refl _),trivial⟩),cci e1.symm,trivial⟩)
def b07 (n:Int) (a b:AS) (l:List Fd):a8 b6e 38 [pI n,pA a,pA b,pP (fdl l)] (aa [pB (a2q n a b l)]):=by
 refine hpx (nt:=38) Tryz.func38 ?_;refine w_9 ?_;refine qcx (wgx Tryz.func78) (ajn n l) ?_;refine w_2 ?_;refine ag rfl rfl (fun r0=>?_) (fun r0=>?_)
 ·
  have h0:=tz2 (cz r0);(iterate 7 refine k9 (gtf r0) ?_);refine w_7 ?_
  exact hx8 rfl rfl rfl (⟨ccb (a4h (by first | exact .inl b5p | exact .inr (fun e=>absurd (show er .or .u32 (asI a) (asI b) = IntKind.wrap .u32 (1 * 2 ^ (min n.toNat 32)) - 1 by rw [qh hz.1 hz.2,bOr,e]) b5p))).symm,trivial⟩)
 have h0:=tz1 (cu r0);have hv:c6 n l = 0:=h0;have hz:=ajx hv;(iterate 5 refine qy ?_ (hg:=(gff r0)));refine rq rfl rfl rfl rfl (gff r0) ?_ (hp:=⟨aa8 hz.1 hz.2,a82 hz.1 hz.2⟩);refine qy ?_ (hg:=(gff r0));refine w_2 ?_;refine ai _ rfl (fun r1=>?_) (fun r1=>?_)
 · have h1:=tz2 (cz (af r0 r1));refine v_4 ?_;exact ⟨ccb (a4h (by first | exact .inl b5p | exact .inr (fun e=>absurd (show er .or .u32 (asI a) (asI b) = IntKind.wrap .u32 (1 * 2 ^ (min n.toNat 32)) - 1 by rw [qh hz.1 hz.2,bOr,e]) b5p))).symm,trivial⟩
 have h1:=tz1 (cu (af r0 r1));have hv:c6 n l = 0:=by simp_all
 have hz:=ajx hv;have hab:a ||| b = ax n:=i7.1 (by rw [<- bOr,<- qh hz.1 hz.2];first | assumption | exact b5h.1 b5p)
 refine w_7 ?_;refine rc rfl rfl rfl rfl rfl rfl (wgx Tryz.func79) (atp l (a &&& b)) (⟨CoC.refl _,cci (a26 _ _),trivial⟩) rfl rfl ?_;refine w_9 ?_;refine ag rfl rfl (fun r2=>?_) (fun r2=>?_)
 ·
  have h2:=tz1 r2;(iterate 4 refine k9 (gtf r2) ?_);refine w_3 ?_
  exact hx8 rfl rfl rfl (⟨ccb (by rw [wa hv hab];simp only [<- pl];simp_all),trivial⟩)
 have h2:=tz2 r2;(iterate 4 refine qy ?_ (hg:=(gff r2)));refine w_3 ?_
 exact hx8 rfl rfl rfl (⟨ccb (by rw [wa hv hab];simp only [<- pl];simp_all),trivial⟩)
end
end Go.Hx

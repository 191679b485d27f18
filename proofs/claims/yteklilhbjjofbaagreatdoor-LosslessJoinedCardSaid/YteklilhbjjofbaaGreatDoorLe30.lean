/- A part of the proof: SrK Jw2 Jn3 Jn5 Rb21 Jo2 Jr1 Jp1 Rj21 Ch15. -/
import Derived.Shelf.SlSortCmp.NoneTotal
import Derived.Test.YteklilhbjjofbaaGreatDoorLe26
import Derived.Test.YteklilhbjjofbaaGreatDoorLe28
import Derived.Test.YteklilhbjjofbaaGreatDoorLe29
set_option linter.all false
set_option maxRecDepth 100000
set_option maxHeartbeats 1000000
namespace Go.Hx
section
open Go.Proofs Go.RowKit Go.Sort
def a9r {α:Type} [Inhabited α] {enc:α -> List Value} {k:Nat} (hk:∀ x,(enc x).length = k) {l:List α} {i j:Nat} (hi:i < l.length) (hj:j < k) :
 (flatK enc k l.toArray).toList[i * k + j]? = some ((enc (l.getD i default)).getD j (.bool false)):=by
 have hlt:i * k + j < l.toArray.size * k:=by rw [b3f];exact se hi hj
 have hlt2:i * k + j < (flatK enc k l.toArray).size:=by rw [size_flatK];exact hlt
 have h:=get_flatK enc k l.toArray (i * k + j) hlt;have k0:0 < k:=by omega
 have e1:(i * k + j) / k = i:=(blk_iff k i _ k0).1 ⟨by omega,by omega⟩;have e2:(i * k + j) % k = j:=by rw [Nat.mod_eq_sub_div_mul,e1];omega
 rw [e1,e2,getElem!_pos (flatK enc k l.toArray) _ hlt2,getElem!_pos l.toArray i (by simpa using hi)] at h;rw [b46,b3e hlt2,h];have hj2:j < (enc l.toArray[i]).length:=by rw [hk];exact hj
 rw [getElem!_pos (enc l.toArray[i]) _ hj2];simp only [List.getElem_toArray,b2i,b2h hi,b3l] at hj2 ⊢;rw [b2h hj2];rfl
def agu {P:Program} {ρ:Go.Shelf.Ren} {α:Type} [Inhabited α] (L:SlLaysF0.n6 P ρ) (k:Nat) (hk0:0 < k) (aE:∀ w,(isAgg (ρ.t 24)).run P w = .ok true w) (zE:∀ w,(Go.sizeOf (ρ.t 24)).run P w = .ok k w) (enc:α -> List Value) (hk:∀ x,(enc x).length = k) (h1:∀ x,∀ v ∈ enc x,v.oneCell' = true)
 (cf:α -> α -> Int) (hO:SWO (ltOf cf)) (hT:∀ x y,(ltOf cf) x y = false -> (ltOf cf) y x = false -> x = y)
 (g:Nat) (caps:Nat -> PV) (hg:∀ args w,(callFunc g args).run P w = .ok (.enter g args) w) (hc:∀ x y,aa P g [.agg ((enc x).map .raw), .agg ((enc y).map .raw)] (af [.one (.raw (.int .i64 (cf x y)))])) (id:Nat) (e:TypeId) (l:List α) (hsz:l.length <= 8589934592) :
 ci P (ρ.f 6) [.one (.ref id l.length), .one (.p (.fn g 0 caps))] [(id, .arr true k e l.length (lf (fun x j=>.raw ((enc x).getD j (.bool false))) l))] (.tup [])
  [(id, .arr true k e l.length (lf (fun x j=>.raw ((enc x).getD j (.bool false))) (l.mergeSort fun x y=>!(ltOf cf) y x)))] [id]:=by
 intro w c us hM hus
 match us,hus with
 | [u,v],⟨hu,hv,_⟩ =>
  obtain ⟨cs,rfl,hcl,_⟩:=hv;have hcs:cs = []:=b3z hcl;subst hcs;have hl1:lk [(id,a6.arr true k e l.length (lf (fun x j=>.raw ((enc x).getD j (.bool false))) l))] id = some (.arr true k e l.length (lf (fun x j=>.raw ((enc x).getD j (.bool false))) l)):=by simp [lk]
  have hu2:=(hu.2.2 _ _ _ _ hl1 rfl).2 rfl;subst hu2;have hob:=hM.objs id _ hl1;obtain ⟨h0,hmax,h5⟩:=hob;have hlen:(l.mergeSort fun x y=>!(ltOf cf) y x).length = l.length:=b5g _
  have hev:∀ f':Nat -> Nat -> PV,Evo c (lk [(id,a6.arr true k e l.length (lf (fun x j=>.raw ((enc x).getD j (.bool false))) l))]) c (lk [(id,a6.arr true k e l.length f')]) id:=fun f' =>
   .inr (.inr ⟨_, .arr true k e l.length f',k,e,l.length,l.length,hl1,rfl,by simp [lk],rfl,b2j _,fun _=>rfl,fun _ _ _ _ _ _ _ h=>by cases h⟩)
  rcases b3t l.length with hz | hpos
  · have hl:l = []:=b3z hz
    subst hl
    have hform:∃ ad cap,c.own id = .slice ad 0 cap:=by
     rcases h5 with ⟨_,xs,h2,_⟩ | ⟨_,_,ad,cap,hv,_⟩
     · rcases h2.2 with ⟨hv,_⟩ | ⟨g,cap,cur,hv,_⟩
       · exact ⟨none,0,hv⟩
       exact ⟨_,cap,hv⟩
     exact ⟨ad,cap,hv⟩
    obtain ⟨ad,cap,hown⟩:=hform;have hms:([]:List α).mergeSort (fun x y=>!(ltOf cf) y x) = []:=by simp
    rw [hown,hms];refine (AnyF.slices_SortFunc_none { L with } ad cap (.func (.func g) #[] #[]) w).mono ?_;rintro e' w' ⟨rfl,rfl⟩
    exact ⟨_,c,rfl,⟨[],rfl,trivial⟩,hM,Below.refl _ _,fun _ _ _=>⟨rfl,rfl⟩,fun id0 ob b ho hb=>.inr ⟨id0,ob,ho,hb⟩,fun id0 hid=>by
     rw [b2u.1 hid]
     exact Evo.refl _ _ _⟩
  obtain ⟨h6,xs,h2,h4⟩:c.blk id = fh (c.own id) /\ ∃ xs,w.ownsRow 0 e k (c.own id) l.length xs /\ ∀ i j,i < l.length -> j < k -> ∃ x,xs[i * k + j]? = some x /\ ag c.imm (lf (fun x j=>.raw ((enc x).getD j (.bool false))) l i j) x:=by
   rcases h5 with h5 | ⟨h6 | h6,_⟩
   · exact h5
   · cases h6
   omega
  obtain ⟨hxl,hrow⟩:=h2
  rcases hrow with ⟨_,hz⟩ | ⟨b,cap,cur,hown,hbase,hheap,hnc,hcm,hcs,htake⟩
  · omega
  have hblk:c.blk id b:=by rw [h6,hown];rfl
  have hlt:b < w.heap.size:=(b2m.1 hheap).1
  have hcell:∀ t,t < l.length * k -> cur[t]? = some (flatK enc k l.toArray)[t]!:=fun t ht=>by
   have htk:t / k < l.length:=Nat.div_lt_of_lt_mul (by rw [Nat.mul_comm];exact ht);have hmk:t % k < k:=Nat.mod_lt _ hk0;have hdm:t / k * k + t % k = t:=by rw [Nat.mul_comm];exact Nat.div_add_mod t k
   obtain ⟨x,hx,hr⟩:=h4 (t / k) (t % k) htk hmk;have hf:=a9r (enc:=enc) hk htk hmk;rw [hdm] at hx hf;rw [<- htake,b3d,if_pos ht,b46] at hx;rw [hx];have hr:x = (enc (l.getD (t / k) default)).getD (t % k) (.bool false) /\ _:=hr;rw [hr.1];have hft:t < (flatK enc k l.toArray).size:=by rw [size_flatK,b3f];exact ht
   rw [b46,b3e hft] at hf;rw [getElem!_pos (flatK enc k l.toArray) _ hft];exact hf.symm
  have hH:HoldsK enc k w b 0 l.toArray:=fun j hj=>by
   have hj:j < l.length * k:=by rw [size_flatK,b3f] at hj;exact hj
   rw [b30];refine ⟨?_,by simp [World.frozen?,hheap]⟩;simp only [World.cell?,hheap,hcell j hj];rfl
  have hcmp:CmpLays P g #[] enc k cf b 0 l.toArray.size w:=by
   intro m os dk hdk x y
   have hcimm:∀ b' ob,c.imm b' = some ob -> (sortWorldK enc k w b 0 m dk os).heap[b']? = some ob:=fun b' ob hb'=>by
    have hne:b' ≠ b:=fun he=>by
     have:=hM.sep id _ b hl1 hblk;rw [<- he,hb'] at this;cases this
    have hw:=hM.imm b' ob hb';rw [show sortWorldK enc k w b 0 m dk os = sortWorld (fun x:Value=>x) w b 0 m (flatK enc k dk) os from rfl,xw (b2m.1 hw).1 hne];exact hw
   have hrep:∀ x,gv c.imm (.agg ((enc x).map .raw)) (.agg (enc x).toArray):=fun x=>⟨enc x,rfl,by
    have:∀ l:List Value,(∀ v ∈ l,v.oneCell' = true) -> dc c.imm (l.map .raw) l:=by
     intro l
     induction l with
     | nil=>intro _;trivial
     | cons v l ih=>exact fun h=>⟨⟨rfl,h v b5k⟩,ih fun u hu=>h u (by simp [hu])⟩
    exact this _ (h1 x)⟩
   have h:=hc x y (sortWorldK enc k w b 0 m dk os) c.imm [.agg (enc x).toArray, .agg (enc y).toArray] c.tab hcimm ⟨hrep x,hrep y,trivial⟩;refine h.mono ?_;rintro e' w' ⟨v,imm',rfl,hr,_,_,hb⟩;obtain ⟨q,os',hq⟩:=agp hb;exact ⟨by rw [hr.1],q,os',hq⟩
  have hS:=AnyQ.slices_SortFunc_total L k aE zE enc hk h1 cf hO g #[] b 0 cap l.toArray w hg hcmp hH hlt (by rw [b3f];omega) hT;rw [hown];refine Calls.mono hS ?_;rintro e' w' ⟨rfl,m,os,rfl⟩;generalize hSd:(l.mergeSort fun x y=>!(ltOf cf) y x) = S at *;rw [show sortWorldK enc k w b 0 m S.toArray os = sortWorld (fun x:Value=>x) w b 0 m (flatK enc k S.toArray) os from rfl]
  refine ⟨_,c,rfl,⟨[],rfl,trivial⟩,⟨fun id0 ob ho=>?_,fun id0 id1 ob0 ob1 b' ho0 ho1 _ _=>(lx ho0).1.trans (lx ho1).1.symm,fun b' ob hb'=>?_,fun id0 ob b' ho hb'=>?_⟩,ag3,
   fun b' hb' hno=>⟨xw hb' (fun he=>hno _ _ hl1 (by rw [he];exact hblk)),rfl⟩,fun id0 ob b' ho hb'=>.inr ⟨_,_,hl1,by rw [<- (lx ho).1];exact hb'⟩,fun id0 hid=>by
    rw [b2u.1 hid]
    exact hev _⟩
  · obtain ⟨rfl,rfl⟩:=lx ho
    refine ⟨h0,hmax, .inl ⟨h6,(flatK enc k S.toArray).toList,⟨by rw [b3a,size_flatK,b3f,hlen], .inr ⟨b,cap,putCells (fun x=>x) 0 (flatK enc k S.toArray) cur,hown,hbase,agn hheap,hnc,hcm,by simpa [putCells] using hcs, ?_⟩⟩,fun i j hi hj=>?_⟩⟩
    · have hle:l.length * k <= cap * k:=b2r _ hnc
      have:=alk (enc:=fun x:Value=>x) (d:=flatK enc k S.toArray) (cur:=cur) (by rw [size_flatK,b3f,hlen,hcs];exact hle);rw [size_flatK,b3f,hlen,List.map_id'] at this;exact this
    have hi':i < S.length:=by rw [hlen];exact hi
    refine ⟨_,a9r hk hi' hj, ?_⟩;refine ⟨rfl, ?_⟩;have hj2:j < (enc (S.getD i default)).length:=by rw [hk];exact hj
    rw [b2i,b2h hj2,b3l];exact h1 _ _ (b2q hj2)
  · have hne:b' ≠ b:=fun he=>by
     have:=hM.sep id _ b hl1 hblk;rw [<- he,hb'] at this;cases this
    have hw:=hM.imm b' ob hb';rw [xw (b2m.1 hw).1 hne];exact hw
  have:=(lx ho).1;subst this;exact hM.sep id0 _ b' hl1 hb'
 | [],h=>exact h.elim
 | [_],⟨_,h⟩=>exact h.elim
 | _ :: _ :: _ :: _,⟨_,_,h⟩=>exact h.elim
end
section
open Go.Proofs
def ar4 {α:Type} [Inhabited α] {cl:Bool} {c:α -> Nat -> PV} {x y z:α} {f:Nat -> Nat -> PV} (h0:CoP (f 0 0) (c x 0)) (h1:CoP (f 1 0) (c y 0)) (h2:CoP (f 2 0) (c z 0)):CoP (.sl 3 1 cl f) (psl 1 c [x,y,z]) :=
 CoP.sl rfl (.inl rfl) (fun h=>by cases h) fun i j hi hj=>by
  obtain rfl:j = 0:=by omega
  match i,hi with
  | 0,_=>exact h0
  | 1,_=>exact h1
  | 2,_=>exact h2
def aph (a b:Val):orF [fy a.kind b.kind,fy a.num b.num,j4 a.str b.str] = dl a b:=by
 have e:∀ x y:Int,sgn x y = fy x y:=fun _ _=>rfl;unfold dl orF;rw [e,e];by_cases h1:fy a.kind b.kind = 0
 · by_cases h2:fy a.num b.num = 0
   · by_cases h3:j4 a.str b.str = 0
     · simp [h1,h2,h3]
     simp [h1,h2,h3]
   simp [h1,h2]
 simp [h1]
def ahm (a:Int):aa b65 153 [pI a] (af [pB false]):=by
 refine hpx (nt:=6) Tryz.func153 ?_;refine j5 ?_;exact hx8 rfl rfl rfl (⟨ccb b5k,trivial⟩)
def aw6 (a b:Int):aa b65 104 [pI a,pI b] (af [pI (fy a b)]):=by
 refine hpx (nt:=20) Tryz.func104 ?_;refine w_7 ?_;refine qcx (wgx Tryz.func153) (ahm _) ?_;refine w_5 ?_;refine qcx (wgx Tryz.func153) (ahm _) ?_;refine agt ?_;refine hcd (fun h0=>?_) (fun h0=>?_)
 · refine v_4 ?_;exact ⟨cci b5z,trivial⟩
 refine w_8 ?_;refine hcd (fun h1=>?_) (fun h1=>?_)
 · refine v_4 ?_;exact ⟨cci b5z,trivial⟩
 refine v_5 ?_;exact ⟨cci b5z,trivial⟩
def as1 (a b:ByteArray):aa b65 105 [pS a,pS b] (af [pI (j4 a b)]):=by
 refine hpx (nt:=8) Tryz.func105 ?_;refine w_8 ?_;refine qcx apy (aqo _ _) ?_;refine v_2 ?_;exact CoL.refl _
def asm (a b:Val):aa b65 63 [a.pc,b.pc] (af [pI (dl a b)]):=by
 refine hpx (nt:=22) Tryz.func63 ?_;refine sx7 ?_;refine m9 0 ?_;refine m9 1 ?_;refine w_8 ?_;refine qcx (wgx Tryz.func103) (aof _ _) ?_;refine w_4 ?_;refine qcx (wgx Tryz.func104) (aw6 _ _) ?_;refine w_4 ?_;refine qcx (wgx Tryz.func105) (as1 _ _) ?_;refine m9 2 ?_;refine rc rfl rfl rfl rfl rfl rfl (wgx Tryz.func102) (cOr [fy a.kind b.kind,fy a.num b.num,j4 a.str b.str]) (⟨CoC.one (ar4 (CoP.refl _) (CoP.refl _) (CoP.refl _)),trivial⟩) rfl rfl ?_;refine v_3 ?_;exact ⟨cci (aph a b),trivial⟩
def ayp (n:Int):aa b65 58 [pI n] (af [(⟨1,n,emp⟩:Val).pc]):=by
 refine hpx (nt:=5) Tryz.func58 ?_;refine sx7 ?_;refine m9 0 ?_;refine v_7 ?_;exact CoL.refl _
def b61 {p:Prop} (h:p:=by (repeat' apply And.intro) <;> first | trivial | exact b2k rfl):p:=h
def b63 {p:Prop} (h:p:=by first | rfl | (dsimp only;omega)):p:=h
def au3 (l:List Val):ci b65 64 [.one (.ref 900 l.length)] [(900, .arr true 3 114 l.length (lf Val.c l))] (.v (.one (.p (vals (jb l))))) [] []:=by
 refine hfx (nt:=61) Tryz.func64 ?_;refine dn ?_;refine afr 900 rfl fun hlen=>?_;refine dy ?_;refine hcd (fun h0=>?_) (fun h0=>?_)
 · refine w_5 ?_;refine cz 2 rfl rfl rfl ?_;refine hrr ?_;exact ⟨_,_,rfl,b61,af6 (k:=l.length) (b2j _) (fun j h1 h2=>by omega),trivial⟩
 refine w_7 ?_;refine ai (ι:=Nat) (ka 0 kn) (kb 900 km) (fun k=>⟨[(3,some (vI k))],[]⟩) (fun k=>1 <= k /\ k <= l.length /\ ∀ j,0 < j -> j < k -> ¬ l.getD j default = l.getD (j - 1) default) (fun k=>l.length - k) (1) (⟨b2j _,by omega,fun j h1 h2=>by omega⟩) kk ?_;rintro k ⟨hk1,hk,hI⟩;refine w_8 ?_;refine hcd (fun h1=>?_) (fun h1=>?_)
 ·
  refine v2 ?_;refine aj _ rfl (fun r2=>?_) (fun r2=>?_)
  ·
   have h2:=r2;have hq:=eqJ (l:=l) (a:=k) (b:=k - 1) (by simpa [and_assoc] using r2) rfl b5h;refine j3 ?_;refine ai (ι:=Nat × Nat × List Val) (ka 0 (ka 4 kn)) km (fun x=>⟨[(3,some (vI x.1)),(5,some (vI ((x.2.1:Int) - k)))],[(900,some (.arr true 3 114 l.length (lf Val.c x.2.2)))]⟩) (fun x=>CpJ l k x.1 x.2.1 x.2.2) (fun x=>l.length - x.2.1) ((k,k + 1,l)) (CpJ.start hk1 b5h hI hq) ⟨⟨zy,⟨_,rfl,(coi b63)⟩,trivial⟩,uu⟩ ?_;rintro ⟨p,q,m⟩ hC;have hC0:=hC;obtain ⟨hml,hkq,hpq,hql,_,_⟩:=hC0;dsimp only at hC hml hkq hpq hql;refine w_8 ?_;refine hcd (fun h3=>?_) (fun h3=>?_)
   ·
    simp only [fu,bo,b41] at h3;refine v2 ?_;refine aj _ rfl (fun r4=>?_) (fun r4=>?_)
    ·
     have h4:=r4;have hq2:=azx (l:=m) (a:=q) (b:=q - 1) (by simpa [and_assoc] using r4) (by simp only [bo];omega) (by simp only [bo];omega);refine age ?_
     first | (refine lpz (p + 1, q + 1, m.set p (m.getD q default)) ⟨⟨⟨_, rfl, (coi (by first | rfl | (dsimp only; omega)))⟩, ⟨_, rfl, (coi (by first | rfl | (dsimp only; omega)))⟩, tt⟩, ⟨⟨_, rfl, (aau id hml.symm b5h (by dsimp only; omega) (by simp only [bo]; omega))⟩, trivial⟩⟩ ?_; exact hC.keep b5h hq2)
           | (refine lpz (p,q + 1,m) ⟨⟨⟨_,rfl,(coi b63)⟩,⟨_,rfl,(coi b63)⟩,tt⟩,uu⟩ ?_;exact hC.skip b5h hq2)
    have h4:=r4;have hq2:=eqJ (l:=m) (a:=q) (b:=q - 1) (by simpa [and_assoc] using r4) (by simp only [bo];omega) (by simp only [bo];omega);refine w_6 ?_
    first | (refine lpz (p + 1, q + 1, m.set p (m.getD q default)) ⟨⟨⟨_, rfl, (coi (by first | rfl | (dsimp only; omega)))⟩, ⟨_, rfl, (coi (by first | rfl | (dsimp only; omega)))⟩, tt⟩, ⟨⟨_, rfl, (aau id hml.symm b5h (by dsimp only; omega) (by simp only [bo]; omega))⟩, trivial⟩⟩ ?_; exact hC.keep b5h hq2)
          | (refine lpz (p,q + 1,m) ⟨⟨⟨_,rfl,(coi b63)⟩,⟨_,rfl,(coi b63)⟩,tt⟩,uu⟩ ?_;exact hC.skip b5h hq2)
   simp only [fu,bo,b41] at h3;refine w_6 ?_;refine r9 0 true ?_;refine w_5 ?_;refine atw rfl rfl rfl rfl rfl ?_;refine w_2 ?_;refine hrr ?_;exact ⟨_,_,rfl,b61,apm hC b5h (by simp [bo]),trivial⟩
  have h2:=r2;have hq:=neJ (l:=l) (a:=k) (b:=k - 1) (by simpa [and_assoc] using r2) rfl b5h;refine w_6 ?_;refine lpz (k + 1) kk ?_;refine ⟨by omega,by show k + 1 <= _;omega,fun j h1 h2=>?_⟩
  rcases b5c (Nat.le_of_lt_succ h2) with h | h
  · exact hI j h1 h
  subst h;exact hq
 refine w_6 ?_;refine cz 2 rfl rfl rfl ?_;refine hrr ?_;exact ⟨_,_,rfl,b61,af6 (k:=k) b5h hI,trivial⟩
abbrev v8 (v:Val):List Value:=[.int .i64 v.kind, .int .i64 v.num, .string v.str]
def avl (v:Val):∀ j,j < 3 -> (PV.raw ((v8 v).getD j (.bool false))) = v.c j:=sw rfl rfl rfl
def alf (g:Nat) (caps:Nat -> PV) (hg:∀ args w,(callFunc g args).run b65 w = .ok (.enter g args) w) (hc:∀ x y:Val,aa b65 g [x.pc,y.pc] (af [pI (dl x y)])) (id:Nat) (l:List Val) (hsz:l.length <= 8589934592) :
 ci b65 62 [.one (.ref id l.length), .one (.p (.fn g 0 caps))] [(id, .arr true 3 114 l.length (lf (fun v j=>.raw ((v8 v).getD j (.bool false))) l))] (.tup []) [(id, .arr true 3 114 l.length (lf (fun v j=>.raw ((v8 v).getD j (.bool false))) (a2n dl l)))] [id] :=
 agu Tryz.laysSortV 3 b5n Tryz.isAgg114 Tryz.sizeOf114 v8 (fun _=>rfl) (fun x v hv=>by
  rcases b2s.1 hv with rfl | hv
  · rfl
  rcases b2s.1 hv with rfl | hv
  · rfl
  rcases b2s.1 hv with rfl | hv
  · rfl
  cases hv) dl j7.swo j7.eq g caps hg (fun x y=>hc x y) id 114 l hsz
def aqr {wr wr':Bool} {n:Nat} {e:TypeId} {l:List Val} (hw:wr' = true -> wr = true):CoO (.arr wr 3 e n (lf (fun v j=>.raw ((v8 v).getD j (.bool false))) l)) (.arr wr' 3 e n (lf Val.c l)) :=
 ⟨hw,rfl,rfl,rfl,fun i j hi hj=>CoP.of_eq (avl _ j hj)⟩
def co_encV' {wr wr':Bool} {n:Nat} {e:TypeId} {l:List Val} (hw:wr' = true -> wr = true):CoO (.arr wr 3 e n (lf Val.c l)) (.arr wr' 3 e n (lf (fun v j=>.raw ((v8 v).getD j (.bool false))) l)) :=
 ⟨hw,rfl,rfl,rfl,fun i j hi hj=>CoP.of_eq (avl _ j hj).symm⟩
def aur (id:Nat) (l:List Val) (hsz:l.length <= 8589934592) (caps:Nat -> PV) :
 ci b65 62 [.one (.ref id l.length), .one (.p (.fn 63 0 caps))] [(id, .arr true 3 114 l.length (lf (fun v j=>.raw ((v8 v).getD j (.bool false))) l))] (.tup []) [(id, .arr true 3 114 l.length (lf (fun v j=>.raw ((v8 v).getD j (.bool false))) (a2n dl l)))] [id] :=
 alf 63 caps (enters_of Tryz.func63 (by kernel_rfl) rfl) asm id l hsz
end
section
abbrev a3m:PV:=.sl 0 3 true (lf Val.c [])
def t8 (R:List Row) (a:Nat):Nat -> Nat -> PV:=fun i _=>if i < a then vals (vo R i) else a3m
section
variable {R:List Row} {a:Nat}
def aru {j:Nat}:t8 R a a j = a3m:=if_neg (b50 a)
def ak9 {j:Nat}:CoP (vals (vo R a)) (t8 R (a + 1) a j):=CoP.of_eq (if_pos (Nat.lt_succ_self a)).symm
variable {n:Nat}
def aqb:∀ i,i < n -> i ≠ a -> CoP (t8 R a i 0) (t8 R (a + 1) i 0):=fun i _ h=>by
 refine CoP.of_eq ?_;unfold t8;by_cases h1:i < a
 · rw [if_pos h1,if_pos b5h]
 rw [if_neg h1,if_neg b5h]
variable {e:TypeId} {f:Nat -> Nat -> PV}
def aih {n':Nat} (hn:n' = n) (hf:∀ i,CoP (f i 0) a3m):CoO (.arr true 1 e n f) (.arr true 1 e n' (t8 R 0)):=by
 subst hn;refine ⟨fun h=>h,rfl,rfl,rfl,fun i j hi hj=>?_⟩;obtain rfl:j = 0:=by omega
 have:t8 R 0 i 0 = a3m:=if_neg b5h;rw [this];exact hf i
variable {cl:Bool}
def al9:CoP (.sl n 1 cl (t8 R n)) (pz (be R n)):=by
 refine CoP.sl ua (.inl rfl) (fun h=>by cases h) fun i j hi hj=>CoP.of_eq ?_;show t8 R n i j = vals ((be R n).getD i default);rw [qn hi];exact if_pos hi
def akm {s:Nat}:CoP (.sl 0 s true f) a3m:=CoP.sl rfl (.inr rfl) (fun h=>h) fun i j hi _=>absurd hi (b2o i)
def xp:(mo R a).length = R.length:=b3v _
variable {g:Nat -> Nat -> PV}
def aiq {i:Nat} (hi:i < R.length) (h:∀ j,j < 3 -> CoP (g 0 j) (((R.getD i default).vals.getD a default).c j)):
 CoO (.arr true 3 e (i + 1) (d8 i (lf Val.c (mo R a)) g)) (.arr true 3 e (i + 1) (lf Val.c (mo R a))) :=
 li (fun h=>h) fun j hj=>by
  show CoP _ (((mo R a).getD i default).c j)
  have:(mo R a).getD i default = (R.getD i default).vals.getD a default:=by
   unfold mo;simp [List.getD,hi]
  rw [this];exact h j hj
variable {l:List Val}
def as2 {wr wr':Bool} (hw:wr' = true -> wr = true) (hn:n = l.length):CoO (.arr wr 3 e n (lf Val.c l)) (.arr wr' 3 e l.length (lf (fun v j=>.raw ((v8 v).getD j (.bool false))) l)):=by subst hn;exact co_encV' hw
def co_encL' {wr wr':Bool} (hw:wr' = true -> wr = true) (hn:n = l.length):CoO (.arr wr 3 e n (lf (fun v j=>.raw ((v8 v).getD j (.bool false))) l)) (.arr wr' 3 e l.length (lf Val.c l)):=by subst hn;exact aqr hw
variable {s:AS}
def alj {n':Nat} (hn:n' = n) (hf:∀ i,CoP (f i 0) (.raw (.map none))):CoO (.arr true 1 e n f) (.arr true 1 e n' (lvT R s 0)):=by
 subst hn;refine ⟨fun h=>h,rfl,rfl,rfl,fun i j hi hj=>?_⟩;obtain rfl:j = 0:=by omega
 have:lvT R s 0 i 0 = .raw (.map none):=if_neg b5h;rw [this];exact hf i
def ari {k:Nat} {f:MK -> Option PV} (hf:∀ m,f m = none):CoO (.mp .str 0 f) (.mp .str 0 (re (R.take 0) s k)):=by
 refine ⟨rfl,b2j _,fun m=>?_⟩;rw [hf m]
 cases m with
 | i q n=>exact CoM.refl _
 | s b=>exact CoM.refl _
def arf {k i:Nat} (hi:i < R.length) {e:ByteArray} (he:e = ff ((R.getD i default).vals.take k) s):
 CoO (.mp .str (i + 1) (te (re (R.take i) s k) (.s e) (.raw (.bool true)))) (.mp .str (i + 1) (re (R.take (i + 1)) s k)):=by
 subst he;refine ⟨rfl,b2j _,fun m=>CoM.of_eq ?_⟩
 cases m with
 | i q n=>rfl
 | s b =>
  show (bif decide (b = ff ((R.getD i default).vals.take k) s) then some (PV.raw (.bool true)) else (if jr (R.take i) s k b = true then some (.raw (.bool true)) else none)) = if jr (R.take (i + 1)) s k b = true then some (.raw (.bool true)) else none
  rw [afs hi];by_cases hb:b = ff ((R.getD i default).vals.take k) s
  · subst hb
    simp
  have h1:decide (b = ff ((R.getD i default).vals.take k) s) = false:=decide_eq_false hb;have h2:decide (ff ((R.getD i default).vals.take k) s = b) = false:=decide_eq_false fun e=>hb e.symm;rw [h1,h2,Bool.or_false];rfl
def axa {k M:Nat}:∀ i j,i < n -> j < 1 -> (∃ k',fe k (.ref M 0) (lvT R s k) i j = .ref M k' /\ k' = 0 /\ CoP (mpP .str R.length (re (R.take R.length) s k)) (lvT R s (k + 1) i j)) \/ CoH (fe k (.ref M 0) (lvT R s k) i j) (.p (lvT R s (k + 1) i j)):=fun i j hi hj=>by
 by_cases h:i = k
 · subst h
   refine .inl ⟨0,if_pos rfl,rfl, ?_⟩;rw [b3w];exact CoP.of_eq (if_pos (Nat.lt_succ_self i)).symm
 refine .inr ?_;unfold fe;rw [if_neg h];refine CoP.of_eq ?_;unfold lvT;by_cases h1:i < k
 · rw [if_pos h1,if_pos b5h]
 rw [if_neg h1,if_neg b5h]
def asx:CoP (.sl (n + 1) 1 cl (lvT R s (n + 1))) (.sl (n + 1) 1 false (lvF R s)) :=
 CoP.sl rfl (.inl rfl) (fun h=>by cases h) fun i j hi hj=>CoP.of_eq (if_pos hi)
variable {ps:List AS}
def ani {i:Nat} (hg:g 0 0 = .sl (n + 1) 1 cl (lvT R (ps.getD i default) (n + 1))):
 CoO (.arr true 1 e (i + 1) (d8 i (lf (lvC R n) ps) g)) (.arr true 1 e (i + 1) (lf (lvC R n) ps)) :=
 li (fun h=>h) fun j hj=>by
  obtain rfl:j = 0:=by omega
  rw [hg];exact asx
def alw {k:Nat} (hk:k <= l.length):CoP (.sl (fu (bo n (some (k:Int))) none) 3 cl (ns (lf Val.c l) none)) (vals (l.take k)):=a0t hk
def i9 {l:List (List Val)}:(cw l).length = l.length:=by simp [cw]
def adf {l:List (List Val)} {i:Nat} (hi:i < l.length) (h0:CoP (g 0 0) (.raw (.int .i64 ((i:Int) + 1)))) (h1:CoP (g 0 1) (vals (l.getD i default))):
 CoO (.arr true 2 e (i + 1) (d8 i (lf Row.c (cw l)) g)) (.arr true 2 e (i + 1) (lf Row.c (cw l))) :=
 li (fun h=>h) fun j hj=>by
  show CoP _ (Row.c ((cw l).getD i default) j)
  have:(cw l).getD i default = ⟨(i:Int) + 1,l.getD i []⟩:=by
   unfold cw;simp [List.getD,hi]
  rw [this]
  rcases (by omega:j = 0 \/ j = 1) with rfl | rfl
  · exact h0
  exact h1
variable {t:Tbl}
def lc (h:¬ bd t = 0):db t ps = bd t:=if_pos h
def la (h1:bd t = 0) (h:¬ lvE t.attrs.length ps = 0):db t ps = lvE t.attrs.length ps:=by unfold db;rw [if_neg (by simp [h1]),if_pos h]
def a6i (h1:bd t = 0) (h2:lvE t.attrs.length ps = 0) (h:(1000:Int) < ((gw t.rows ps t.attrs.length).length:Int)):db t ps = 3:=by
 unfold db;rw [if_neg (by simp [h1]),if_neg (by simp [h2]),if_pos b5h]
def a5k (h1:bd t = 0) (h2:lvE t.attrs.length ps = 0) (h:¬ (1000:Int) < ((gw t.rows ps t.attrs.length).length:Int)):db t ps = 0:=by
 unfold db;rw [if_neg (by simp [h1]),if_neg (by simp [h2]),if_neg b5h]
def sh {e:Int} (h:db t ps = e) (he:e ≠ 0):cb t ps = T0:=if_neg (by rw [h];exact he)
def a0m (h:db t ps = 0):cb t ps = ⟨t.name,t.attrs,cw (gw t.rows ps t.attrs.length)⟩:=if_pos h
def s6 {n:Int} (h:lvE n ps = 0):0 < ps.length:=by
 cases ps with
 | nil =>
  exfalso;unfold lvE at h
  repeat' split at h
  all_goals first | omega | (simp at * <;> omega)
 | cons x l=>simp
def as4 {n:Int} (h:lvE n ps = 0):ps.length <= 64:=by
 unfold lvE at h
 repeat' split at h
 all_goals omega
def agq {n:Int} (h:lvE n ps = 0):0 <= n /\ n <= 8:=by
 unfold lvE at h
 repeat' split at h
 all_goals omega
end
end
section
abbrev RSt:=Bool × Int × Int × Int
abbrev RSt.c (s:RSt):Nat -> PV:=fun j=>[.raw (.bool s.1), .raw (.int .i64 s.2.1), .raw (.int .i64 s.2.2.1), .raw (.int .i64 s.2.2.2)].getD j .any
abbrev RSt.pc (s:RSt):PC:=.agg [.raw (.bool s.1), .raw (.int .i64 s.2.1), .raw (.int .i64 s.2.2.1), .raw (.int .i64 s.2.2.2)]
abbrev alc (l:List RSt):PV:=psl 4 RSt.c l
def St.r (s:St):RSt:=(s.1,(s.2.1:Int),(s.2.2.1:Int),(s.2.2.2:Int))
def aq6 {l:List St}:CoP (stl l) (alc (l.map St.r)):=by
 refine CoP.sl (b3v _) (.inl rfl) (fun h=>h) fun i j hi hj=>CoP.of_eq ?_;show St.c (l.getD i default) j = RSt.c ((l.map St.r).getD i default) j;have:(l.map St.r).getD i default = St.r (l.getD i default):=by simp [List.getD,hi]
 rw [this];rfl
abbrev xa (a:Int) (l:List Rw) (p m:List Fd) (s:RSt):Int × List Rw × Int:=gt a l p m s.1 s.2.1 s.2.2.1 s.2.2.2
def xd (n:Int) (p m:List Fd):Int -> List Rw -> List RSt -> Bool
 | _,l,[]=>kr n l
 | a,l,s :: r=>if (xa a l p m s).2.2 = 0 then xd n p m (xa a l p m s).1 (xa a l p m s).2.1 r else false
def vk (n:Int) (ps:List AS) (p m:List Fd) (sts:List RSt):Bool:=decide (lvE n ps = 0) && (decide (cj n p m = 0) && xd n p m n (au (av n ps)) sts)
structure xx (n:Int) (ps:List AS) (p m:List Fd) (sts:List RSt) (x:Nat × Int × List Rw × Int):Prop where
 le:x.1 <= sts.length
 ok:x.2.2.2 = 0 -> xd n p m n (au (av n ps)) sts = xd n p m x.2.1 x.2.2.1 (sts.drop x.1)
 no:¬ x.2.2.2 = 0 -> xd n p m n (au (av n ps)) sts = false
section
variable {n:Int} {ps:List AS} {p m:List Fd} {sts:List RSt}
def xx.start:xx n ps p m sts (0,n,au (av n ps),0):=⟨b2n _,fun _=>rfl,fun h=>absurd rfl h⟩
section
variable {x:Nat × Int × List Rw × Int}
def xx.step (h:xx n ps p m sts x) (hi:x.1 < sts.length) (h0:x.2.2.2 = 0):xx n ps p m sts (x.1 + 1,(xa x.2.1 x.2.2.1 p m (sts.getD x.1 default)).1,(xa x.2.1 x.2.2.1 p m (sts.getD x.1 default)).2.1,(xa x.2.1 x.2.2.1 p m (sts.getD x.1 default)).2.2):=by
 have e:sts.drop x.1 = sts.getD x.1 default :: sts.drop (x.1 + 1):=by
  rw [b4i hi,b2i,b2h hi];rfl
 have h1:=h.ok h0;rw [e,xd] at h1;refine ⟨hi,fun h2=>?_,fun h2=>?_⟩
 · rw [h1,if_pos h2]
 rw [h1,if_neg h2]
def xx.fin (h:xx n ps p m sts x) (hi:¬ x.1 < sts.length) (h0:x.2.2.2 = 0):xd n p m n (au (av n ps)) sts = kr n x.2.2.1:=by
 rw [h.ok h0,List.drop_of_length_le b5h,xd]
def ai7 (h:¬ lvE n ps = 0):vk n ps p m sts = false:=by unfold vk;rw [decide_eq_false h];rfl
def aki (h:¬ cj n p m = 0):vk n ps p m sts = false:=by unfold vk;rw [decide_eq_false h];simp
def aa7 (h:lvE n ps = 0) (h2:cj n p m = 0):vk n ps p m sts = xd n p m n (au (av n ps)) sts:=by unfold vk;rw [decide_eq_true h,decide_eq_true h2];rfl
def ajz (h:lsC n ps p m = 0):lvE n ps = 0 /\ cj n p m = 0 /\ (lsT n ps p m).2.2 = 0 /\ lcR n ps p m = ((n,au (av n ps)),(lsT n ps p m).1,(lsT n ps p m).2.1,(lsT n ps p m).2.2):=by
 obtain ⟨h1,h2⟩:=aam h;exact ⟨h1,h2,(axv h1 h2).symm.trans h,afo h1 h2⟩
def auq (h:¬ lsC n ps p m = 0):prS n ps p m = [] /\ prC n ps p m = lsC n ps p m:=by
 have h':¬ (rcR n ps p m).2.2 = 0:=by rw [aby];exact h
 exact ⟨if_neg h',by unfold prC;rw [if_neg h',aby]⟩
def atu (h:lsC n ps p m = 0) {i:Nat} (hi:i <= (lsT n ps p m).1.length) (hI:∀ j,j < i -> kr n ((trL n p m (au (av n ps)) (lsT n ps p m).1).getD j default) = false)
 (hf:kr n ((trL n p m (au (av n ps)) (lsT n ps p m).1).getD i default) = true):prS n ps p m = (lsT n ps p m).1.take i /\ prC n ps p m = 0:=by
 have e:=aoj (n:=n) (ps:=ps) (p:=p) (m:=m) h
 have hx:prX n ps p m = (i:Int):=by
  unfold prX;rw [e];refine a0k (p:=fun a:Int × List Rw=>kr n a.2) (i:=i) (by rw [abi];omega) (fun j hj=>?_) ?_
  · show kr n _ = false
    rw [a5x b5h];exact hI j hj
  show kr n _ = true;rw [a5x hi];exact hf
 constructor
 · unfold prS
   rw [hx,e,if_pos rfl,if_neg b5h];rfl
 unfold prC;rw [hx,e,if_pos rfl,if_neg b5h]
def aqk (h:lsC n ps p m = 0) (hI:∀ j,j < (lsT n ps p m).1.length + 1 -> kr n ((trL n p m (au (av n ps)) (lsT n ps p m).1).getD j default) = false):prS n ps p m = [] /\ prC n ps p m = 11:=by
 have e:=aoj (n:=n) (ps:=ps) (p:=p) (m:=m) h
 have hx:prX n ps p m < 0:=by
  unfold prX;rw [e]
  have:idx (fun a:Int × List Rw=>kr n a.2) (un n p m (au (av n ps)) (lsT n ps p m).1) = -1:=a0w fun j hj=>by
   rw [abi] at hj;rw [a5x b5h];exact hI j hj
  show idx _ (un n p m (au (av n ps)) (lsT n ps p m).1) < 0;omega
 constructor
 · unfold prS
   rw [e,if_pos rfl];exact if_pos hx
 unfold prC;rw [e,if_pos rfl];exact if_pos hx
end
end
def yl (r:Rw):List Val:=r.map fun z=>⟨1,z,emp⟩
def xy (l:List Rw):List Row:=(List.range l.length).map fun (i:Nat)=>⟨(i:Int) + 1,yl (l.getD i default)⟩
def ss (n:Int) (ps:List AS) (p m:List Fd):Int:=if lsC n ps p m ≠ 0 then lsC n ps p m else if kr n (lsT n ps p m).2.1.2 = true then 10 else 0
def acj (n:Int) (ps:List AS) (p m:List Fd):Tbl:=if ss n ps p m = 0 then ⟨⟨#[116]⟩,jp.take n.toNat,xy (lsT n ps p m).2.1.2⟩ else T0
section
variable {n:Int} {ps:List AS} {p m:List Fd}
def at7 (h:¬ lsC n ps p m = 0):ss n ps p m = lsC n ps p m /\ acj n ps p m = T0:=by
 have e:ss n ps p m = lsC n ps p m:=if_pos h;exact ⟨e,if_neg (by rw [e];exact h)⟩
def avk (h:lsC n ps p m = 0) (hf:kr n (lsT n ps p m).2.1.2 = true):ss n ps p m = 10 /\ acj n ps p m = T0:=by
 have e:ss n ps p m = 10:=by unfold ss;rw [if_neg (by simp [h]),if_pos hf]
 exact ⟨e,if_neg (by rw [e];decide)⟩
def avu (h:lsC n ps p m = 0) (hf:kr n (lsT n ps p m).2.1.2 = false):ss n ps p m = 0 /\ acj n ps p m = ⟨⟨#[116]⟩,jp.take n.toNat,xy (lsT n ps p m).2.1.2⟩:=by
 have e:ss n ps p m = 0:=by unfold ss;rw [if_neg (by simp [h]),if_neg (by simp [hf])]
 exact ⟨e,if_pos e⟩
end
def ak2 {a:Nat} (h:a < 8):Utf8.encode (97 + (a:Int)) = jp.getD a default:=by
 have:∀ a,a < 8 -> Utf8.encode (97 + ((a:Nat):Int)) = jp.getD a default:=by decide
 exact this a h
def anp {r:Rw} {k:Nat} (hk:k < r.length):(yl r).getD k default = ⟨1,r.getD k default,emp⟩:=by unfold yl;simp [List.getD,hk]
def alh {r:Rw}:(yl r).length = r.length:=b3v _
def amc {l:List Rw}:(xy l).length = l.length:=by simp [xy]
def ant {l:List Rw} {i:Nat} (hi:i < l.length):(xy l).getD i default = ⟨(i:Int) + 1,yl (l.getD i default)⟩:=by unfold xy;simp [List.getD,hi]
def b1i (n:Int) (a b:AS) (l:List Fd):Bool:=decide (dm n l = 0) && (decide (a ||| b = b5 n) && (decide (sub a (clo l (a &&& b))) || decide (sub b (clo l (a &&& b)))))
end
section
open Go.Proofs Go.Proofs.YteklilhbjjofbaaGreatDoor
open Go.RowKit Go.ChangeShapes Go.WideShapes Go.ChangeAt
abbrev Rcp.c (d:Rcp):Nat -> PV:=fun j=>[.raw (.int .u8 (d.n.toNat:Int)),dpl d.f,dpl d.m,psl 1 u8C d.p].getD j .any
abbrev C3:=BitVec 8 × BitVec 8 × BitVec 8
abbrev C3.c (x:C3):Nat -> PV:=fun j=>[.raw (.int .u8 (x.1.toNat:Int)), .raw (.int .u8 (x.2.1.toNat:Int)), .raw (.int .u8 (x.2.2.toNat:Int))].getD j .any
def awq:Rd b65 22 1 (a6c 1 sC):=ab1 Tryz.underlying22 b5w b5h aza
def aul:b65.readableRec 22 = true /\ 22 < b65.types.size:=⟨by kernel_rfl,of_decide_eq_true b5w⟩
end
section
section
variable {α:Type} [DecidableEq α] {c:α -> α -> Int}
def a2e (h:Tot c):∀ (l:List α) (p:Option α),l.Pairwise (fun a b=>¬ c b a < 0) -> (∀ x,p = some x -> ∀ y ∈ l,¬ c y x < 0) -> Asc c (ip p l) /\ ∀ x,p = some x -> ∀ y ∈ ip p l,c x y < 0
 | [],p,_,_=>⟨List.Pairwise.nil,fun _ _ y hy=>by cases hy⟩
 | y :: l,p,hl,hp=>by
  have hl':=b3h.1 hl;simp only [ip];split
  · rename_i he
    exact a2e h l p hl'.2 fun x hx z hz=>hp x hx z (by simp [hz])
  rename_i he
  obtain ⟨h1,h2⟩:=a2e h l (some y) hl'.2 fun x hx z hz=>by
   simp only [b2g] at hx;subst hx;exact hl'.1 z hz
  refine ⟨b3h.2 ⟨fun z hz=>h2 y rfl z hz,h1⟩,fun x hx z hz=>?_⟩
  have hxy:c x y < 0:=by
   have h3:=hp x hx y b5k;have h4:=h.anti x y;have h5:c x y ≠ 0:=fun e=>he (by rw [hx,(h.zero x y).1 e]);omega
  rcases b2s.1 hz with rfl | hz
  · exact hxy
  exact h.tr _ _ _ hxy (h2 y rfl z hz)
def am7 (h:Tot c) {l:List α} (hl:l.Pairwise fun a b=>¬ c b a < 0):Asc c (jb l):=(a2e h l none hl fun x hx=>by cases hx).1
def xu (c:α -> α -> Int) (x:α):List α -> List α
 | []=>[x]
 | y :: l=>if c x y < 0 then x :: y :: l else if c x y = 0 then y :: l else y :: xu c x l
def a29 (h:Tot c) {x z:α}:∀ {l:List α},z ∈ xu c x l <-> z = x \/ z ∈ l
 | []=>by simp [xu]
 | y :: l=>by
  unfold xu;split
  · simp
  split
  · rename_i e
    have e:=(h.zero x y).1 e;subst e;simp
  rw [b2s,a29 h (l:=l),b2s];constructor
  · rintro (e | e | e)
    · exact .inr (.inl e)
    · exact .inl e
    exact .inr (.inr e)
  rintro (e | e | e)
  · exact .inr (.inl e)
  · exact .inl e
  exact .inr (.inr e)
def abq (h:Tot c) {x:α}:∀ {l:List α},Asc c l -> Asc c (xu c x l)
 | [],_=>by simp [xu,Asc]
 | y :: l,hl=>by
  have hl':=b3h.1 hl;unfold xu;split
  · rename_i e
    exact b3h.2 ⟨fun z hz=>by
     rcases b2s.1 hz with rfl | hz
     · exact e
     exact h.tr _ _ _ e (hl'.1 z hz),hl⟩
  split
  · exact hl
  rename_i e1 e2;refine b3h.2 ⟨fun z hz=>?_,abq h hl'.2⟩
  rcases (a29 h).1 hz with rfl | hz
  · have:=h.anti z y;omega
  exact hl'.1 z hz
def a23 (c:α -> α -> Int) (l:List α):List α:=l.foldr (xu c) []
def abv (h:Tot c) {z:α}:∀ {l:List α},z ∈ a23 c l <-> z ∈ l
 | []=>by simp [a23]
 | y :: l=>by
  show z ∈ xu c y (a23 c l) <-> _;rw [a29 h,abv h (l:=l),b2s]
def acg (h:Tot c):∀ {l:List α},Asc c (a23 c l)
 | []=>List.Pairwise.nil
 | y :: l=>abq h (acg h (l:=l))
end
section
variable {R:List Row}
def a9z {a:Nat}:Asc dl (vo R a):=am7 j7 (j7.srt _)
def a3a {a:Nat} {v:Val}:v ∈ vo R a <-> ∃ r ∈ R,r.vals.getD a default = v:=by
 unfold vo;rw [a2s,aaw,mo,b37]
def aqh {a:Nat}:vo R a = a23 dl (mo R a):=by
 refine j7.ext a9z (acg j7) fun v=>?_;unfold vo;rw [a2s,aaw,abv j7]
def al8 {n:Nat}:be R n = (List.range n).map fun a=>a23 dl (mo R a):=b4g fun a _=>aqh
def ao6:lsB 3 [3,6] [⟨2,4⟩] [] = true /\ lsC 3 [3,6] [⟨2,4⟩] [] = 0:=by decide +kernel
def aot:prS 3 [3,6] [⟨2,4⟩] [] = [(false,0,0,1)] /\ prC 3 [3,6] [⟨2,4⟩] [] = 0:=by decide +kernel
def axn:vk 3 [3,6] [⟨2,4⟩] [] [(false,0,0,1)] = true:=by decide +kernel
def awR:List Row:=[⟨1,[⟨1,0,emp⟩,⟨1,1,emp⟩,⟨1,5,emp⟩]⟩,⟨2,[⟨1,6,emp⟩,⟨1,1,emp⟩,⟨1,2,emp⟩]⟩]
def awT:Tbl:=⟨⟨#[116]⟩,jp.take 3,awR⟩
def ap1:acj 3 [3,6] [] [] = awT /\ ss 3 [3,6] [] [] = 0:=by decide +kernel
def axg:(dx awR [3,6] ((List.range 3).map fun a=>a23 dl (mo awR a)) 3 [] []).length = 4:=by decide +kernel
def avs:(gw awR [3,6] 3).length = 4:=by
 unfold gw;rw [al8];exact axg
def ao9:bd awT = 0 /\ lvE 3 [3,6] = 0:=by decide +kernel
def aoe:db awT [3,6] = 0:=a5k ao9.1 ao9.2 (by
 show ¬ (1000:Int) < ((gw awR [3,6] 3).length:Int)
 rw [avs];decide)
def awu:(cb awT [3,6]).rows.length = 4:=by
 rw [a0m aoe];show (cw (gw awR [3,6] 3)).length = 4;rw [i9,avs]
end
end
section
def a5e (l:List Row) (v:List Val):Bool:=l.any fun r=>decide (r.vals = v)
def fm (s:AS):Nat -> List Val -> List Val
 | _,[]=>[]
 | a,v :: l=>if bt s (a:Int) = true then v :: fm s (a + 1) l else fm s (a + 1) l
def sel (l:List Val) (s:AS):List Val:=fm s 0 l
section
variable {s:AS}
def z6:∀ {l:List Val} {a:Nat} {v:Val},fm s a (l ++ [v]) = if bt s ((a + l.length:Nat):Int) = true then fm s a l ++ [v] else fm s a l
 | [],a,v=>by
  simp only [b42,fm,b4x,b49]
 | x :: l,a,v=>by
  have ih:fm s (a + 1) (l ++ [v]) = if bt s ((a + 1 + l.length:Nat):Int) = true then fm s (a + 1) l ++ [v] else fm s (a + 1) l:=z6
  simp only [b43,fm,b3r];rw [ih,show a + 1 + l.length = a + (l.length + 1) by omega];split <;> split <;> simp
variable {l:List Val}
def a8z {i:Nat} (hi:i < l.length) (h:bt s (i:Int) = true):sel (l.take (i + 1)) s = sel (l.take i) s ++ [l.getD i default]:=by
 unfold sel;rw [bf hi,z6,b2y,b3n b5h,b30,if_pos h]
def a8p {i:Nat} (hi:i < l.length) (h:bt s (i:Int) = false):sel (l.take (i + 1)) s = sel (l.take i) s:=by
 unfold sel;rw [bf hi,z6,b2y,b3n b5h,b30,if_neg (by simp [h])]
def a28:∀ {l:List Val} {a:Nat} {v:Val},v ∈ fm s a l -> v ∈ l
 | x :: l,a,v,h=>by
  unfold fm at h;split at h
  · rcases b2s.1 h with rfl | h
    · simp
    exact b38 _ (a28 h)
  exact b38 _ (a28 h)
def ac0:∀ {l:List Val} {a:Nat},(fm s a l).length <= l.length
 | [],_=>b2j _
 | x :: l,a=>by
  have:(fm s (a + 1) l).length <= l.length:=ac0;unfold fm;split <;> simp only [b3r] <;> omega
def aq7:(sel l s).length <= l.length:=ac0
def od:l7 l <-> ∀ v ∈ l,v.ok:=by
 constructor
 · intro h v hv
   obtain ⟨i,hi,e⟩:=b35 hv;have:=h i hi;rw [b9 _ _ hi,e] at this;exact this
 intro h i hi;rw [b9 _ _ hi];exact h _ (b2q hi)
def ajx (h:l7 l):l7 (sel l s):=od.2 fun v hv=>od.1 h v (a28 hv)
def tz (a b:Row) (s:AS):Bool:=decide (sel a.vals s = sel b.vals s)
def ly (t:Tbl) (q:AS) (r:Row) (n:Int):Bool:=t.rows.any fun x=>tz x r (q &&& b5 n)
def au1 (a b:List Row):Bool:=a.all fun r=>a5e b r.vals
def b0u (a b:Tbl):Bool:=decide (a.attrs = b.attrs) && (au1 a.rows b.rows && au1 b.rows a.rows)
def po (a b:Tbl) (r s:Row) (i:Nat):Bool:=decide (lq a.attrs (b.attrs.getD i default) < 0) || decide (dl (r.vals.getD (lq a.attrs (b.attrs.getD i default)).toNat default) (s.vals.getD i default) = 0)
def z8 (a b:Tbl) (r s:Row):Bool:=(List.range b.attrs.length).all (po a b r s)
def afx (a b:Tbl):Bool:=b.rows.all fun s=>a.rows.any fun r=>z8 a b r s
def az4 (t:Tbl) (d:Fd) (i k:Nat):Bool:=!tz (t.rows.getD i default) (t.rows.getD k default) d.lhs || tz (t.rows.getD i default) (t.rows.getD k default) d.rhs
def fdB (t:Tbl) (d:Fd):Bool:=(List.range t.rows.length).all fun i=>(List.range i).all fun k=>az4 t d i k
def awg (t:Tbl) (a b:Row) (left:AS):Bool:=t.rows.any fun x=>tz x a left && tz x b (b5 t.attrs.length &&& ~~~left)
def ayc (t:Tbl) (d:Fd) (i k:Nat):Bool:=!tz (t.rows.getD i default) (t.rows.getD k default) d.lhs || awg t (t.rows.getD i default) (t.rows.getD k default) (d.lhs ||| d.rhs)
def mvB (t:Tbl) (d:Fd):Bool:=(List.range t.rows.length).all fun i=>(List.range t.rows.length).all fun k=>ayc t d i k
def al3 {α:Type} [Inhabited α] {s m:Nat} {e:TypeId} {c:α -> Nat -> PV} {l:List α} {f g:Nat -> Nat -> PV} (hm:m = l.length) (hg:∀ i j,i < l.length -> j < s -> CoP (g i j) (lf c l i j)):CoO (.arr true s e (0 + m) (d8 0 f g)) (.arr true s e l.length (lf c l)):=by
 subst hm;refine ⟨fun h=>h,rfl,rfl,b5h,fun i j hi hj=>?_⟩;unfold d8;rw [if_neg b5h,b57];exact hg i j b5h hj
end
end
section
def w64 (n:Int):IntKind.wrap .u64 n = n % 18446744073709551616:=by simp [IntKind.wrap,IntKind.bits,IntKind.signed]
def w8 (n:Int):IntKind.wrap .u8 n = n % 256:=by simp [IntKind.wrap,IntKind.bits,IntKind.signed]
def sj (n:Int):Prop:=-9223372036854775808 <= n /\ n <= 9223372036854775807
def ah5 (n:Int):uN n = ((BitVec.ofInt 64 (n % 18446744073709551616) ^^^ BitVec.ofInt 64 9223372036854775808).toNat:Int):=by
 unfold uN k8;rw [w64,w64];show ((BitVec.ofInt 64 (n % 18446744073709551616) ^^^ BitVec.ofInt 64 9223372036854775808).toNat:Int) % 18446744073709551616 = _;have:=(BitVec.ofInt 64 (n % 18446744073709551616) ^^^ BitVec.ofInt 64 9223372036854775808).isLt;omega
def aow (n:Int):0 <= uN n /\ uN n < 18446744073709551616:=by
 rw [ah5];have:=(BitVec.ofInt 64 (n % 18446744073709551616) ^^^ BitVec.ofInt 64 9223372036854775808).isLt;omega
def avo {n m:Int} (hn:sj n) (hm:sj m) (h:uN n = uN m):n = m:=by
 rw [ah5,ah5] at h;have h1:=b4y (Int.ofNat.inj h)
 have h2:BitVec.ofInt 64 (n % 18446744073709551616) = BitVec.ofInt 64 (m % 18446744073709551616):=by
  have:=congrArg (· ^^^ BitVec.ofInt 64 9223372036854775808) h1;simpa [BitVec.xor_assoc] using this
 have h3:=congrArg BitVec.toNat h2;rw [BitVec.toNat_ofInt,BitVec.toNat_ofInt] at h3;obtain ⟨a1,a2⟩:=hn;obtain ⟨b1,b2⟩:=hm;have e1:(n % 18446744073709551616) % ((2 ^ 64:Nat):Int) = n % 18446744073709551616:=by omega
 have e2:(m % 18446744073709551616) % ((2 ^ 64:Nat):Int) = m % 18446744073709551616:=by omega
 rw [e1,e2] at h3;omega
def aia (u:Int) (s:Nat) (hs:s <= 64):byK u s = u / (2 ^ s) % 256:=by
 unfold byK;rw [w8,b3n hs];congr 1;rw [Int.fdiv_eq_ediv_of_nonneg _ (Int.pow_nonneg b5n)]
def aab {n m:Int} (hn:sj n) (hm:sj m) (h:qu n = qu m):n = m:=by
 refine avo hn hm ?_;have hu:=aow n;have hv:=aow m;unfold qu at h;generalize uN n = u at *;generalize uN m = v at *
 have hb:∀ i,i < 8 -> u / 2 ^ (56 - 8 * i) % 256 = v / 2 ^ (56 - 8 * i) % 256:=fun i hi=>by
  have h1:=congrArg (fun l=>l.getD i 0) h;simp only [List.getD,b32,b3j hi,b31,b3l] at h1;rw [aia _ _ b5h,aia _ _ b5h] at h1;exact h1
 have h0:=hb 0 b5h;have h1:=hb 1 b5h;have h2:=hb 2 b5h;have h3:=hb 3 b5h;have h4:=hb 4 b5h;have h5:=hb 5 b5h;have h6:=hb 6 b5h;have h7:=hb 7 b5h;simp only [Nat.mul_zero,b57,Nat.mul_one,Nat.reduceMul,Nat.reduceSub,Int.reducePow,Int.pow_zero,Int.ediv_one] at h0 h1 h2 h3 h4 h5 h6 h7;clear hb h hn hm;have e0:u / 72057594037927936 = v / 72057594037927936:=by omega
 have e1:u / 281474976710656 = v / 281474976710656:=by omega
 have e2:u / 1099511627776 = v / 1099511627776:=by omega
 have e3:u / 4294967296 = v / 4294967296:=by omega
 have e4:u / 16777216 = v / 16777216:=by omega
 have e5:u / 65536 = v / 65536:=by omega
 have e6:u / 256 = v / 256:=by omega
 omega
def b8 (l:List Int):List UInt8:=l.map fun n=>UInt8.ofNat n.toNat
def a98:∀ {a b:List UInt8} {X Y:List Int},ke a ++ (0 :: 1 :: X) = ke b ++ (0 :: 1 :: Y) -> a = b /\ X = Y
 | [],[],X,Y,h=>by
  simp [ke] at h;exact ⟨rfl,h⟩
 | [],y :: b,X,Y,h=>by
  exfalso;simp only [ke,List.flatMap_nil,b53,b42] at h;unfold vl at h;split at h
  · simp at h
  rename_i hy;simp at h;have:y.toNat = 0:=by omega
  exact hy (UInt8.toNat_inj.1 this)
 | x :: a,[],X,Y,h=>by
  exfalso;simp only [ke,List.flatMap_nil,b53,b42] at h;unfold vl at h;split at h
  · simp at h
  rename_i hy;simp at h;have:x.toNat = 0:=by omega
  exact hy (UInt8.toNat_inj.1 this)
 | x :: a,y :: b,X,Y,h=>by
  have e1:∀ (z:UInt8) (l:List UInt8) (W:List Int),ke (z :: l) ++ W = vl z ++ (ke l ++ W):=fun z l W=>by simp [ke]
  rw [e1,e1] at h
  have key:x = y /\ ke a ++ (0 :: 1 :: X) = ke b ++ (0 :: 1 :: Y):=by
   unfold vl at h;split at h <;> split at h
   · rename_i h1 h2
     refine ⟨h1.trans h2.symm, ?_⟩;simpa using h
   · rename_i h1 h2
     exfalso;simp at h;exact h2 (UInt8.toNat_inj.1 (by have:=h.1;show y.toNat = 0;omega))
   · rename_i h1 h2
     exfalso;simp at h;exact h1 (UInt8.toNat_inj.1 (by have:=h.1;show x.toNat = 0;omega))
   rename_i h1 h2;simp at h;exact ⟨UInt8.toNat_inj.1 b5h,by simpa using h.2⟩
  obtain ⟨rfl,h2⟩:=key;obtain ⟨rfl,h3⟩:=a98 h2;exact ⟨rfl,h3⟩
def eu (v:Val):Prop:=bp v = true /\ sj v.num
def a4f {v:Val} (h:bp v = true):v.kind = 0 \/ v.kind = 1 \/ v.kind = 2 \/ v.kind = 3:=by
 unfold bp at h;split at h
 · exact .inl b5i
 split at h
 · exact .inr (.inl b5i)
 split at h
 · exact .inr (.inr (.inl b5i))
 simp only [b2p,decide_eq_true_eq] at h;exact .inr (.inr (.inr h.1.1))
def a4j {a b:Val} (h1:a.kind = b.kind) (h2:a.num = b.num) (h3:a.str = b.str):a = b:=by
 obtain ⟨a1,a2,a3⟩:=a;obtain ⟨b1,b2,b3⟩:=b;simp only at h1 h2 h3;subst h1 h2 h3;rfl
def awc {a b:ByteArray} (h:bl a = bl b):a = b:=by
 obtain ⟨⟨a⟩⟩:=a;obtain ⟨⟨b⟩⟩:=b;have h:a = b:=h;subst h;rfl
def ao0 {v w:Val} (hv:eu v) (hw:eu w) {X Y:List Int} (h:jc v ++ X = jc w ++ Y):v = w /\ X = Y:=by
 obtain ⟨hv,nv⟩:=hv;obtain ⟨hw,nw⟩:=hw;have kv:=a4f hv;have kw:=a4f hw;unfold jc at h;rw [b43,b43,b4w] at h;obtain ⟨h1,h2⟩:=h;rw [w8,w8] at h1;have hk:v.kind = w.kind:=by omega
 clear h1;unfold bp at hv hw;rw [<- hk] at h2 hw kw
 rcases kv with e | e | e | e <;> rw [e] at h2 hv hw <;> simp only [Int.reduceEq,if_true,if_false,or_true,true_or,or_false,false_or,or_self,b42,b2p,decide_eq_true_eq,if_pos,true_and,decide_true,ite_true,ite_false] at h2 hv hw
 · exact ⟨a4j hk (hv.1.trans hw.1.symm) (hv.2.trans hw.2.symm),h2⟩
 · obtain ⟨h3,h4⟩:=List.append_inj h2 (by rw [u5,u5])
   exact ⟨a4j hk (aab nv nw h3) (hv.trans hw.symm),h4⟩
 · rw [b3o,b3o] at h2
   obtain ⟨h3,h4⟩:=a98 h2;exact ⟨a4j hk (hv.1.trans hw.1.symm) (awc h3),h4⟩
 obtain ⟨h3,h4⟩:=List.append_inj h2 (by rw [u5,u5]);exact ⟨a4j hk (aab nv nw h3) (hv.2.trans hw.2.symm),h4⟩
def byR (l:List Int):Prop:=∀ x ∈ l,0 <= x /\ x < 256
def ajw:∀ {a b:List Int},byR a -> byR b -> b8 a = b8 b -> a = b
 | [],[],_,_,_=>rfl
 | [],_ :: _,_,_,h=>by simp [b8] at h
 | _ :: _,[],_,_,h=>by simp [b8] at h
 | x :: a,y :: b,ha,hb,h=>by
  simp only [b8,b48,b4w] at h;have h1:=ha x b5k;have h2:=hb y b5k;have h3:=congrArg UInt8.toNat h.1;simp only [UInt8.toNat_ofNat'] at h3;have e:x = y:=by omega
  rw [e,ajw (fun z hz=>ha z (b38 _ hz)) (fun z hz=>hb z (b38 _ hz)) h.2]
def as8 {a b:List Int} (ha:byR a) (hb:byR b):byR (a ++ b):=fun x hx=>by
 rcases b2z.1 hx with h | h
 · exact ha x h
 exact hb x h
def as5 (v:Val):byR (jc v):=by
 have h8:∀ n:Int,0 <= IntKind.wrap .u8 n /\ IntKind.wrap .u8 n < 256:=fun n=>by rw [w8];omega
 unfold jc;intro x hx
 rcases b2s.1 hx with rfl | hx
 · exact h8 _
 split at hx
 · unfold qu at hx
   obtain ⟨i,_,rfl⟩:=b37.1 hx;exact h8 _
 split at hx
 · rcases b2z.1 hx with h | h
   · unfold ke at h
     obtain ⟨z,_,h⟩:=List.mem_flatMap.1 h;unfold vl at h;split at h
     · simp at h;omega
     simp at h;have:=z.toNat_lt;omega
   simp at h;omega
 cases hx
def tc (s:AS):Nat -> List Val -> List Int
 | _,[]=>[]
 | a,v :: vs=>if s.getLsbD a = true then jc v ++ tc s (a + 1) vs else tc s (a + 1) vs
section
variable {s:AS}
def a5j:∀ {l:List Val} {a:Nat},byR (tc s a l)
 | [],_=>fun x hx=>by cases hx
 | v :: l,a=>by
  have h:byR (tc s (a + 1) l):=a5j;unfold tc;split
  · exact as8 (as5 v) h
  exact h
def a64:∀ {l:List Val} {a:Nat},(∀ v ∈ l,bp v = true) -> bl (i2 s a l) = b8 (tc s a l)
 | [],_,_=>rfl
 | v :: l,a,h=>by
  have ih:bl (i2 s (a + 1) l) = b8 (tc s (a + 1) l):=a64 fun x hx=>h x (b38 _ hx);unfold i2 tc;split
  · rw [af9 (h v b5k)]
    show (strOfNums (jc v) ++ i2 s (a + 1) l).data.toList = _;rw [ByteArray.data_append,Array.toList_append];show b8 (jc v) ++ bl (i2 s (a + 1) l) = _;rw [ih];unfold b8;rw [List.map_append]
  exact ih
def a2b:∀ {l m:List Val} {a:Nat},l.length = m.length -> a + l.length <= 32 -> (∀ v ∈ l,eu v) -> (∀ v ∈ m,eu v) -> tc s a l = tc s a m -> fm s a l = fm s a m
 | [],[],_,_,_,_,_,_=>rfl
 | [],_ :: _,_,h,_,_,_,_=>by simp at h
 | _ :: _,[],_,h,_,_,_,_=>by simp at h
 | v :: l,w :: m,a,hl,ha,h1,h2,h=>by
  have hl2:l.length = m.length:=by simpa using hl
  have ha2:a + (l.length + 1) <= 32:=ha;unfold tc at h;unfold fm;rw [ew b5h];split at h
  · rename_i hs
    rw [if_pos hs,if_pos hs];obtain ⟨rfl,h3⟩:=ao0 (h1 v b5k) (h2 w b5k) h;have h4:fm s (a + 1) l = fm s (a + 1) m:=a2b hl2 b5h (fun x hx=>h1 x (b38 _ hx)) (fun x hx=>h2 x (b38 _ hx)) h3;rw [h4]
  rename_i hs;rw [if_neg hs,if_neg hs];exact a2b hl2 b5h (fun x hx=>h1 x (b38 _ hx)) (fun x hx=>h2 x (b38 _ hx)) h
def vd:∀ {l m:List Val} {a:Nat},l.length = m.length -> a + l.length <= 32 -> fm s a l = fm s a m -> i2 s a l = i2 s a m
 | [],[],_,_,_,_=>rfl
 | [],_ :: _,_,h,_,_=>by simp at h
 | _ :: _,[],_,h,_,_=>by simp at h
 | v :: l,w :: m,a,hl,ha,h=>by
  have hl:l.length = m.length:=by simpa using hl
  have ha:a + (l.length + 1) <= 32:=ha;unfold i2;unfold fm at h;rw [ew b5h] at h;split at h
  · rename_i hs
    rw [b4w] at h;rw [if_pos hs,if_pos hs,h.1,vd hl b5h h.2]
  rename_i hs;rw [if_neg hs,if_neg hs];exact vd hl b5h h
def abw {l m:List Val} (hl:l.length = m.length) (h32:l.length <= 32) (h1:∀ v ∈ l,eu v) (h2:∀ v ∈ m,eu v):ff l s = ff m s <-> sel l s = sel m s:=by
 constructor
 · intro h
   refine a2b hl b5h h1 h2 (ajw a5j a5j ?_);rw [<- a64 fun v hv=>(h1 v hv).1,<- a64 fun v hv=>(h2 v hv).1];exact congrArg bl h
 exact vd hl b5h
end
end
section
open Go.Proofs Go.Proofs.YteklilhbjjofbaaGreatDoor
open Go.RowKit Go.ChangeShapes Go.WideShapes Go.ChangeAt
def awi {P:Program} {t:TypeId} (ht:P.underlying t = some (.int .i64)):RdB P t 1 (at6 .i64) fun _ z=>sj z:=by
 intro H enc w sp held fuel cs x h;obtain ⟨n,rfl,_,hw⟩:=DataW.trod_int ht h;have hx:-9223372036854775808 <= n /\ n <= 9223372036854775807:=by simpa [Lit.wf,IntKind.min,IntKind.max,IntKind.signed,IntKind.bits] using hw
 refine ⟨rfl,n,hx,fun j hj=>?_⟩;obtain rfl:j = 0:=by omega
 exact ⟨_,rfl,rfl,rfl⟩
def anf (_:Nat) (v:Val):Prop:=sj v.num
def amp (b:Nat) (r:Row):Prop:=∀ i,i < r.vals.length -> anf b (r.vals.getD i default)
def avp (b:Nat) (t:Tbl):Prop:=∀ i,i < t.rows.length -> amp b (t.rows.getD i default)
def awe:RdB b65 114 3 Val.c anf:=by
 intro H enc w sp held fuel cs x h;obtain ⟨hl,n,hf⟩:=y4 Tryz.underlying114 h;obtain ⟨y0,e0⟩:=hf 0 _ rfl;obtain ⟨y1,e1⟩:=hf 1 _ rfl;obtain ⟨y2,e2⟩:=hf 2 _ rfl;obtain ⟨a0,_,h0⟩:=jg (fun _ _ _ _ _=>trivial) (aje Tryz.underlying3).toB e0;obtain ⟨a1,b1,h1⟩:=jg (B:=fun _ z=>sj z) (fun _ _ _ _ h=>h) (awi Tryz.underlying2) e1;obtain ⟨a2,_,h2⟩:=jg (fun _ _ _ _ _=>trivial) (yi Tryz.underlying9).toB e2;refine ⟨hl.trans b5w,(⟨a0,a1,a2⟩:Val),b1,fun j hj=>?_⟩
 match j,hj with
 | 0,_=>exact h0 0 b5h
 | 1,_=>exact h1 0 b5h
 | 2,_=>exact h2 0 b5h
def awp:RdB b65 110 1 (a6c 3 Val.c) fun b l=>l.length <= b /\ ∀ i,i < l.length -> anf b (l.getD i default):=a89 (fun _ _ _ _ h=>h) Tryz.underlying110 b5w b5h awe
def axj:RdB b65 112 2 Row.c amp:=by
 intro H enc w sp held fuel cs x h;obtain ⟨hl,n,hf⟩:=y4 Tryz.underlying112 h;obtain ⟨y0,e0⟩:=hf 0 _ rfl;obtain ⟨y1,e1⟩:=hf 1 _ rfl;obtain ⟨a0,_,h0⟩:=jg (fun _ _ _ _ _=>trivial) (aje Tryz.underlying2).toB e0;obtain ⟨a1,b1,h1⟩:=jg (fun b b' x h hx=>⟨b3m hx.1 h,hx.2⟩) awp e1;refine ⟨hl.trans b5w,(⟨a0,a1⟩:Row),b1.2,fun j hj=>?_⟩
 match j,hj with
 | 0,_=>exact h0 0 b5h
 | 1,_=>exact h1 0 b5h
def ays:Rd b65 9 1 xr:=(yi Tryz.underlying9).co id fun a j hj=>by obtain rfl:j = 0:=b5h;exact CoP.refl _
def axm:Rd b65 60 1 (a6c 1 xr):=ab1 Tryz.underlying60 b5w b5h ays
def azn:RdB b65 61 1 (a6c 2 Row.c) fun b l=>l.length <= b /\ ∀ i,i < l.length -> amp b (l.getD i default):=a89 (fun _ _ _ _ h=>h) Tryz.underlying61 b5w b5h axj
def ay1:RdB b65 63 3 Tbl.c avp:=by
 intro H enc w sp held fuel cs x h;obtain ⟨hl,n,hf⟩:=y4 Tryz.underlying63 h;obtain ⟨y0,e0⟩:=hf 0 _ rfl;obtain ⟨y1,e1⟩:=hf 1 _ rfl;obtain ⟨y2,e2⟩:=hf 2 _ rfl;obtain ⟨a0,_,h0⟩:=jg (fun _ _ _ _ _=>trivial) (yi Tryz.underlying9).toB e0;obtain ⟨a1,_,h1⟩:=jg (fun _ _ _ _ _=>trivial) axm.toB e1;obtain ⟨a2,b2,h2⟩:=jg (fun b b' x h hx=>⟨b3m hx.1 h,hx.2⟩) azn e2;refine ⟨hl.trans b5w,(⟨a0,a1,a2⟩:Tbl),b2.2,fun j hj=>?_⟩
 match j,hj with
 | 0,_=>exact h0 0 b5h
 | 1,_=>exact h1 0 b5h
 | 2,_=>exact h2 0 b5h
def asq {b:Nat} {t:Tbl} (h:avp b t):∀ r ∈ t.rows,∀ v ∈ r.vals,sj v.num:=fun r hr v hv=>by
 obtain ⟨i,hi,e⟩:=b35 hr;obtain ⟨j,hj,e2⟩:=b35 hv;have h1:=h i hi;rw [b9 _ _ hi,e] at h1;have h2:=h1 j hj;rw [b9 _ _ hj,e2] at h2;exact h2
def axu:b65.readableRec 63 = true /\ 63 < b65.types.size:=⟨by kernel_rfl,of_decide_eq_true b5w⟩
end
section
open Go.Proofs
def sT:List Rw:=[[0,1,5],[0,7,2]]
def fdX:List Fd:=[⟨1,2⟩]
end
end Go.Hx

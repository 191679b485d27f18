/- A part of the proof: SrK Jw2 Jn3 Jn5 Rb21 Jo2 Jr1 Ch15 Jrw1. -/
import Derived.Shelf.SlSortCmp.NoneTotal
import Derived.Test.YteklilhbjjofbaaGreatDoorLc26
import Derived.Test.YteklilhbjjofbaaGreatDoorLc28
import Derived.Test.YteklilhbjjofbaaGreatDoorLc29
set_option linter.all false
set_option maxRecDepth 100000
set_option maxHeartbeats 1000000
namespace Go.Hx
section
open Go.Proofs Go.RowKit Go.Sort
def abz {α:Type} [Inhabited α] {enc:α -> List Value} {k:Nat} (hk:∀ x,(enc x).length = k) {l:List α} {i j:Nat} (hi:i < l.length) (hj:j < k) :
 (flatK enc k l.toArray).toList[i * k + j]? = some ((enc (l.getD i default)).getD j (.bool false)):=by
 have hlt:i * k + j < l.toArray.size * k:=by rw [b3s];exact vq hi hj
 have hlt2:i * k + j < (flatK enc k l.toArray).size:=by rw [size_flatK];exact hlt
 have h:=get_flatK enc k l.toArray (i * k + j) hlt;have k0:0 < k:=by omega
 have e1:(i * k + j) / k = i:=(blk_iff k i _ k0).1 ⟨by omega,by omega⟩;have e2:(i * k + j) % k = j:=by rw [Nat.mod_eq_sub_div_mul,e1];omega
 rw [e1,e2,getElem!_pos (flatK enc k l.toArray) _ hlt2,getElem!_pos l.toArray i (by simpa using hi)] at h;rw [b4h,b3r hlt2,h];have hj2:j < (enc l.toArray[i]).length:=by rw [hk];exact hj
 rw [getElem!_pos (enc l.toArray[i]) _ hj2];simp only [List.getElem_toArray,b2r,b2q hi,b3z] at hj2 ⊢;rw [b2q hj2];rfl
def agk {P:Program} {ρ:Go.Shelf.Ren} {α:Type} [Inhabited α] (L:SlLaysF0.n6 P ρ) (k:Nat) (hk0:0 < k) (aE:∀ w,(isAgg (ρ.t 24)).run P w = .ok true w) (zE:∀ w,(Go.sizeOf (ρ.t 24)).run P w = .ok k w) (enc:α -> List Value) (hk:∀ x,(enc x).length = k) (h1:∀ x,∀ v ∈ enc x,v.oneCell' = true)
 (cf:α -> α -> Int) (hO:SWO (ltOf cf)) (hT:∀ x y,(ltOf cf) x y = false -> (ltOf cf) y x = false -> x = y)
 (g:Nat) (caps:Nat -> PV) (hg:∀ args w,(callFunc g args).run P w = .ok (.enter g args) w) (hc:∀ x y,a8 P g [.agg ((enc x).map .raw), .agg ((enc y).map .raw)] (ab [.one (.raw (.int .i64 (cf x y)))])) (id:Nat) (e:TypeId) (l:List α) (hsz:l.length <= 8589934592) :
 cw P (ρ.f 6) [.one (.ref id l.length), .one (.p (.fn g 0 caps))] [(id, .arr true k e l.length (lf (fun x j=>.raw ((enc x).getD j (.bool false))) l))] (.tup [])
  [(id, .arr true k e l.length (lf (fun x j=>.raw ((enc x).getD j (.bool false))) (l.mergeSort fun x y=>!(ltOf cf) y x)))] [id]:=by
 intro w c us hM hus
 match us,hus with
 | [u,v],⟨hu,hv,_⟩ =>
  obtain ⟨cs,rfl,hcl,_⟩:=hv;have hcs:cs = []:=b47 hcl;subst hcs;have hl1:lk [(id,a6.arr true k e l.length (lf (fun x j=>.raw ((enc x).getD j (.bool false))) l))] id = some (.arr true k e l.length (lf (fun x j=>.raw ((enc x).getD j (.bool false))) l)):=by simp [lk]
  have hu2:=(hu.2.2 _ _ _ _ hl1 rfl).2 rfl;subst hu2;have hob:=hM.objs id _ hl1;obtain ⟨h0,hmax,h5⟩:=hob;have hlen:(l.mergeSort fun x y=>!(ltOf cf) y x).length = l.length:=b5r _
  have hev:∀ f':Nat -> Nat -> PV,Evo c (lk [(id,a6.arr true k e l.length (lf (fun x j=>.raw ((enc x).getD j (.bool false))) l))]) c (lk [(id,a6.arr true k e l.length f')]) id:=fun f' =>
   .inr (.inr ⟨_, .arr true k e l.length f',k,e,l.length,l.length,hl1,rfl,by simp [lk],rfl,b2v _,fun _=>rfl,fun _ _ _ _ _ _ _ h=>by cases h⟩)
  rcases b46 l.length with hz | hpos
  · have hl:l = []:=b47 hz
    subst hl
    have hform:∃ ad cap,c.own id = .slice ad 0 cap:=by
     rcases h5 with ⟨_,xs,h2,_⟩ | ⟨_,_,ad,cap,hv,_⟩
     · rcases h2.2 with ⟨hv,_⟩ | ⟨g,cap,cur,hv,_⟩
       · exact ⟨none,0,hv⟩
       exact ⟨_,cap,hv⟩
     exact ⟨ad,cap,hv⟩
    obtain ⟨ad,cap,hown⟩:=hform;have hms:([]:List α).mergeSort (fun x y=>!(ltOf cf) y x) = []:=by simp
    rw [hown,hms];refine (AnyF.slices_SortFunc_none { L with } ad cap (.func (.func g) #[] #[]) w).mono ?_;rintro e' w' ⟨rfl,rfl⟩
    exact ⟨_,c,rfl,⟨[],rfl,trivial⟩,hM,Below.refl _ _,fun _ _ _=>⟨rfl,rfl⟩,fun id0 ob b ho hb=>.inr ⟨id0,ob,ho,hb⟩,fun id0 hid=>by
     rw [b39.1 hid]
     exact Evo.refl _ _ _⟩
  obtain ⟨h6,xs,h2,h4⟩:c.blk id = fc (c.own id) /\ ∃ xs,w.ownsRow 0 e k (c.own id) l.length xs /\ ∀ i j,i < l.length -> j < k -> ∃ x,xs[i * k + j]? = some x /\ af c.imm (lf (fun x j=>.raw ((enc x).getD j (.bool false))) l i j) x:=by
   rcases h5 with h5 | ⟨h6 | h6,_⟩
   · exact h5
   · cases h6
   omega
  obtain ⟨hxl,hrow⟩:=h2
  rcases hrow with ⟨_,hz⟩ | ⟨b,cap,cur,hown,hbase,hheap,hnc,hcm,hcs,htake⟩
  · omega
  have hblk:c.blk id b:=by rw [h6,hown];rfl
  have hlt:b < w.heap.size:=(b2t.1 hheap).1
  have hcell:∀ t,t < l.length * k -> cur[t]? = some (flatK enc k l.toArray)[t]!:=fun t ht=>by
   have htk:t / k < l.length:=Nat.div_lt_of_lt_mul (by rw [Nat.mul_comm];exact ht);have hmk:t % k < k:=Nat.mod_lt _ hk0;have hdm:t / k * k + t % k = t:=by rw [Nat.mul_comm];exact Nat.div_add_mod t k
   obtain ⟨x,hx,hr⟩:=h4 (t / k) (t % k) htk hmk;have hf:=abz (enc:=enc) hk htk hmk;rw [hdm] at hx hf;rw [<- htake,b3p,if_pos ht,b4h] at hx;rw [hx];have hr:x = (enc (l.getD (t / k) default)).getD (t % k) (.bool false) /\ _:=hr;rw [hr.1];have hft:t < (flatK enc k l.toArray).size:=by rw [size_flatK,b3s];exact ht
   rw [b4h,b3r hft] at hf;rw [getElem!_pos (flatK enc k l.toArray) _ hft];exact hf.symm
  have hH:HoldsK enc k w b 0 l.toArray:=fun j hj=>by
   have hj:j < l.length * k:=by rw [size_flatK,b3s] at hj;exact hj
   rw [b3d];refine ⟨?_,by simp [World.frozen?,hheap]⟩;simp only [World.cell?,hheap,hcell j hj];rfl
  have hcmp:CmpLays P g #[] enc k cf b 0 l.toArray.size w:=by
   intro m os dk hdk x y
   have hcimm:∀ b' ob,c.imm b' = some ob -> (sortWorldK enc k w b 0 m dk os).heap[b']? = some ob:=fun b' ob hb'=>by
    have hne:b' ≠ b:=fun he=>by
     have:=hM.sep id _ b hl1 hblk;rw [<- he,hb'] at this;cases this
    have hw:=hM.imm b' ob hb';rw [show sortWorldK enc k w b 0 m dk os = sortWorld (fun x:Value=>x) w b 0 m (flatK enc k dk) os from rfl,wt (b2t.1 hw).1 hne];exact hw
   have hrep:∀ x,gu c.imm (.agg ((enc x).map .raw)) (.agg (enc x).toArray):=fun x=>⟨enc x,rfl,by
    have:∀ l:List Value,(∀ v ∈ l,v.oneCell' = true) -> d5 c.imm (l.map .raw) l:=by
     intro l
     induction l with
     | nil=>intro _;trivial
     | cons v l ih=>exact fun h=>⟨⟨rfl,h v b5v⟩,ih fun u hu=>h u (by simp [hu])⟩
    exact this _ (h1 x)⟩
   have h:=hc x y (sortWorldK enc k w b 0 m dk os) c.imm [.agg (enc x).toArray, .agg (enc y).toArray] c.tab hcimm ⟨hrep x,hrep y,trivial⟩;refine h.mono ?_;rintro e' w' ⟨v,imm',rfl,hr,_,_,hb⟩;obtain ⟨q,os',hq⟩:=ag7 hb;exact ⟨by rw [hr.1],q,os',hq⟩
  have hS:=AnyQ.slices_SortFunc_total L k aE zE enc hk h1 cf hO g #[] b 0 cap l.toArray w hg hcmp hH hlt (by rw [b3s];omega) hT;rw [hown];refine Calls.mono hS ?_;rintro e' w' ⟨rfl,m,os,rfl⟩;generalize hSd:(l.mergeSort fun x y=>!(ltOf cf) y x) = S at *;rw [show sortWorldK enc k w b 0 m S.toArray os = sortWorld (fun x:Value=>x) w b 0 m (flatK enc k S.toArray) os from rfl]
  refine ⟨_,c,rfl,⟨[],rfl,trivial⟩,⟨fun id0 ob ho=>?_,fun id0 id1 ob0 ob1 b' ho0 ho1 _ _=>(md ho0).1.trans (md ho1).1.symm,fun b' ob hb'=>?_,fun id0 ob b' ho hb'=>?_⟩,afz,
   fun b' hb' hno=>⟨wt hb' (fun he=>hno _ _ hl1 (by rw [he];exact hblk)),rfl⟩,fun id0 ob b' ho hb'=>.inr ⟨_,_,hl1,by rw [<- (md ho).1];exact hb'⟩,fun id0 hid=>by
    rw [b39.1 hid]
    exact hev _⟩
  · obtain ⟨rfl,rfl⟩:=md ho
    refine ⟨h0,hmax, .inl ⟨h6,(flatK enc k S.toArray).toList,⟨by rw [b3m,size_flatK,b3s,hlen], .inr ⟨b,cap,putCells (fun x=>x) 0 (flatK enc k S.toArray) cur,hown,hbase,afs hheap,hnc,hcm,by simpa [putCells] using hcs, ?_⟩⟩,fun i j hi hj=>?_⟩⟩
    · have hle:l.length * k <= cap * k:=b30 _ hnc
      have:=akl (enc:=fun x:Value=>x) (d:=flatK enc k S.toArray) (cur:=cur) (by rw [size_flatK,b3s,hlen,hcs];exact hle);rw [size_flatK,b3s,hlen,List.map_id'] at this;exact this
    have hi':i < S.length:=by rw [hlen];exact hi
    refine ⟨_,abz hk hi' hj, ?_⟩;refine ⟨rfl, ?_⟩;have hj2:j < (enc (S.getD i default)).length:=by rw [hk];exact hj
    rw [b2r,b2q hj2,b3z];exact h1 _ _ (b31 hj2)
  · have hne:b' ≠ b:=fun he=>by
     have:=hM.sep id _ b hl1 hblk;rw [<- he,hb'] at this;cases this
    have hw:=hM.imm b' ob hb';rw [wt (b2t.1 hw).1 hne];exact hw
  have:=(md ho).1;subst this;exact hM.sep id0 _ b' hl1 hb'
 | [],h=>exact h.elim
 | [_],⟨_,h⟩=>exact h.elim
 | _ :: _ :: _ :: _,⟨_,_,h⟩=>exact h.elim
end
section
open Go.Proofs
def asf {α:Type} [Inhabited α] {cl:Bool} {c:α -> Nat -> PV} {x y z:α} {f:Nat -> Nat -> PV} (h0:CoP (f 0 0) (c x 0)) (h1:CoP (f 1 0) (c y 0)) (h2:CoP (f 2 0) (c z 0)):CoP (.sl 3 1 cl f) (psl 1 c [x,y,z]) :=
 CoP.sl rfl (.inl rfl) (fun h=>by cases h) fun i j hi hj=>by
  obtain rfl:j = 0:=by omega
  match i,hi with
  | 0,_=>exact h0
  | 1,_=>exact h1
  | 2,_=>exact h2
def as5 (a b:Val):orF [fz a.kind b.kind,fz a.num b.num,j2 a.str b.str] = dv a b:=by
 have e:∀ x y:Int,sgn x y = fz x y:=fun _ _=>rfl;unfold dv orF;rw [e,e];by_cases h1:fz a.kind b.kind = 0
 · by_cases h2:fz a.num b.num = 0
   · by_cases h3:j2 a.str b.str = 0
     · simp [h1,h2,h3]
     simp [h1,h2,h3]
   simp [h1,h2]
 simp [h1]
def ahi (a:Int):a8 b6g 153 [pI a] (ab [pB false]):=by
 refine hpx (nt:=6) Tryz.func153 ?_;refine fl ?_;exact hx8 rfl rfl rfl (⟨ccb b5v,trivial⟩)
def awa (a b:Int):a8 b6g 104 [pI a,pI b] (ab [pI (fz a b)]):=by
 refine hpx (nt:=20) Tryz.func104 ?_;refine w_7 ?_;refine qcx (wgx Tryz.func153) (ahi _) ?_;refine w_5 ?_;refine qcx (wgx Tryz.func153) (ahi _) ?_;refine afp ?_;refine hcd (fun h0=>?_) (fun h0=>?_)
 · refine v_4 ?_;exact ⟨cci b6a,trivial⟩
 refine w_8 ?_;refine hcd (fun h1=>?_) (fun h1=>?_)
 · refine v_4 ?_;exact ⟨cci b6a,trivial⟩
 refine v_5 ?_;exact ⟨cci b6a,trivial⟩
def aro (a b:ByteArray):a8 b6g 105 [pS a,pS b] (ab [pI (j2 a b)]):=by
 refine hpx (nt:=8) Tryz.func105 ?_;refine w_8 ?_;refine qcx asg (as0 _ _) ?_;refine v_2 ?_;exact CoL.refl _
def arn (a b:Val):a8 b6g 63 [a.pc,b.pc] (ab [pI (dv a b)]):=by
 refine hpx (nt:=22) Tryz.func63 ?_;refine sx7 ?_;refine m9 0 ?_;refine m9 1 ?_;refine w_8 ?_;refine qcx (wgx Tryz.func103) (aor _ _) ?_;refine w_4 ?_;refine qcx (wgx Tryz.func104) (awa _ _) ?_;refine w_4 ?_;refine qcx (wgx Tryz.func105) (aro _ _) ?_;refine m9 2 ?_;refine rc rfl rfl rfl rfl rfl rfl (wgx Tryz.func102) (cOr [fz a.kind b.kind,fz a.num b.num,j2 a.str b.str]) (⟨CoC.one (asf (CoP.refl _) (CoP.refl _) (CoP.refl _)),trivial⟩) rfl rfl ?_;refine v_3 ?_;exact ⟨cci (as5 a b),trivial⟩
def az7 (n:Int):a8 b6g 58 [pI n] (ab [(⟨1,n,emp⟩:Val).pc]):=by
 refine hpx (nt:=5) Tryz.func58 ?_;refine sx7 ?_;refine m9 0 ?_;refine v_7 ?_;exact CoL.refl _
def b6c {p:Prop} (h:p:=by (repeat' apply And.intro) <;> first | trivial | exact b2u rfl):p:=h
def b6e {p:Prop} (h:p:=by first | rfl | (dsimp only;omega)):p:=h
def avs (l:List Val):cw b6g 64 [.one (.ref 900 l.length)] [(900, .arr true 3 114 l.length (lf Val.c l))] (.v (.one (.p (vals (j3 l))))) [] []:=by
 refine hfx (nt:=61) Tryz.func64 ?_;refine dc ?_;refine aoo 900 rfl fun hlen=>?_;refine dq ?_;refine hcd (fun h0=>?_) (fun h0=>?_)
 · refine w_5 ?_;refine c3 2 rfl rfl rfl ?_;refine hrr ?_;exact ⟨_,_,rfl,b6c,adx (k:=l.length) (b2v _) (fun j h1 h2=>by omega),trivial⟩
 refine w_7 ?_;refine ah (ι:=Nat) (ka 0 kn) (kb 900 km) (fun k=>⟨[(3,some (vI k))],[]⟩) (fun k=>1 <= k /\ k <= l.length /\ ∀ j,0 < j -> j < k -> ¬ l.getD j default = l.getD (j - 1) default) (fun k=>l.length - k) (1) (⟨b2v _,by omega,fun j h1 h2=>by omega⟩) kk ?_;rintro k ⟨hk1,hk,hI⟩;refine w_8 ?_;refine hcd (fun h1=>?_) (fun h1=>?_)
 ·
  refine uw ?_;refine am _ rfl (fun r2=>?_) (fun r2=>?_)
  ·
   have h2:=r2;have hq:=eqJ (l:=l) (a:=k) (b:=k - 1) (by simpa [and_assoc] using r2) rfl b5s;refine ke ?_;refine ah (ι:=Nat × Nat × List Val) (ka 0 (ka 4 kn)) km (fun x=>⟨[(3,some (vI x.1)),(5,some (vI ((x.2.1:Int) - k)))],[(900,some (.arr true 3 114 l.length (lf Val.c x.2.2)))]⟩) (fun x=>CpJ l k x.1 x.2.1 x.2.2) (fun x=>l.length - x.2.1) ((k,k + 1,l)) (CpJ.start hk1 b5s hI hq) ⟨⟨zy,⟨_,rfl,(coi b6e)⟩,trivial⟩,uu⟩ ?_;rintro ⟨p,q,m⟩ hC;have hC0:=hC;obtain ⟨hml,hkq,hpq,hql,_,_⟩:=hC0;dsimp only at hC hml hkq hpq hql;refine w_8 ?_;refine hcd (fun h3=>?_) (fun h3=>?_)
   ·
    simp only [fm,bh,b44] at h3;refine uw ?_;refine am _ rfl (fun r4=>?_) (fun r4=>?_)
    ·
     have h4:=r4;have hq2:=azh (l:=m) (a:=q) (b:=q - 1) (by simpa [and_assoc] using r4) (by simp only [bh];omega) (by simp only [bh];omega);refine anh ?_
     first | (refine lpz (p + 1, q + 1, m.set p (m.getD q default)) ⟨⟨⟨_, rfl, (coi (by first | rfl | (dsimp only; omega)))⟩, ⟨_, rfl, (coi (by first | rfl | (dsimp only; omega)))⟩, tt⟩, ⟨⟨_, rfl, (aal id hml.symm b5s (by dsimp only; omega) (by simp only [bh]; omega))⟩, trivial⟩⟩ ?_; exact hC.keep b5s hq2)
           | (refine lpz (p,q + 1,m) ⟨⟨⟨_,rfl,(coi b6e)⟩,⟨_,rfl,(coi b6e)⟩,tt⟩,uu⟩ ?_;exact hC.skip b5s hq2)
    have h4:=r4;have hq2:=eqJ (l:=m) (a:=q) (b:=q - 1) (by simpa [and_assoc] using r4) (by simp only [bh];omega) (by simp only [bh];omega);refine w_6 ?_
    first | (refine lpz (p + 1, q + 1, m.set p (m.getD q default)) ⟨⟨⟨_, rfl, (coi (by first | rfl | (dsimp only; omega)))⟩, ⟨_, rfl, (coi (by first | rfl | (dsimp only; omega)))⟩, tt⟩, ⟨⟨_, rfl, (aal id hml.symm b5s (by dsimp only; omega) (by simp only [bh]; omega))⟩, trivial⟩⟩ ?_; exact hC.keep b5s hq2)
          | (refine lpz (p,q + 1,m) ⟨⟨⟨_,rfl,(coi b6e)⟩,⟨_,rfl,(coi b6e)⟩,tt⟩,uu⟩ ?_;exact hC.skip b5s hq2)
   simp only [fm,bh,b44] at h3;refine w_6 ?_;refine r9 0 true ?_;refine w_5 ?_;refine an5 rfl rfl rfl rfl rfl ?_;refine w_2 ?_;refine hrr ?_;exact ⟨_,_,rfl,b6c,ar4 hC b5s (by simp [bh]),trivial⟩
  have h2:=r2;have hq:=neJ (l:=l) (a:=k) (b:=k - 1) (by simpa [and_assoc] using r2) rfl b5s;refine w_6 ?_;refine lpz (k + 1) kk ?_;refine ⟨by omega,by show k + 1 <= _;omega,fun j h1 h2=>?_⟩
  rcases b5l (Nat.le_of_lt_succ h2) with h | h
  · exact hI j h1 h
  subst h;exact hq
 refine w_6 ?_;refine c3 2 rfl rfl rfl ?_;refine hrr ?_;exact ⟨_,_,rfl,b6c,adx (k:=k) b5s hI,trivial⟩
abbrev uq (v:Val):List Value:=[.int .i64 v.kind, .int .i64 v.num, .string v.str]
def awn (v:Val):∀ j,j < 3 -> (PV.raw ((uq v).getD j (.bool false))) = v.c j:=a2r rfl rfl rfl
def aln (g:Nat) (caps:Nat -> PV) (hg:∀ args w,(callFunc g args).run b6g w = .ok (.enter g args) w) (hc:∀ x y:Val,a8 b6g g [x.pc,y.pc] (ab [pI (dv x y)])) (id:Nat) (l:List Val) (hsz:l.length <= 8589934592) :
 cw b6g 62 [.one (.ref id l.length), .one (.p (.fn g 0 caps))] [(id, .arr true 3 114 l.length (lf (fun v j=>.raw ((uq v).getD j (.bool false))) l))] (.tup []) [(id, .arr true 3 114 l.length (lf (fun v j=>.raw ((uq v).getD j (.bool false))) (a2u dv l)))] [id] :=
 agk Tryz.laysSortV 3 b5x Tryz.isAgg114 Tryz.sizeOf114 uq (fun _=>rfl) (fun x v hv=>by
  rcases b2z.1 hv with rfl | hv
  · rfl
  rcases b2z.1 hv with rfl | hv
  · rfl
  rcases b2z.1 hv with rfl | hv
  · rfl
  cases hv) dv jw.swo jw.eq g caps hg (fun x y=>hc x y) id 114 l hsz
def aqz {wr wr':Bool} {n:Nat} {e:TypeId} {l:List Val} (hw:wr' = true -> wr = true):CoO (.arr wr 3 e n (lf (fun v j=>.raw ((uq v).getD j (.bool false))) l)) (.arr wr' 3 e n (lf Val.c l)) :=
 ⟨hw,rfl,rfl,rfl,fun i j hi hj=>CoP.of_eq (awn _ j hj)⟩
def co_encV' {wr wr':Bool} {n:Nat} {e:TypeId} {l:List Val} (hw:wr' = true -> wr = true):CoO (.arr wr 3 e n (lf Val.c l)) (.arr wr' 3 e n (lf (fun v j=>.raw ((uq v).getD j (.bool false))) l)) :=
 ⟨hw,rfl,rfl,rfl,fun i j hi hj=>CoP.of_eq (awn _ j hj).symm⟩
def atx (id:Nat) (l:List Val) (hsz:l.length <= 8589934592) (caps:Nat -> PV) :
 cw b6g 62 [.one (.ref id l.length), .one (.p (.fn 63 0 caps))] [(id, .arr true 3 114 l.length (lf (fun v j=>.raw ((uq v).getD j (.bool false))) l))] (.tup []) [(id, .arr true 3 114 l.length (lf (fun v j=>.raw ((uq v).getD j (.bool false))) (a2u dv l)))] [id] :=
 aln 63 caps (enters_of Tryz.func63 (by kernel_rfl) rfl) arn id l hsz
end
section
abbrev a3t:PV:=.sl 0 3 true (lf Val.c [])
def sx (R:List Row) (a:Nat):Nat -> Nat -> PV:=fun i _=>if i < a then vals (ux R i) else a3t
section
variable {R:List Row} {a:Nat}
def ap5 {j:Nat}:sx R a a j = a3t:=if_neg (Nat.lt_irrefl a)
def aha {j:Nat}:CoP (vals (ux R a)) (sx R (a + 1) a j):=CoP.of_eq (if_pos (Nat.lt_succ_self a)).symm
variable {n:Nat}
def aqi:∀ i,i < n -> i ≠ a -> CoP (sx R a i 0) (sx R (a + 1) i 0):=fun i _ h=>by
 refine CoP.of_eq ?_;unfold sx;by_cases h1:i < a
 · rw [if_pos h1,if_pos b5s]
 rw [if_neg h1,if_neg b5s]
variable {e:TypeId} {f:Nat -> Nat -> PV}
def aia {n':Nat} (hn:n' = n) (hf:∀ i,CoP (f i 0) a3t):CoO (.arr true 1 e n f) (.arr true 1 e n' (sx R 0)):=by
 subst hn;refine ⟨fun h=>h,rfl,rfl,rfl,fun i j hi hj=>?_⟩;obtain rfl:j = 0:=by omega
 have:sx R 0 i 0 = a3t:=if_neg b5s;rw [this];exact hf i
variable {cl:Bool}
def am4:CoP (.sl n 1 cl (sx R n)) (pn (bc R n)):=by
 refine CoP.sl ud (.inl rfl) (fun h=>by cases h) fun i j hi hj=>CoP.of_eq ?_;show sx R n i j = vals ((bc R n).getD i default);rw [tz hi];exact if_pos hi
def akb {s:Nat}:CoP (.sl 0 s true f) a3t:=CoP.sl rfl (.inr rfl) (fun h=>h) fun i j hi _=>absurd hi (b2y i)
def xe:(mr R a).length = R.length:=b3g _
variable {g:Nat -> Nat -> PV}
def aj4 {i:Nat} (hi:i < R.length) (h:∀ j,j < 3 -> CoP (g 0 j) (((R.getD i default).vals.getD a default).c j)):
 CoO (.arr true 3 e (i + 1) (dm i (lf Val.c (mr R a)) g)) (.arr true 3 e (i + 1) (lf Val.c (mr R a))) :=
 jz (fun h=>h) fun j hj=>by
  show CoP _ (((mr R a).getD i default).c j)
  have:(mr R a).getD i default = (R.getD i default).vals.getD a default:=by
   unfold mr;simp [List.getD,hi]
  rw [this];exact h j hj
variable {l:List Val}
def apj {wr wr':Bool} (hw:wr' = true -> wr = true) (hn:n = l.length):CoO (.arr wr 3 e n (lf Val.c l)) (.arr wr' 3 e l.length (lf (fun v j=>.raw ((uq v).getD j (.bool false))) l)):=by subst hn;exact co_encV' hw
def co_encL' {wr wr':Bool} (hw:wr' = true -> wr = true) (hn:n = l.length):CoO (.arr wr 3 e n (lf (fun v j=>.raw ((uq v).getD j (.bool false))) l)) (.arr wr' 3 e l.length (lf Val.c l)):=by subst hn;exact aqz hw
variable {s:AS}
def ane {n':Nat} (hn:n' = n) (hf:∀ i,CoP (f i 0) (.raw (.map none))):CoO (.arr true 1 e n f) (.arr true 1 e n' (lvT R s 0)):=by
 subst hn;refine ⟨fun h=>h,rfl,rfl,rfl,fun i j hi hj=>?_⟩;obtain rfl:j = 0:=by omega
 have:lvT R s 0 i 0 = .raw (.map none):=if_neg b5s;rw [this];exact hf i
def aqd {k:Nat} {f:MK -> Option PV} (hf:∀ m,f m = none):CoO (.mp .str 0 f) (.mp .str 0 (qv (R.take 0) s k)):=by
 refine ⟨rfl,b2v _,fun m=>?_⟩;rw [hf m]
 cases m with
 | i q n=>exact CoM.refl _
 | s b=>exact CoM.refl _
def api {k i:Nat} (hi:i < R.length) {e:ByteArray} (he:e = er ((R.getD i default).vals.take k) s):
 CoO (.mp .str (i + 1) (t7 (qv (R.take i) s k) (.s e) (.raw (.bool true)))) (.mp .str (i + 1) (qv (R.take (i + 1)) s k)):=by
 subst he;refine ⟨rfl,b2v _,fun m=>CoM.of_eq ?_⟩
 cases m with
 | i q n=>rfl
 | s b =>
  show (bif decide (b = er ((R.getD i default).vals.take k) s) then some (PV.raw (.bool true)) else (if jp (R.take i) s k b = true then some (.raw (.bool true)) else none)) = if jp (R.take (i + 1)) s k b = true then some (.raw (.bool true)) else none
  rw [afg hi];by_cases hb:b = er ((R.getD i default).vals.take k) s
  · subst hb
    simp
  have h1:decide (b = er ((R.getD i default).vals.take k) s) = false:=decide_eq_false hb;have h2:decide (er ((R.getD i default).vals.take k) s = b) = false:=decide_eq_false fun e=>hb e.symm;rw [h1,h2,Bool.or_false];rfl
def axz {k M:Nat}:∀ i j,i < n -> j < 1 -> (∃ k',ey k (.ref M 0) (lvT R s k) i j = .ref M k' /\ k' = 0 /\ CoP (mpP .str R.length (qv (R.take R.length) s k)) (lvT R s (k + 1) i j)) \/ CoH (ey k (.ref M 0) (lvT R s k) i j) (.p (lvT R s (k + 1) i j)):=fun i j hi hj=>by
 by_cases h:i = k
 · subst h
   refine .inl ⟨0,if_pos rfl,rfl, ?_⟩;rw [b3k];exact CoP.of_eq (if_pos (Nat.lt_succ_self i)).symm
 refine .inr ?_;unfold ey;rw [if_neg h];refine CoP.of_eq ?_;unfold lvT;by_cases h1:i < k
 · rw [if_pos h1,if_pos b5s]
 rw [if_neg h1,if_neg b5s]
def awq:CoP (.sl (n + 1) 1 cl (lvT R s (n + 1))) (.sl (n + 1) 1 false (lvF R s)) :=
 CoP.sl rfl (.inl rfl) (fun h=>by cases h) fun i j hi hj=>CoP.of_eq (if_pos hi)
variable {ps:List AS}
def am9 {i:Nat} (hg:g 0 0 = .sl (n + 1) 1 cl (lvT R (ps.getD i default) (n + 1))):
 CoO (.arr true 1 e (i + 1) (dm i (lf (lvC R n) ps) g)) (.arr true 1 e (i + 1) (lf (lvC R n) ps)) :=
 jz (fun h=>h) fun j hj=>by
  obtain rfl:j = 0:=by omega
  rw [hg];exact awq
def anv {k:Nat} (hk:k <= l.length):CoP (.sl (fm (bh n (some (k:Int))) none) 3 cl (o3 (lf Val.c l) none)) (vals (l.take k)):=a0k hk
def ww {l:List (List Val)}:(f5 l).length = l.length:=by simp [f5]
def ad3 {l:List (List Val)} {i:Nat} (hi:i < l.length) (h0:CoP (g 0 0) (.raw (.int .i64 ((i:Int) + 1)))) (h1:CoP (g 0 1) (vals (l.getD i default))):
 CoO (.arr true 2 e (i + 1) (dm i (lf Row.c (f5 l)) g)) (.arr true 2 e (i + 1) (lf Row.c (f5 l))) :=
 jz (fun h=>h) fun j hj=>by
  show CoP _ (Row.c ((f5 l).getD i default) j)
  have:(f5 l).getD i default = ⟨(i:Int) + 1,l.getD i []⟩:=by
   unfold f5;simp [List.getD,hi]
  rw [this]
  rcases (by omega:j = 0 \/ j = 1) with rfl | rfl
  · exact h0
  exact h1
variable {t:Tbl}
def apk (h:¬ bo t = 0):kj t ps = bo t:=if_pos h
def aq1 (h1:bo t = 0) (h:¬ lvE t.attrs.length ps = 0):kj t ps = lvE t.attrs.length ps:=by unfold kj;rw [if_neg (by simp [h1]),if_pos h]
def apg (h1:bo t = 0) (h2:lvE t.attrs.length ps = 0) (h:(1000:Int) < ((gv t.rows ps t.attrs.length).length:Int)):kj t ps = 3:=by
 unfold kj;rw [if_neg (by simp [h1]),if_neg (by simp [h2]),if_pos b5s]
def a5l (h1:bo t = 0) (h2:lvE t.attrs.length ps = 0) (h:¬ (1000:Int) < ((gv t.rows ps t.attrs.length).length:Int)):kj t ps = 0:=by
 unfold kj;rw [if_neg (by simp [h1]),if_neg (by simp [h2]),if_neg b5s]
def a6e {e:Int} (h:kj t ps = e) (he:e ≠ 0):qs t ps = T0:=if_neg (by rw [h];exact he)
def a5r (h:kj t ps = 0):qs t ps = ⟨t.name,t.attrs,f5 (gv t.rows ps t.attrs.length)⟩:=if_pos h
def ads {n:Int} (h:lvE n ps = 0):0 < ps.length:=by
 cases ps with
 | nil =>
  exfalso;unfold lvE at h
  repeat' split at h
  all_goals first | omega | (simp at * <;> omega)
 | cons x l=>simp
def aql {n:Int} (h:lvE n ps = 0):ps.length <= 64:=by
 unfold lvE at h
 repeat' split at h
 all_goals omega
def afj {n:Int} (h:lvE n ps = 0):0 <= n /\ n <= 8:=by
 unfold lvE at h
 repeat' split at h
 all_goals omega
end
end
section
abbrev RSt:=Bool × Int × Int × Int
abbrev RSt.c (s:RSt):Nat -> PV:=fun j=>[.raw (.bool s.1), .raw (.int .i64 s.2.1), .raw (.int .i64 s.2.2.1), .raw (.int .i64 s.2.2.2)].getD j .any
abbrev RSt.pc (s:RSt):PC:=.agg [.raw (.bool s.1), .raw (.int .i64 s.2.1), .raw (.int .i64 s.2.2.1), .raw (.int .i64 s.2.2.2)]
abbrev ank (l:List RSt):PV:=psl 4 RSt.c l
def St.r (s:St):RSt:=(s.1,(s.2.1:Int),(s.2.2.1:Int),(s.2.2.2:Int))
def arq {l:List St}:CoP (stl l) (ank (l.map St.r)):=by
 refine CoP.sl (b3g _) (.inl rfl) (fun h=>h) fun i j hi hj=>CoP.of_eq ?_;show St.c (l.getD i default) j = RSt.c ((l.map St.r).getD i default) j;have:(l.map St.r).getD i default = St.r (l.getD i default):=by simp [List.getD,hi]
 rw [this];rfl
abbrev wz (a:Int) (l:List Rw) (p m:List Fd) (s:RSt):Int × List Rw × Int:=gr a l p m s.1 s.2.1 s.2.2.1 s.2.2.2
def xn (n:Int) (p m:List Fd):Int -> List Rw -> List RSt -> Bool
 | _,l,[]=>l5 n l
 | a,l,s :: r=>if (wz a l p m s).2.2 = 0 then xn n p m (wz a l p m s).1 (wz a l p m s).2.1 r else false
def ur (n:Int) (ps:List AS) (p m:List Fd) (sts:List RSt):Bool:=decide (lvE n ps = 0) && (decide (cg n p m = 0) && xn n p m n (aw (au n ps)) sts)
structure xd (n:Int) (ps:List AS) (p m:List Fd) (sts:List RSt) (x:Nat × Int × List Rw × Int):Prop where
 le:x.1 <= sts.length
 ok:x.2.2.2 = 0 -> xn n p m n (aw (au n ps)) sts = xn n p m x.2.1 x.2.2.1 (sts.drop x.1)
 no:¬ x.2.2.2 = 0 -> xn n p m n (aw (au n ps)) sts = false
section
variable {n:Int} {ps:List AS} {p m:List Fd} {sts:List RSt}
def xd.start:xd n ps p m sts (0,n,aw (au n ps),0):=⟨b2w _,fun _=>rfl,fun h=>absurd rfl h⟩
section
variable {x:Nat × Int × List Rw × Int}
def xd.step (h:xd n ps p m sts x) (hi:x.1 < sts.length) (h0:x.2.2.2 = 0):xd n ps p m sts (x.1 + 1,(wz x.2.1 x.2.2.1 p m (sts.getD x.1 default)).1,(wz x.2.1 x.2.2.1 p m (sts.getD x.1 default)).2.1,(wz x.2.1 x.2.2.1 p m (sts.getD x.1 default)).2.2):=by
 have e:sts.drop x.1 = sts.getD x.1 default :: sts.drop (x.1 + 1):=by
  rw [b4k hi,b2r,b2q hi];rfl
 have h1:=h.ok h0;rw [e,xn] at h1;refine ⟨hi,fun h2=>?_,fun h2=>?_⟩
 · rw [h1,if_pos h2]
 rw [h1,if_neg h2]
def xd.fin (h:xd n ps p m sts x) (hi:¬ x.1 < sts.length) (h0:x.2.2.2 = 0):xn n p m n (aw (au n ps)) sts = l5 n x.2.2.1:=by
 rw [h.ok h0,List.drop_of_length_le b5s,xn]
def ahf (h:¬ lvE n ps = 0):ur n ps p m sts = false:=by unfold ur;rw [decide_eq_false h];rfl
def ahc (h:¬ cg n p m = 0):ur n ps p m sts = false:=by unfold ur;rw [decide_eq_false h];simp
def a9u (h:lvE n ps = 0) (h2:cg n p m = 0):ur n ps p m sts = xn n p m n (aw (au n ps)) sts:=by unfold ur;rw [decide_eq_true h,decide_eq_true h2];rfl
def ajs (h:lsC n ps p m = 0):lvE n ps = 0 /\ cg n p m = 0 /\ (lsT n ps p m).2.2 = 0 /\ lcR n ps p m = ((n,aw (au n ps)),(lsT n ps p m).1,(lsT n ps p m).2.1,(lsT n ps p m).2.2):=by
 obtain ⟨h1,h2⟩:=zd h;exact ⟨h1,h2,(a8g h1 h2).symm.trans h,ag9 h1 h2⟩
def atp (h:¬ lsC n ps p m = 0):prS n ps p m = [] /\ prC n ps p m = lsC n ps p m:=by
 have h':¬ (rcR n ps p m).2.2 = 0:=by rw [a9j];exact h
 exact ⟨if_neg h',by unfold prC;rw [if_neg h',a9j]⟩
def avv (h:lsC n ps p m = 0) {i:Nat} (hi:i <= (lsT n ps p m).1.length) (hI:∀ j,j < i -> l5 n ((trL n p m (aw (au n ps)) (lsT n ps p m).1).getD j default) = false)
 (hf:l5 n ((trL n p m (aw (au n ps)) (lsT n ps p m).1).getD i default) = true):prS n ps p m = (lsT n ps p m).1.take i /\ prC n ps p m = 0:=by
 have e:=aot (n:=n) (ps:=ps) (p:=p) (m:=m) h
 have hx:prX n ps p m = (i:Int):=by
  unfold prX;rw [e];refine a0l (p:=fun a:Int × List Rw=>l5 n a.2) (i:=i) (by rw [aaj];omega) (fun j hj=>?_) ?_
  · show l5 n _ = false
    rw [a6a b5s];exact hI j hj
  show l5 n _ = true;rw [a6a hi];exact hf
 constructor
 · unfold prS
   rw [hx,e,if_pos rfl,if_neg b5s];rfl
 unfold prC;rw [hx,e,if_pos rfl,if_neg b5s]
def aq2 (h:lsC n ps p m = 0) (hI:∀ j,j < (lsT n ps p m).1.length + 1 -> l5 n ((trL n p m (aw (au n ps)) (lsT n ps p m).1).getD j default) = false):prS n ps p m = [] /\ prC n ps p m = 11:=by
 have e:=aot (n:=n) (ps:=ps) (p:=p) (m:=m) h
 have hx:prX n ps p m < 0:=by
  unfold prX;rw [e]
  have:idx (fun a:Int × List Rw=>l5 n a.2) (u0 n p m (aw (au n ps)) (lsT n ps p m).1) = -1:=a0x fun j hj=>by
   rw [aaj] at hj;rw [a6a b5s];exact hI j hj
  show idx _ (u0 n p m (aw (au n ps)) (lsT n ps p m).1) < 0;omega
 constructor
 · unfold prS
   rw [e,if_pos rfl];exact if_pos hx
 unfold prC;rw [e,if_pos rfl];exact if_pos hx
end
end
def a07 (r:Rw):List Val:=r.map fun z=>⟨1,z,emp⟩
def x2 (l:List Rw):List Row:=(List.range l.length).map fun (i:Nat)=>⟨(i:Int) + 1,a07 (l.getD i default)⟩
def t6 (n:Int) (ps:List AS) (p m:List Fd):Int:=if lsC n ps p m ≠ 0 then lsC n ps p m else if l5 n (lsT n ps p m).2.1.2 = true then 10 else 0
def aau (n:Int) (ps:List AS) (p m:List Fd):Tbl:=if t6 n ps p m = 0 then ⟨⟨#[116]⟩,ec.take n.toNat,x2 (lsT n ps p m).2.1.2⟩ else T0
section
variable {n:Int} {ps:List AS} {p m:List Fd}
def ava (h:¬ lsC n ps p m = 0):t6 n ps p m = lsC n ps p m /\ aau n ps p m = T0:=by
 have e:t6 n ps p m = lsC n ps p m:=if_pos h;exact ⟨e,if_neg (by rw [e];exact h)⟩
def awh (h:lsC n ps p m = 0) (hf:l5 n (lsT n ps p m).2.1.2 = true):t6 n ps p m = 10 /\ aau n ps p m = T0:=by
 have e:t6 n ps p m = 10:=by unfold t6;rw [if_neg (by simp [h]),if_pos hf]
 exact ⟨e,if_neg (by rw [e];decide)⟩
def aw9 (h:lsC n ps p m = 0) (hf:l5 n (lsT n ps p m).2.1.2 = false):t6 n ps p m = 0 /\ aau n ps p m = ⟨⟨#[116]⟩,ec.take n.toNat,x2 (lsT n ps p m).2.1.2⟩:=by
 have e:t6 n ps p m = 0:=by unfold t6;rw [if_neg (by simp [h]),if_neg (by simp [hf])]
 exact ⟨e,if_pos e⟩
end
def ahg {a:Nat} (h:a < 8):Utf8.encode (97 + (a:Int)) = ec.getD a default:=by
 have:∀ a,a < 8 -> Utf8.encode (97 + ((a:Nat):Int)) = ec.getD a default:=by decide
 exact this a h
def an6 {r:Rw} {k:Nat} (hk:k < r.length):(a07 r).getD k default = ⟨1,r.getD k default,emp⟩:=by unfold a07;simp [List.getD,hk]
def anu {r:Rw}:(a07 r).length = r.length:=b3g _
def amj {l:List Rw}:(x2 l).length = l.length:=by simp [x2]
def ant {l:List Rw} {i:Nat} (hi:i < l.length):(x2 l).getD i default = ⟨(i:Int) + 1,a07 (l.getD i default)⟩:=by unfold x2;simp [List.getD,hi]
def b1u (n:Int) (a b:AS) (l:List Fd):Bool:=decide (d6 n l = 0) && (decide (a ||| b = ai n) && (decide (sub a (clo l (a &&& b))) || decide (sub b (clo l (a &&& b)))))
end
section
open Go.Proofs Go.Proofs.YteklilhbjjofbaaGreatDoor
open Go.RowKit Go.ChangeShapes Go.WideShapes Go.ChangeAt
def ayl:RdB b6g 90 2 Dp.c fun _ _=>True:=by
 intro H enc w sp held fuel cs x h;obtain ⟨hl,n,hf⟩:=alw Tryz.underlying90 h;obtain ⟨y0,e0⟩:=hf 0 b5s;obtain ⟨y1,e1⟩:=hf 1 b5s;have hc:b6g.cellsOf 5 = 1:=by kernel_rfl
 obtain ⟨a0,_,h0⟩:=i9 (off:=0) (fun _ _ _ _ _=>trivial) rd5.toB (by simpa using e0);obtain ⟨a1,_,h1⟩:=i9 (off:=1) (fun _ _ _ _ _=>trivial) rd5.toB (by simpa [hc] using e1);refine ⟨hl.trans b67,(⟨a0,a1⟩:Dp),trivial,fun j hj=>?_⟩
 match j,hj with
 | 0,_=>exact h0 0 b5s
 | 1,_=>exact h1 0 b5s
def aw7:RdB b6g 30 1 (acg 2 Dp.c) fun b l=>l.length <= b :=
 (zj (B:=fun _ _=>True) (fun _ _ _ _ _=>trivial) Tryz.underlying30 b67 b5s ayl).co id (fun b a h=>h.1) fun a j hj=>CoP.refl _
abbrev Rcp.c (d:Rcp):Nat -> PV:=fun j=>[.raw (.int .u8 (d.n.toNat:Int)),dpl d.f,dpl d.m,psl 1 u8C d.p].getD j .any
def azj:RdB b6g 33 4 Rcp.c fun b d=>d.f.length <= b /\ d.m.length <= b /\ d.p.length <= b:=by
 intro H enc w sp held fuel cs x h;obtain ⟨hl,n,hf⟩:=a47 Tryz.underlying33 h;obtain ⟨y0,e0⟩:=hf 0 _ rfl;obtain ⟨y1,e1⟩:=hf 1 _ rfl;obtain ⟨y2,e2⟩:=hf 2 _ rfl;obtain ⟨y3,e3⟩:=hf 3 _ rfl;obtain ⟨a0,_,h0⟩:=i9 (fun _ _ _ _ _=>trivial) rd5.toB e0;obtain ⟨a1,b1,h1⟩:=i9 (B:=fun b (l:List Dp)=>l.length <= b) (fun _ _ _ h k=>b3v k h) aw7 e1;obtain ⟨a2,b2,h2⟩:=i9 (B:=fun b (l:List Dp)=>l.length <= b) (fun _ _ _ h k=>b3v k h) aw7 e2;obtain ⟨a3,b3,h3⟩:=i9 (B:=fun b (l:List (BitVec 8))=>l.length <= b) (fun _ _ _ h k=>b3v k h) azk e3;refine ⟨hl.trans b67,(⟨a0,a1,a2,a3⟩:Rcp),⟨b1,b2,b3⟩,fun j hj=>?_⟩
 match j,hj with
 | 0,_=>exact h0 0 b5s
 | 1,_=>exact h1 0 b5s
 | 2,_=>exact h2 0 b5s
 | 3,_=>exact h3 0 b5s
abbrev C3:=BitVec 8 × BitVec 8 × BitVec 8
abbrev C3.c (x:C3):Nat -> PV:=fun j=>[.raw (.int .u8 (x.1.toNat:Int)), .raw (.int .u8 (x.2.1.toNat:Int)), .raw (.int .u8 (x.2.2.toNat:Int))].getD j .any
def ano:Rd b6g 5 1 at9:=(aom Tryz.underlying5).co id fun a j hj=>by obtain rfl:j = 0:=b5s;exact CoP.refl _
def aws:Rd b6g 31 1 al2:=(ako Tryz.underlying31 b67 b5s ano).co id fun a j hj=>by obtain rfl:j = 0:=b5s;exact CoP.refl _
def axo:RdB b6g 72 1 (acg 1 al2) fun b l=>l.length <= b :=
 (zj (B:=fun _ _=>True) (fun _ _ _ _ _=>trivial) Tryz.underlying72 b67 b5s aws.toB).co id (fun b a h=>h.1) fun a j hj=>CoP.refl _
def azr:RdB b6g 74 3 fq.c fun b x=>x.rows.length <= b:=by
 intro H enc w sp held fuel cs x h;obtain ⟨hl,n,hf⟩:=a47 Tryz.underlying74 h;obtain ⟨y0,e0⟩:=hf 0 _ rfl;obtain ⟨y1,e1⟩:=hf 1 _ rfl;obtain ⟨y2,e2⟩:=hf 2 _ rfl;obtain ⟨a0,_,h0⟩:=i9 (fun _ _ _ _ _=>trivial) ano.toB e0;obtain ⟨a1,_,h1⟩:=i9 (fun _ _ _ _ _=>trivial) ano.toB e1;obtain ⟨a2,b2,h2⟩:=i9 (B:=fun b (l:List (List UInt8))=>l.length <= b) (fun _ _ _ h k=>b3v k h) axo e2;refine ⟨hl.trans b67,(⟨a0,a1,a2⟩:fq),b2,fun j hj=>?_⟩
 match j,hj with
 | 0,_=>exact h0 0 b5s
 | 1,_=>exact h1 0 b5s
 | 2,_=>exact h2 0 b5s
def axa:b6g.readableRec 74 = true /\ 74 < b6g.types.size:=⟨by kernel_rfl,of_decide_eq_true b67⟩
def axu:b6g.readableRec 33 = true /\ 33 < b6g.types.size:=⟨by kernel_rfl,of_decide_eq_true b67⟩
end
section
section
variable {α:Type} [DecidableEq α] {c:α -> α -> Int}
def a2c (h:Tot c):∀ (l:List α) (p:Option α),l.Pairwise (fun a b=>¬ c b a < 0) -> (∀ x,p = some x -> ∀ y ∈ l,¬ c y x < 0) -> Asc c (io p l) /\ ∀ x,p = some x -> ∀ y ∈ io p l,c x y < 0
 | [],p,_,_=>⟨List.Pairwise.nil,fun _ _ y hy=>by cases hy⟩
 | y :: l,p,hl,hp=>by
  have hl':=b3q.1 hl;simp only [io];split
  · rename_i he
    exact a2c h l p hl'.2 fun x hx z hz=>hp x hx z (by simp [hz])
  rename_i he
  obtain ⟨h1,h2⟩:=a2c h l (some y) hl'.2 fun x hx z hz=>by
   simp only [b2p] at hx;subst hx;exact hl'.1 z hz
  refine ⟨b3q.2 ⟨fun z hz=>h2 y rfl z hz,h1⟩,fun x hx z hz=>?_⟩
  have hxy:c x y < 0:=by
   have h3:=hp x hx y b5v;have h4:=h.anti x y;have h5:c x y ≠ 0:=fun e=>he (by rw [hx,(h.zero x y).1 e]);omega
  rcases b2z.1 hz with rfl | hz
  · exact hxy
  exact h.tr _ _ _ hxy (h2 y rfl z hz)
def akv (h:Tot c) {l:List α} (hl:l.Pairwise fun a b=>¬ c b a < 0):Asc c (j3 l):=(a2c h l none hl fun x hx=>by cases hx).1
def x7 (c:α -> α -> Int) (x:α):List α -> List α
 | []=>[x]
 | y :: l=>if c x y < 0 then x :: y :: l else if c x y = 0 then y :: l else y :: x7 c x l
def a2v (h:Tot c) {x z:α}:∀ {l:List α},z ∈ x7 c x l <-> z = x \/ z ∈ l
 | []=>by simp [x7]
 | y :: l=>by
  unfold x7;split
  · simp
  split
  · rename_i e
    have e:=(h.zero x y).1 e;subst e;simp
  rw [b2z,a2v h (l:=l),b2z];constructor
  · rintro (e | e | e)
    · exact .inr (.inl e)
    · exact .inl e
    exact .inr (.inr e)
  rintro (e | e | e)
  · exact .inr (.inl e)
  · exact .inl e
  exact .inr (.inr e)
def aah (h:Tot c) {x:α}:∀ {l:List α},Asc c l -> Asc c (x7 c x l)
 | [],_=>by simp [x7,Asc]
 | y :: l,hl=>by
  have hl':=b3q.1 hl;unfold x7;split
  · rename_i e
    exact b3q.2 ⟨fun z hz=>by
     rcases b2z.1 hz with rfl | hz
     · exact e
     exact h.tr _ _ _ e (hl'.1 z hz),hl⟩
  split
  · exact hl
  rename_i e1 e2;refine b3q.2 ⟨fun z hz=>?_,aah h hl'.2⟩
  rcases (a2v h).1 hz with rfl | hz
  · have:=h.anti z y;omega
  exact hl'.1 z hz
def a2m (c:α -> α -> Int) (l:List α):List α:=l.foldr (x7 c) []
def aat (h:Tot c) {z:α}:∀ {l:List α},z ∈ a2m c l <-> z ∈ l
 | []=>by simp [a2m]
 | y :: l=>by
  show z ∈ x7 c y (a2m c l) <-> _;rw [a2v h,aat h (l:=l),b2z]
def ac2 (h:Tot c):∀ {l:List α},Asc c (a2m c l)
 | []=>List.Pairwise.nil
 | y :: l=>aah h (ac2 h (l:=l))
end
section
variable {R:List Row}
def a9a {a:Nat}:Asc dv (ux R a):=akv jw (jw.srt _)
def aae {a:Nat} {v:Val}:v ∈ ux R a <-> ∃ r ∈ R,r.vals.getD a default = v:=by
 unfold ux;rw [a38,aaz,mr,b3a]
def arv {a:Nat}:ux R a = a2m dv (mr R a):=by
 refine jw.ext a9a (ac2 jw) fun v=>?_;unfold ux;rw [a38,aaz,aat jw]
def amb {n:Nat}:bc R n = (List.range n).map fun a=>a2m dv (mr R a):=b4s fun a _=>arv
def aow:lsB 3 [3,6] [⟨2,4⟩] [] = true /\ lsC 3 [3,6] [⟨2,4⟩] [] = 0:=by decide +kernel
def aoh:prS 3 [3,6] [⟨2,4⟩] [] = [(false,0,0,1)] /\ prC 3 [3,6] [⟨2,4⟩] [] = 0:=by decide +kernel
def ax9:ur 3 [3,6] [⟨2,4⟩] [] [(false,0,0,1)] = true:=by decide +kernel
def awR:List Row:=[⟨1,[⟨1,0,emp⟩,⟨1,1,emp⟩,⟨1,5,emp⟩]⟩,⟨2,[⟨1,6,emp⟩,⟨1,1,emp⟩,⟨1,2,emp⟩]⟩]
def awT:Tbl:=⟨⟨#[116]⟩,ec.take 3,awR⟩
def aog:aau 3 [3,6] [] [] = awT /\ t6 3 [3,6] [] [] = 0:=by decide +kernel
def axn:(dp awR [3,6] ((List.range 3).map fun a=>a2m dv (mr awR a)) 3 [] []).length = 4:=by decide +kernel
def avt:(gv awR [3,6] 3).length = 4:=by
 unfold gv;rw [amb];exact axn
def aod:bo awT = 0 /\ lvE 3 [3,6] = 0:=by decide +kernel
def aoi:kj awT [3,6] = 0:=a5l aod.1 aod.2 (by
 show ¬ (1000:Int) < ((gv awR [3,6] 3).length:Int)
 rw [avt];decide)
def axv:(qs awT [3,6]).rows.length = 4:=by
 rw [a5r aoi];show (f5 (gv awR [3,6] 3)).length = 4;rw [ww,avt]
end
end
section
def a0f (l:List Row) (v:List Val):Bool:=l.any fun r=>decide (r.vals = v)
def ff (s:AS):Nat -> List Val -> List Val
 | _,[]=>[]
 | a,v :: l=>if bm s (a:Int) = true then v :: ff s (a + 1) l else ff s (a + 1) l
def sel (l:List Val) (s:AS):List Val:=ff s 0 l
section
variable {s:AS}
def z7:∀ {l:List Val} {a:Nat} {v:Val},ff s a (l ++ [v]) = if bm s ((a + l.length:Nat):Int) = true then ff s a l ++ [v] else ff s a l
 | [],a,v=>by
  simp only [b4e,ff,b5k,b4f]
 | x :: l,a,v=>by
  have ih:ff s (a + 1) (l ++ [v]) = if bm s ((a + 1 + l.length:Nat):Int) = true then ff s (a + 1) l ++ [v] else ff s (a + 1) l:=z7
  simp only [b4g,ff,b41];rw [ih,show a + 1 + l.length = a + (l.length + 1) by omega];split <;> split <;> simp
variable {l:List Val}
def a8k {i:Nat} (hi:i < l.length) (h:bm s (i:Int) = true):sel (l.take (i + 1)) s = sel (l.take i) s ++ [l.getD i default]:=by
 unfold sel;rw [bi hi,z7,b33,b42 b5s,b3d,if_pos h]
def a8t {i:Nat} (hi:i < l.length) (h:bm s (i:Int) = false):sel (l.take (i + 1)) s = sel (l.take i) s:=by
 unfold sel;rw [bi hi,z7,b33,b42 b5s,b3d,if_neg (by simp [h])]
def a2n:∀ {l:List Val} {a:Nat} {v:Val},v ∈ ff s a l -> v ∈ l
 | x :: l,a,v,h=>by
  unfold ff at h;split at h
  · rcases b2z.1 h with rfl | h
    · simp
    exact b3h _ (a2n h)
  exact b3h _ (a2n h)
def a9o:∀ {l:List Val} {a:Nat},(ff s a l).length <= l.length
 | [],_=>b2v _
 | x :: l,a=>by
  have:(ff s (a + 1) l).length <= l.length:=a9o;unfold ff;split <;> simp only [b41] <;> omega
def ass:(sel l s).length <= l.length:=a9o
def a4j:me l <-> ∀ v ∈ l,v.ok:=by
 constructor
 · intro h v hv
   obtain ⟨i,hi,e⟩:=b3o hv;have:=h i hi;rw [ca _ _ hi,e] at this;exact this
 intro h i hi;rw [ca _ _ hi];exact h _ (b31 hi)
def ak0 (h:me l):me (sel l s):=a4j.2 fun v hv=>a4j.1 h v (a2n hv)
def ly (a b:Row) (s:AS):Bool:=decide (sel a.vals s = sel b.vals s)
def b0a (t:Tbl) (q:AS) (r:Row) (n:Int):Bool:=t.rows.any fun x=>ly x r (q &&& ai n)
def ag8 (a b:List Row):Bool:=a.all fun r=>a0f b r.vals
def a08 (a b:Tbl):Bool:=decide (a.attrs = b.attrs) && (ag8 a.rows b.rows && ag8 b.rows a.rows)
def ay6 (a b:Tbl) (r s:Row) (i:Nat):Bool:=decide (zn a.attrs (b.attrs.getD i default) < 0) || decide (dv (r.vals.getD (zn a.attrs (b.attrs.getD i default)).toNat default) (s.vals.getD i default) = 0)
def b06 (a b:Tbl) (r s:Row):Bool:=(List.range b.attrs.length).all (ay6 a b r s)
def b12 (a b:Tbl):Bool:=b.rows.all fun s=>a.rows.any fun r=>b06 a b r s
def ve (t:Tbl) (d:Fd) (i k:Nat):Bool:=!ly (t.rows.getD i default) (t.rows.getD k default) d.lhs || ly (t.rows.getD i default) (t.rows.getD k default) d.rhs
def fdB (t:Tbl) (d:Fd):Bool:=(List.range t.rows.length).all fun i=>(List.range i).all fun k=>ve t d i k
def a8f (t:Tbl) (a b:Row) (left:AS):Bool:=t.rows.any fun x=>ly x a left && ly x b (ai t.attrs.length &&& ~~~left)
def v7 (t:Tbl) (d:Fd) (i k:Nat):Bool:=!ly (t.rows.getD i default) (t.rows.getD k default) d.lhs || a8f t (t.rows.getD i default) (t.rows.getD k default) (d.lhs ||| d.rhs)
def mvB (t:Tbl) (d:Fd):Bool:=(List.range t.rows.length).all fun i=>(List.range t.rows.length).all fun k=>v7 t d i k
end
end
section
open Go.Proofs
def sT:List Rw:=[[0,1,5],[0,7,2]]
def fdX:List Fd:=[⟨1,2⟩]
def avc {x:Fd} {cl:Bool} {f:Nat -> Nat -> PV} (h0:CoP (f 0 0) (x.c 0)) (h1:CoP (f 0 1) (x.c 1)):CoP (.sl 1 2 cl f) (fdl [x]) :=
 CoP.sl rfl (.inl rfl) (fun h=>by cases h) fun i j hi hj=>by
  obtain rfl:i = 0:=by omega
  rcases (by omega:j = 0 \/ j = 1) with rfl | rfl
  · exact h0
  exact h1
end
section
open Go.Proofs
def as2 (l:List Row) (v:List Val) (hl:tg l) (hv:me v):a8 b6g 71 [pP (rows l),pP (vals v)] (ab [pB (a0f l v)]):=by
 refine hpx (nt:=19) Tryz.func71 ?_;refine w_6 ?_;refine ci 0 rfl fun hn=>?_;refine w_4 ?_;refine ah (ι:=Nat) (ka 0 (ka 1 kn)) km (fun i=>⟨[(5,some (vI i))],[]⟩) (fun i=>i <= l.length /\ (∀ j,j < i -> decide ((l.getD j default).vals = v) = false)) (fun i=>l.length - i) (0) (⟨b2w _,b7⟩) kk ?_;rintro i ⟨hi,hIi⟩;refine w_8 ?_;refine hcd (fun h0=>?_) (fun h0=>?_)
 ·
  refine fl ?_;refine qcx (wgx Tryz.func96) (c81 (l.getD i default).vals v (hl i b5s).2 hv) ?_;refine da ?_;refine hcb (fun h1=>?_) (fun h1=>?_)
  · refine v_4 ?_;exact ⟨ccb (aoj (p:=fun r:Row=>decide (r.vals = v)) (i:=i) b5s b5t).symm,trivial⟩
  refine w_6 ?_;refine lpz (i + 1) kk ?_;exact ⟨by show i + 1 <= _;omega,av hIi b5t⟩
 obtain rfl:i = l.length:=by omega
 refine v_5 ?_;exact ⟨ccb (aon (p:=fun r:Row=>decide (r.vals = v)) hIi).symm,trivial⟩
def aes (r:Row) (s:AS) (hl:r.vals.length <= 68719476736):a8 b6g 117 [r.pc,pA s] (ab [pP (vals (sel r.vals s))]):=by
 refine hpx (nt:=26) Tryz.func117 ?_;refine sx7 ?_;refine m9 0 ?_;refine sv ?_;refine gm 5 900 true 3 114 (lf Val.c []) b5x rfl (CoP.sl rfl (.inr rfl) (fun h=>h) (fun i j hi _=>absurd hi (b2y i))) (.inr rfl) rfl ?_;refine cj (ka 1 (ka 2 kn)) (kb 0 km) (fun i=>⟨[(5,some (.v (.one (.ref 900 (sel (r.vals.take i) s).length)))),(6,some (vI i))],[(900,some (.arr true 3 114 (sel (r.vals.take i) s).length (lf Val.c (sel (r.vals.take i) s))))]⟩) r.vals.length ⟨⟨⟨_,rfl,(CoR.refl _)⟩,tt⟩,uu⟩ ?_;rintro i hi;have hlen:(sel (r.vals.take i) s).length <= i:=b3v ass (by rw [b33];omega);refine w_9 ?_;refine hcd (fun h0=>?_) (fun h0=>?_)
 ·
  refine w_7 ?_;refine qcx (wgx Tryz.func119) (aza s i) ?_;refine da ?_;refine am _ rfl (fun r1=>?_) (fun r1=>?_)
  ·
   have h1:=r1;have hh:bm s (i:Int) = true:=r1;refine w_7 ?_;refine m9 1 ?_;refine r9 2 true ?_;refine w_7 ?_
   first | (refine lpz (i + 1) ⟨⟨⟨_, rfl, (fk (a8k b5s hh))⟩, tt⟩, ⟨⟨_, rfl, (sa (a8k b5s hh) (a2r (CoP.refl _) (CoP.refl _) (CoP.refl _)))⟩, uu⟩⟩ ?_; show i + 1 <= _; omega)
         | (refine lpz (i + 1) ⟨⟨⟨_,rfl,(n4 (a8t b5s hh))⟩,tt⟩,⟨⟨_,rfl,(fw (a8t b5s hh))⟩,uu⟩⟩ ?_;show i + 1 <= _;omega)
  have h1:=r1;have hh:bm s (i:Int) = false:=r1;refine w_6 ?_
  first | (refine lpz (i + 1) ⟨⟨⟨_, rfl, (fk (a8k b5s hh))⟩, tt⟩, ⟨⟨_, rfl, (sa (a8k b5s hh) (a2r (CoP.refl _) (CoP.refl _) (CoP.refl _)))⟩, uu⟩⟩ ?_; show i + 1 <= _; omega)
        | (refine lpz (i + 1) ⟨⟨⟨_,rfl,(n4 (a8t b5s hh))⟩,tt⟩,⟨⟨_,rfl,(fw (a8t b5s hh))⟩,uu⟩⟩ ?_;show i + 1 <= _;omega)
 obtain rfl:i = r.vals.length:=by omega
 rw [show r.vals.take r.vals.length = r.vals from b3k];refine w_2 ?_;refine c3 5 rfl rfl rfl ?_;refine v_4 ?_;exact CoL.refl _
def zz:goodFn b6g 77:=wgx Tryz.func77
def a3p (a b:Row) (s:AS) (ha:a.ok) (hb:b.ok):a8 b6g 77 [a.pc,b.pc,pA s] (ab [pB (ly a b s)]):=by
 refine hpx (nt:=14) Tryz.func77 ?_;refine sx7 ?_;refine m9 0 ?_;refine m9 1 ?_;refine w_6 ?_;refine qcx (wgx Tryz.func117) (aes a s ha.1) ?_;refine w_2 ?_;refine qcx (wgx Tryz.func117) (aes b s hb.1) ?_;refine qcx (wgx Tryz.func96) (c81 (sel a.vals s) (sel b.vals s) (ak0 ha.2) (ak0 hb.2)) ?_;refine v_3 ?_;exact CoL.refl _
def adu (a b:List Row) (ha:tg a) (hb:tg b):a8 b6g 69 [pP (rows a),pP (rows b)] (ab [pB (ag8 a b)]):=by
 refine hpx (nt:=20) Tryz.func69 ?_;refine w_6 ?_;refine ci 0 rfl fun hn=>?_;refine w_4 ?_;refine ah (ι:=Nat) (ka 0 (ka 1 kn)) km (fun i=>⟨[(5,some (vI i))],[]⟩) (fun i=>i <= a.length /\ (∀ j,j < i -> a0f b (a.getD j default).vals = true)) (fun i=>a.length - i) (0) (⟨b2w _,b7⟩) kk ?_;rintro i ⟨hi,hIi⟩;refine w_8 ?_;refine hcd (fun h0=>?_) (fun h0=>?_)
 ·
  refine fl ?_;refine qcx (wgx Tryz.func71) (as2 b (a.getD i default).vals hb (ha i b5s).2) ?_;refine w_2 ?_;refine hcv (fun h1=>?_) (fun h1=>?_)
  · refine v_4 ?_;exact ⟨ccb (ue (p:=fun r:Row=>a0f b r.vals) (i:=i) b5s b62).symm,trivial⟩
  refine w_6 ?_;refine lpz (i + 1) kk ?_;exact ⟨by show i + 1 <= _;omega,av hIi b62⟩
 obtain rfl:i = a.length:=by omega
 refine v_5 ?_;exact ⟨ccb (x8 (p:=fun r:Row=>a0f b r.vals) hIi).symm,trivial⟩
def au0 (a b:Tbl) (ha:a.ok) (hb:b.ok):a8 b6g 32 [a.pc,b.pc] (ab [pB (a08 a b)]):=by
 refine hpx (nt:=24) Tryz.func32 ?_;refine sx7 ?_;refine m9 0 ?_;refine m9 1 ?_;refine w_8 ?_;refine qcx (wgx Tryz.func59) (c75 a.attrs b.attrs) ?_;refine qy ?_;refine ae rfl rfl (fun r0=>?_) (fun r0=>?_)
 ·
  have h0:=r0;(iterate 4 refine qy ?_ (hg:=(gtt r0)));refine qcx (wgx Tryz.func69) (adu a.rows b.rows ha.2.2 hb.2.2) ?_ (hg:=(gtt r0));refine w_2 ?_;refine ae rfl rfl (fun r1=>?_) (fun r1=>?_)
  ·
   have h1:=bp r0 r1;(iterate 4 refine qy ?_ (hg:=(gtt r1)));refine qcx (wgx Tryz.func69) (adu b.rows a.rows hb.2.2 ha.2.2) ?_ (hg:=(gtt r1));refine w_3 ?_
   exact hx8 rfl rfl rfl (⟨ccb (by unfold a08;simp_all),trivial⟩)
  have h1:=bp r0 r1;(iterate 5 refine k9 (gft r1) ?_);refine w_3 ?_
  exact hx8 rfl rfl rfl (⟨ccb (by unfold a08;simp_all),trivial⟩)
 have h0:=r0;(iterate 5 refine k9 (gft r0) ?_);refine w_2 ?_;(iterate 5 refine k9 rfl ?_);refine w_3 ?_
 exact hx8 rfl rfl rfl (⟨ccb (by unfold a08;simp_all),trivial⟩)
end
end Go.Hx

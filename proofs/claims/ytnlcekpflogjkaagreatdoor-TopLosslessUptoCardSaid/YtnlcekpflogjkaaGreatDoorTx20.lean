/- A part of the proof: V13 Cs16 V14 Hx24 Cs17 V15 Cs18 Cs19 Hx20 Cs20 Cs21 V19 Cs22 Cs23. -/
import Derived.Test.YtnlcekpflogjkaaGreatDoorTx19
set_option linter.all false
set_option maxRecDepth 100000
namespace Go.Hx
section
open Go.Proofs
def ala:goodFn bw0 55:=wgx Tryz.func55
def av5 (s:AS):a6 bw0 55 [pA s] (af [pP (asl (c4 s))]):=by
 refine hpx (nt:=23) Tryz.func55 ?_;refine w_8 ?_;refine qcx a8s (aki s) ?_;refine w_2 ?_;refine hcd (fun h0=>?_) (fun h0=>?_)
 · refine v_4 ?_;exact ⟨CoC.one (b3k (bbk h0)),trivial⟩
 refine w_4 ?_;refine m9 0 ?_;refine w_9 ?_;refine ah (ι:=List AS × AS) (ka 0 kn) km (fun y=>⟨[(3,some (.v (.one (.ref 0 y.1.length)))),(4,some (vA y.2))],[(0,some (.arr true 1 50 y.1.length (lf sC y.1)))]⟩) (fun y=>aez s y) (fun y=>y.2.toNat) (([s],s)) (ay0 s) ⟨tt,⟨⟨_,rfl,(ol (CoP.refl _))⟩,trivial⟩⟩ ?_;rintro y hy;have hlen:=hy.2.1;have hsl:=s.isLt;refine w_6 ?_;refine hcn (fun h1=>?_) (fun h1=>?_)
 ·
  have hne:y.2 ≠ 0:=fun e=>h1 (by rw [e];rfl);refine w_5 ?_;refine rq rfl rfl rfl rfl rfl ?_ (hp:=(amt hne));refine w_7 ?_;refine m9 1 ?_;refine r9 2 true ?_;refine w_2 ?_;refine ⟨(y.1 ++ [(y.2 - 1) &&& s],(y.2 - 1) &&& s), ?_, ?_, ?_⟩
  · exact ax9 hy hne
  · exact vv hne
  exact ⟨⟨⟨_,rfl,(bz rfl)⟩,⟨_,rfl,(oi (aq2 hne))⟩,tt⟩,⟨⟨_,rfl,(c5 rfl (CoP.of_eq (by rw [aq2 hne];rfl)))⟩,trivial⟩⟩
 have hz:y.2 = 0:=dj.1 h1;refine w_2 ?_;refine bn 3 rfl rfl rfl ?_;refine w_2 ?_;refine qcx a87 (aoy y.1 bv9) ?_;refine v_2 ?_;exact ⟨CoC.one (CoP.of_eq (by rw [be7 h0,b6x hy hz])),trivial⟩
end
section
def sn (l:List Fd) (p x:AS):Bool:=decide (clo l x &&& p ≠ x) && decide (clo l x &&& p ≠ p)
def ae7 (l:List Fd) (p:AS):Option AS:=(c4 p).find? (sn l p)
def alw (l:List Fd) (p x:AS):Fd:=⟨x,(clo l x &&& p) &&& ~~~x⟩
def kg (l:List Fd) (p:AS):Fd:=match ae7 l p with
 | some x=>alw l p x
 | none=>⟨0,0⟩
def gz (l:List Fd) (p:AS):Bool:=(ae7 l p).isSome
def bfw {α:Type} [Inhabited α] {q:α -> Bool} {l:List α} {i:Nat} (hi:i < l.length) (hI:∀ j,j < i -> q (l.getD j default) = false) (h:q (l.getD i default) = true):l.find? q = some (l.getD i default):=by
 rw [List.find?_eq_some_iff_getElem];refine ⟨h,i,hi,by simp [List.getD,hi],fun j hj=>?_⟩;have:=hI j hj;rw [brc,brb bv9,bsn] at this;simp [this]
def bgx {α:Type} [Inhabited α] {q:α -> Bool} {l:List α} (hI:∀ j,j < l.length -> q (l.getD j default) = false):l.find? q = none:=by
 rw [bub];intro x hx;obtain ⟨j,hj,rfl⟩:=bry hx;have:=hI j hj;rw [brc,brb hj,bsn] at this;simp [this]
section
variable {l:List Fd} {p:AS}
def ayd {i:Nat} (hi:i < (c4 p).length) (hI:∀ j,j < i -> sn l p ((c4 p).getD j default) = false) (h:sn l p ((c4 p).getD i default) = true):kg l p = alw l p ((c4 p).getD i default) /\ gz l p = true:=by
 have e:ae7 l p = some ((c4 p).getD i default):=bfw hi hI h;unfold kg gz;rw [e];exact ⟨rfl,rfl⟩
def axj (hI:∀ j,j < (c4 p).length -> sn l p ((c4 p).getD j default) = false):kg l p = ⟨0,0⟩ /\ gz l p = false:=by
 have e:ae7 l p = none:=bgx hI;unfold kg gz;rw [e];exact ⟨rfl,rfl⟩
def b1j {x:AS} (h:cn .and .u32 (asI (clo l x)) (asI p) = asI x):sn l p x = false:=by
 rw [tn,dj] at h;unfold sn;simp [h]
def b0a {x:AS} (h:cn .and .u32 (asI (clo l x)) (asI p) = asI p):sn l p x = false:=by
 rw [tn,dj] at h;unfold sn;simp [h]
def b29 {x:AS} (h:¬ cn .and .u32 (asI (clo l x)) (asI p) = asI x) (k:¬ cn .and .u32 (asI (clo l x)) (asI p) = asI p):sn l p x = true:=by
 rw [tn,dj] at h k;unfold sn;simp [h,k]
def b8u {i:Nat} {a b:PV} (hi:i < (c4 p).length) (hI:∀ j,j < i -> sn l p ((c4 p).getD j default) = false) (h:sn l p ((c4 p).getD i default) = true) (ha:a = asC ((c4 p).getD i default)) (hb:b = .raw (.int .u32 (cn .andNot .u32 (cn .and .u32 (asI (clo l ((c4 p).getD i default))) (asI p)) (asI ((c4 p).getD i default))))):CoC (.agg [a,b]) (kg l p).pc :=
 CoC.of_eq (by rw [(ayd hi hI h).1,ha,hb,tn,ai3];rfl)
def b3d (hI:∀ j,j < (c4 p).length -> sn l p ((c4 p).getD j default) = false):CoC (.agg [ke (.int .u32 0),ke (.int .u32 0)]) (kg l p).pc:=CoC.of_eq (by rw [(axj hI).1];rfl)
def aji {s:AS}:∀ (n:Nat) (x:AS),(a4e s n x).length <= x.toNat + 1
 | 0,x=>bre _
 | n + 1,x=>by
  unfold a4e;by_cases h0:x = 0
  · rw [if_pos h0];simp
  rw [if_neg h0,bs6];have h1:=aji (s:=s) n ((x - 1) &&& s);have h2:=vv (s:=s) h0;omega
def xr (s:AS):(c4 s).length <= 4294967296:=by
 unfold c4 a5c;have h1:=aji (s:=s) (s.toNat + 1) s;have h2:=zb (a4e s (s.toNat + 1) s);have h3:=s.isLt;split
 · simp
 omega
end
end
section
open Go.Proofs
def bkq (l:List Fd) (p:AS):a6 bw0 44 [pP (fdl l),pA p] (af [(kg l p).pc,pB (gz l p)]):=by
 refine hpx (nt:=36) Tryz.func44 ?_;refine sx7 ?_;refine m9 0 ?_;refine w_6 ?_;refine qcx ala (av5 p) ?_;refine w_4 ?_;refine ah (ι:=Nat) (ka 0 (ka 1 (ka 4 (ka 10 (ka 11 kn))))) (kb 0 km) (fun i=>⟨[(12,some (vI i))],[]⟩) (fun i=>i <= (c4 p).length /\ (∀ j,j < i -> sn l p ((c4 p).getD j default) = false)) (fun i=>(c4 p).length - i) (0) (⟨bre _,c7⟩) kk ?_;rintro i ⟨hi,hI⟩;have hlen:=xr p;refine w_5 ?_;refine hcd (fun h0=>?_) (fun h0=>?_)
 ·
  refine kf ?_;refine qcx anz (aqi l ((c4 p).getD i default)) ?_;refine dc ?_;refine aw rfl rfl (fun r1=>?_) (fun r1=>?_)
  ·
   have h1:=tz2 (eg r1);(iterate 3 refine qy ?_ (hg:=(gtt r1)));refine w_2 ?_;refine au _ rfl (fun r2=>?_) (fun r2=>?_)
   · have h2:=tz2 (eg (ck r1 r2));refine dc ?_;exact hx8 rfl rfl rfl (⟨b8u (i:=i) bv9 hI (b29 h1 h2) rfl rfl,ccb (ayd (i:=i) bv9 hI (b29 h1 h2)).2.symm,trivial⟩)
   have h2:=tz1 (ek (ck r1 r2));refine w_5 ?_;refine lpz (i + 1) kk ?_;exact ⟨by show i + 1 <= _;omega,bo hI (by first | exact b1j h1 | exact b0a h2)⟩
  have h1:=tz1 (ek r1);(iterate 3 refine k9 (gft r1) ?_);refine w_8 ?_;refine lpz (i + 1) kk ?_
  exact ⟨by show i + 1 <= _;omega,bo hI (by first | exact b1j h1 | exact b0a h2)⟩
 refine v_7 ?_;exact ⟨b3d (fun j hj=>hI j bv9),ccb (axj (fun j hj=>hI j bv9)).2.symm,trivial⟩
end
section
open Go.RowKit
section
variable {w0:World} {nt:Nat} {c:Ctx} {s:S} {a:Act} {w:World}
def ag.short (h:ag w0 nt c s a w) {id id' sz n m:Nat} {el:TypeId} {f:Nat -> Nat -> PV} (ho:s.o id = some (.arr true sz el n f)) (hm:m <= n) (hnm:NM s id') (hno:s.o id' = none) {u:Value} (hu:bm c s.o (.win id n 0 m) u) :
 ∃ c',c'.old = c.old /\ ag w0 nt c' ((s.setO id none).setO id' (some (.arr true sz el m f))) a w /\ am c' ((s.setO id none).setO id' (some (.arr true sz el m f))).o (.v (.one (.ref id' m))) u:=by
 have hne:id ≠ id':=fun e=>by rw [<- e,ho] at hno;cases hno
 obtain ⟨ad,ad',cap,q1,q2,q3,q4,q5,q6⟩:=a9i hu ho rfl;obtain ⟨h0,h1,h5⟩:=h.objs id _ ho
 have hold:∀ k ob,((s.setO id none).setO id' (some (.arr true sz el m f))).o k = some ob -> k ≠ id' -> s.o k = some ob /\ k ≠ id:=fun k ob hk hk'=>by
  simp only [S.setO,if_neg hk'] at hk;by_cases hki:k = id
  · subst hki;simp at hk
  rw [if_neg hki] at hk;exact ⟨hk,hki⟩
 obtain ⟨bk,hbk,hok⟩:∃ bk:Nat -> Prop,(∀ b,bk b -> c.blk id b) /\ ∀ c':Ctx,c'.imm = c.imm -> c'.own id' = u -> c'.blk id' = bk -> ∀ o':ap,dz 0 c' o' w id' (.arr true sz el m f):=by
  rcases h5 with ⟨h6,xs,h2,h4⟩ | ⟨h6 | h6,h7,h8⟩
  · obtain ⟨hxl,hrow⟩:=h2
    rcases hrow with ⟨hv0,hz⟩ | ⟨g,cap',cur,hown,hbase,hheap,hnc,hcm,hcs,htake⟩
    · rw [hv0] at q1
      simp only [Value.slice.injEq] at q1;obtain ⟨rfl,_,rfl⟩:=q1;obtain rfl:n = 0:=by omega
      obtain rfl:m = 0:=by omega
      refine ⟨noB,fun b hb=>hb.elim,fun c' e1 e2 e3 o'=>⟨h0,bre _, .inr ⟨.inr rfl,e3, ?_⟩⟩⟩;rw [e2,q2];exact ⟨ad',0,rfl,brd _,bre _,fun _=>rfl,fun h=>absurd h (btv 0)⟩
    rw [hown] at q1;simp only [Value.slice.injEq,true_and] at q1;obtain ⟨rfl,rfl⟩:=q1;by_cases hcap:cap' = 0
    · subst hcap
      obtain rfl:m = 0:=by omega
      refine ⟨noB,fun b hb=>hb.elim,fun c' e1 e2 e3 o'=>⟨h0,bre _, .inr ⟨.inr rfl,e3, ?_⟩⟩⟩;rw [e2,q2];exact ⟨ad',0,rfl,brd _,bre _,fun _=>rfl,fun h=>absurd h (btv 0)⟩
    obtain rfl:=q6 bv9;simp only [bs7,dh,Nat.zero_mul,bt6,Nat.sub_zero] at q2;have hmul:m * sz <= n * sz:=brq _ hm;refine ⟨en u,fun b hb=>by rw [h6,hown];rw [q2] at hb;exact hb,fun c' e1 e2 e3 o'=>⟨h0,bs4 hm h1, .inl ⟨by rw [e2,e3],xs.take (m * sz),⟨by rw [brl,hxl,bsh hmul], .inr ⟨g,cap',cur,by rw [e2,q2],hbase,hheap,by omega,hcm,hcs, ?_⟩⟩,fun i j hi hj=>?_⟩⟩⟩
    · rw [<- htake,List.take_take,bsh hmul]
    obtain ⟨x,hx,hr⟩:=h4 i j bv9 hj;refine ⟨x, ?_,by rw [e1];exact hr⟩;rw [bsa,if_pos (a8a hi hj)];exact hx
  · cases h6
  subst h6;obtain rfl:m = 0:=by omega
  refine ⟨noB,fun b hb=>hb.elim,fun c' e1 e2 e3 o'=>⟨h0,bre _, .inr ⟨.inr rfl,e3, ?_⟩⟩⟩;obtain ⟨ad2,cap2,r1,r2,r3,r4,_⟩:=h8;rw [q1] at r1;simp only [Value.slice.injEq,true_and] at r1;obtain ⟨rfl,rfl⟩:=r1;obtain rfl:cap = 0:=r4 rfl;rw [e2,q2];exact ⟨ad',0,rfl,brd _,bre _,fun _=>rfl,fun h=>absurd h (btv 0)⟩
 have hevo:∀ k,k ≠ id' -> Evo c s.o { c with own:=fun k=>if k = id' then u else c.own k,blk:=fun k=>if k = id' then bk else c.blk k } ((s.setO id none).setO id' (some (.arr true sz el m f))).o k:=fun k hk=>by
  by_cases hki:k = id
  · subst hki
    exact .inl (by simp [S.setO,hk])
  exact Evo.of_same (by simp [S.setO,hk,hki]) (by simp [hk])
 refine ⟨{ c with own:=fun k=>if k = id' then u else c.own k,blk:=fun k=>if k = id' then bk else c.blk k },rfl,⟨h.defers,h.size,h.below,fun d x hx=>?_,fun k ob hk=>?_,fun i i' obi obi' b hi hi' hb hb'=>?_,h.imm,fun k ob b hk hb=>?_,h.was,h.frm,fun k ob b hk hb=>?_,fun k hk=>?_⟩, ?_⟩
 · exact (h.tmps d x hx).evo (Imm.le.refl c.imm) fun k hkm=>hevo k (by rintro rfl;exact hnm.1 d x hx hkm)
 · by_cases hk':k = id'
   · subst hk'
     obtain rfl:ob = .arr true sz el m f:=by simpa [S.setO] using hk.symm
     refine hok _ ?_ ?_ ?_ _ <;> first | rfl | exact if_pos rfl
   obtain ⟨hk1,hk2⟩:=hold k ob hk hk';exact (h.objs k ob hk1).keep (Imm.le.refl c.imm) (by simp [hk']) (by simp [hk']) (fun j hj=>hevo j (by rintro rfl;exact hnm.2.1 k ob hk1 hj)) fun b _=>rfl
 · have hone:∀ k ob b,k ≠ id' -> ((s.setO id none).setO id' (some (.arr true sz el m f))).o k = some ob -> c.blk k b -> bk b -> False:=fun k ob b hk' hk hb hbb=>by
    obtain ⟨hk1,hk2⟩:=hold k ob hk hk';exact hk2 (h.inj k id ob _ b hk1 ho hb (hbk b hbb))
   by_cases e1:i = id'
   · by_cases e2:i' = id'
     · rw [e1,e2]
     exact (hone i' obi' b e2 hi' (by simpa [e2] using hb') (by simpa [e1] using hb)).elim
   by_cases e2:i' = id'
   · exact (hone i obi b e1 hi (by simpa [e1] using hb) (by simpa [e2] using hb')).elim
   exact h.inj i i' obi obi' b (hold i obi hi e1).1 (hold i' obi' hi' e2).1 (by simpa [e1] using hb) (by simpa [e2] using hb')
 · by_cases hk':k = id'
   · exact h.sep id _ b ho (hbk b (by simpa [hk'] using hb))
   exact h.sep k ob b (hold k ob hk hk').1 (by simpa [hk'] using hb)
 · by_cases hk':k = id'
   · exact h.fsep id _ b ho (hbk b (by simpa [hk'] using hb))
   exact h.fsep k ob b (hold k ob hk hk').1 (by simpa [hk'] using hb)
 · exact (h.fixed k hk).trans (hevo k (by have:=hnm.2.2;omega))
 refine ⟨hu.1,fun l=>by simp [S.setO],fun ob2 s2 e2 n2 ho2 hd2=>?_⟩;simp only [S.setO,if_true,bra] at ho2;subst ho2;simp only [a7.dim,bra,bri] at hd2;obtain ⟨rfl,rfl,rfl⟩:=hd2;exact ⟨brd _,fun _=>by simp⟩
end
section
variable {ro:Option Nat} {P:Program} {nt:Nat} {st:HSt} {Q:Exit -> HSt -> Prop}
def aon {c:Code} (d id2:Nat) {id n n' i m s:Nat} {e:TypeId} {f:Nat -> Nat -> PV} (hd:b9 st.t d = some (.v (.one (.win id n i m)))) (ho:b9 st.o id = some (.arr true s e n' f)) (hn:n' = n) (hi:i = 0) (hm:m <= n) (hnew:ju id2 st = true)
 (h:HW (ro:=ro) P nt c ⟨(d,some (.v (.one (.ref id2 m)))) :: st.t,(id2,some (.arr true s e m f)) :: (id,none) :: st.o⟩ Q):HW (ro:=ro) P nt c st Q:=by
 subst hn hi;obtain ⟨hnm,hno⟩:=e9 hnew;refine xk ⟨st.t,(id2,some (.arr true s e m f)) :: (id,none) :: st.o⟩ d (.v (.one (.ref id2 m))) (fun w0 m0 a w hr=>?_) h;obtain ⟨cc,hold,hrr⟩:=hr;obtain ⟨c',e1,e2,e3⟩:=hrr.short ho hm hnm hno (hrr.tmps d _ hd)
 have e4:(HSt.den ⟨st.t,(id2,some (.arr true s e m f)) :: (id,none) :: st.o⟩) = (st.den.setO id none).setO id2 (some (.arr true s e m f)):=by
  unfold HSt.den S.setO;simp [ar]
 exact ⟨c',e1.trans hold,by rw [e4];exact e2,by rw [e4];exact e3⟩
def a0s {c:Code} (d id2:Nat) {id n n' s:Nat} {e:TypeId} {f:Nat -> Nat -> PV} (hd:b9 st.t d = some (.v (.one (.ref id n)))) (ho:b9 st.o id = some (.arr true s e n' f)) (hn:n' = n) (hnew:ju id2 st = true)
 (h:HW (ro:=ro) P nt c ⟨(d,some (.v (.one (.ref id2 n)))) :: st.t,(id2,some (.arr true s e n f)) :: (id,none) :: st.o⟩ Q):HW (ro:=ro) P nt c st Q:=by
 subst hn;obtain ⟨hnm,hno⟩:=e9 hnew;refine xk ⟨st.t,(id2,some (.arr true s e n' f)) :: (id,none) :: st.o⟩ d (.v (.one (.ref id2 n'))) (fun w0 m0 a w hr=>?_) h;obtain ⟨cc,hold,hrr⟩:=hr;have hu:bm cc st.den.o (.ref id n') (a.tmps.getD d undef):=hrr.tmps d _ hd
 have hw:bm cc st.den.o (.win id n' 0 n') (a.tmps.getD d undef):=by
  refine ⟨hu.1,hu.2.1,fun ob s2 e2 n2 ho2 hd2=>⟨(hu.2.2 _ _ _ _ ho2 hd2).1,fun hk=>?_⟩⟩;have he:=(hu.2.2 _ _ _ _ ho2 hd2).2 hk;obtain rfl:ob = .arr true s e n' f:=Option.some.inj (ho2.symm.trans ho);simp only [a7.dim,bra,bri] at hd2;obtain ⟨rfl,rfl,rfl⟩:=hd2;obtain ⟨ad,cap,hv,hc1,hc2⟩:=a9h (hrr.objs _ _ ho2);exact ⟨ad,ad,cap,hv,by rw [he,hv];rfl,by omega,hc1,hc2,fun _=>by cases ad <;> simp [a5y]⟩
 obtain ⟨c',e1,e2,e3⟩:=hrr.short ho (brd _) hnm hno hw
 have e4:(HSt.den ⟨st.t,(id2,some (.arr true s e n' f)) :: (id,none) :: st.o⟩) = (st.den.setO id none).setO id2 (some (.arr true s e n' f)):=by
  unfold HSt.den S.setO;simp [ar]
 exact ⟨c',e1.trans hold,by rw [e4];exact e2,by rw [e4];exact e3⟩
end
end
section
def aoz {l:List AS} {k:Nat} (hk:l.length <= k) (h:∀ j,0 < j -> j < k -> ¬ l.getD j default = l.getD (j - 1) default):gk l = l:=by
 have:=qd (brd l.length) fun j h1 h2=>h j h1 bv9;rw [bro] at this;exact this
def aj3 {l m:List AS} {k p q:Nat} (hC:CpI l k p q m) (hq:¬ q < l.length):(gk l).length = p /\ m.take p = gk l:=by
 have e:=hC.pre;have h1:=hC.ql;have h2:=hC.len;have h3:=hC.pq;rw [show q = l.length by omega,bro] at e;exact ⟨by rw [<- e];simp;omega,e⟩
def b9w {l m:List AS} {k p q n a d:Nat} {z:List Value} {e:TypeId} (hC:CpI l k p q m) (hq:¬ q < l.length) (ha:p <= a) (hn:n = p):CoO (.arr true 1 e n (nq (lf sC m) a d z)) (.arr true 1 e (gk l).length (lf sC (gk l))):=by
 obtain ⟨h1,h2⟩:=aj3 hC hq;subst hn;refine ⟨fun h=>h,rfl,rfl,h1,fun i j hi hj=>CoP.of_eq ?_⟩;show nq (lf sC m) a d z i j = lf sC (gk l) i j;unfold nq;rw [if_neg bv9];simp only [lf,List.getD];have e:(gk l)[i]? = m[i]?:=by rw [<- h2,bsa,if_pos hi]
 rw [e]
def fe {id n m:Nat} (h:n = m):CoR (.v (.one (.ref id n))) (.v (.one (.ref id m))):=by rw [h];exact CoR.refl _
end
section
open Go.Proofs
def axq (l:List AS):cz bw0 171 [.one (.ref 900 l.length)] [(900, .arr true 1 50 l.length (lf sC l))] (.v (.one (.ref 901 (gk l).length))) [(901, .arr true 1 50 (gk l).length (lf sC (gk l)))] []:=by
 refine hfx (nt:=61) Tryz.func171 ?_;refine cq ?_;refine a8p 900 rfl fun hlen=>?_;refine dc ?_;refine hcd (fun h0=>?_) (fun h0=>?_)
 · refine w_5 ?_;refine a0s 2 901 rfl rfl rfl rfl ?_;refine hrr ?_;have he:=aoz (l:=l) (k:=l.length) (brd _) (fun j h1 h2=>by omega);exact ⟨_,_,rfl,bvb,fe (by rw [he]),⟨⟨_,rfl,jy he (by rw [he])⟩,trivial⟩⟩
 refine w_7 ?_;refine ah (ι:=Nat) (ka 0 kn) (kb 900 km) (fun k=>⟨[(3,some (vI k))],[]⟩) (fun k=>1 <= k /\ k <= l.length /\ ∀ j,0 < j -> j < k -> ¬ l.getD j default = l.getD (j - 1) default) (fun k=>l.length - k) (1) (⟨brd _,by omega,fun j h1 h2=>by omega⟩) kk ?_;rintro k ⟨hk1,hk,hI⟩;refine w_8 ?_;refine hcd (fun h1=>?_) (fun h1=>?_)
 ·
  refine va ?_;refine hcd (fun h2=>?_) (fun h2=>?_)
  ·
   refine kf ?_;refine ah (ι:=Nat × Nat × List AS) (ka 0 (ka 4 kn)) km (fun x=>⟨[(3,some (vI x.1)),(5,some (vI ((x.2.1:Int) - k)))],[(900,some (.arr true 1 50 l.length (lf sC x.2.2)))]⟩) (fun x=>CpI l k x.1 x.2.1 x.2.2) (fun x=>l.length - x.2.1) ((k,k + 1,l)) (CpI.start hk1 bv9 hI (yu bva rfl bv9)) ⟨⟨zy,⟨_,rfl,(coi bvc)⟩,trivial⟩,uu⟩ ?_;rintro ⟨p,q,m⟩ hC;have hC0:=hC;obtain ⟨hml,hkq,hpq,hql,_,_⟩:=hC0;dsimp only at hC hml hkq hpq hql;refine w_8 ?_;refine hcd (fun h3=>?_) (fun h3=>?_)
   ·
    simp only [dn,b5,brn] at h3;refine va ?_;refine hcn (fun h4=>?_) (fun h4=>?_)
    ·
     refine a4l ?_
     first | (refine lpz (p + 1, q + 1, m.set p (m.getD q default)) ⟨⟨⟨_, rfl, (coi bve)⟩, ⟨_, rfl, (coi bve)⟩, tt⟩, ⟨⟨_, rfl, (p9 id hml.symm bv9 bvq bvh)⟩, trivial⟩⟩ ?_; exact hC.keep bv9 (zd bva bvh bvh))
           | (refine lpz (p,q + 1,m) ⟨⟨⟨_,rfl,(coi bvc)⟩,⟨_,rfl,(coi bvc)⟩,tt⟩,uu⟩ ?_;exact hC.skip bv9 (yu bva bvj bvj))
    refine w_6 ?_
    first | (refine lpz (p + 1, q + 1, m.set p (m.getD q default)) ⟨⟨⟨_, rfl, (coi bve)⟩, ⟨_, rfl, (coi bve)⟩, tt⟩, ⟨⟨_, rfl, (p9 id hml.symm bv9 bvq bvh)⟩, trivial⟩⟩ ?_; exact hC.keep bv9 (zd bva bvh bvh))
          | (refine lpz (p,q + 1,m) ⟨⟨⟨_,rfl,(coi bvc)⟩,⟨_,rfl,(coi bvc)⟩,tt⟩,uu⟩ ?_;exact hC.skip bv9 (yu bva bvj bvj))
   simp only [dn,b5,brn] at h3;refine w_6 ?_;refine r9 0 true ?_;refine w_8 ?_;refine aon 2 901 rfl rfl rfl rfl (by simp only [dn,b5,brn];omega) rfl ?_;refine hrr ?_;have he:=(aj3 hC bv9).1;exact ⟨_,_,rfl,bvb,fe (by rw [he];simp [dn,b5]),⟨⟨_,rfl,b9w hC bv9 (by simp [b5]) (by simp [dn,b5])⟩,trivial⟩⟩
  refine w_6 ?_;refine lpz (k + 1) kk ?_;refine ⟨by omega,by show k + 1 <= _;omega,fun j h1 h2=>?_⟩
  rcases btr (buo h2) with h | h
  · exact hI j h1 h
  subst h;exact zd bva rfl bv9
 refine w_6 ?_;refine a0s 2 901 rfl rfl rfl rfl ?_;refine hrr ?_;have he:=aoz (l:=l) (k:=k) bv9 hI;exact ⟨_,_,rfl,bvb,fe (by rw [he]),⟨⟨_,rfl,jy he (by rw [he])⟩,trivial⟩⟩
def b98 (l:List AS) (hl:l.length <= 8589934592):cz bw0 115 [.one (.p (asl l))] [] (.v (.one (.ref 901 (ord l).length))) [(901, .arr true 1 50 (ord l).length (lf sC (ord l)))] []:=by
 refine hfx (nt:=10) Tryz.func115 ?_;refine w_7 ?_;refine fc9 aps (afc l.length false (lf sC l) bv9) trivial ?_;refine w_5 ?_;refine fc9 aug (b7e 0 _ l hl) uu ?_;refine w_4 ?_;refine jc rfl rfl rfl rfl rfl rfl (wgx Tryz.func171) ((axq (srt l)).swap 900 0) (⟨congrArg (HV.ref 0) (a8d l).symm,trivial⟩) ⟨⟨_,rfl,jy rfl (a8d l).symm⟩,trivial⟩ rfl rfl ?_;refine w_2 ?_;refine hrr ?_;exact ⟨_,_,rfl,bvb,fe (by rw [a5b]),⟨⟨_,rfl,jy (a5b _).symm (by rw [a5b])⟩,trivial⟩⟩
end
section
def bh4 (l:List Fd) (p:AS):Int:=if bj 16 l = 0 then (if 8 < bsz p then 3 else if p >>> 16 = 0 then 0 else 1) else bj 16 l
def bpu (l:List Fd) (p:AS):Fd:=if bh4 l p = 0 then kg l p else ⟨0,0⟩
def bp9 (l:List Fd) (p:AS):Bool:=decide (bh4 l p = 0) && gz l p
def bcP (n:Int) (l:List Fd) (f:Fd):Bool:=decide (f.rhs &&& ~~~f.lhs ≠ 0) && decide (clo l f.lhs ≠ aa n)
def bcS (n:Int) (l:List Fd):Bool:=decide (bj n l = 0) && !l.any (bcP n l)
def awb (n:Int) (l:List Fd):List AS:=if k6 n l 8 = 0 then (c4 (aa n)).filter fun s=>!gz l s else []
def a3k {n m:Int} {l:List Fd} (h:k6 n l m = 0):bj n l = 0 /\ n <= m:=by
 unfold k6 at h;split at h
 · rename_i hv
   split at h
   · cases h
   exact ⟨hv,by omega⟩
 rename_i hv;exact absurd h hv
end
section
def a4u (l:List Fd) (p z:AS):AS:=(p &&& clo l (z &&& p)) &&& ~~~z
def a4d (l:List Fd) (z p:AS):Bool:=decide (a4u l p z ≠ 0)
def a0c (l:List Fd) (ps:List AS):Nat -> AS -> AS
 | 0,z=>z
 | n + 1,z=>match ps.find? (a4d l z) with
  | none=>z
  | some p=>a0c l ps n (z ||| a4u l p z)
def tw (l:List Fd) (ps:List AS) (z:AS):AS:=a0c l ps 4294967297 z
def yn (l:List Fd) (ps:List AS) (f:Fd):Bool:=decide (sub f.rhs (tw l ps f.lhs))
def bmn {z m:AS} (h:m &&& ~~~z = m) (h0:m ≠ 0):z.toNat < (z ||| m).toNat:=by
 have hs:sub z (z ||| m):=aq.2 fun i _ hi=>by rw [bt5,hi];rfl
 have hle:=akl hs
 rcases btr hle with h1 | h1
 · exact h1
 exfalso;apply h0;have e:z = z ||| m:=bso h1
 apply bt0;intro i hi;have e1:=congrArg (fun s:AS=>s.getLsbD i) e;have e2:=congrArg (fun s:AS=>s.getLsbD i) h;simp only [bt5,brv,bsv] at e1 e2;have e3:(0:AS).getLsbD i = false:=by simp
 rw [e3];rw [decide_eq_true hi] at e2;clear h h0 hs hle h1 e;revert e1 e2;cases z.getLsbD i <;> cases m.getLsbD i <;> simp
def b68 {l:List Fd} {p z:AS} (h:a4d l z p = true):z.toNat < (z ||| a4u l p z).toNat:=by
 refine bmn ?_ (of_decide_eq_true h);unfold a4u;rw [BitVec.and_assoc,BitVec.and_self]
def bpz (l:List Fd) (ps:List AS) (z0:AS) (x:Nat × List Nat × AS):Prop:=a0c l ps x.1 x.2.2 = tw l ps z0 /\ 4294967296 < x.1 + x.2.2.toNat /\ x.2.1.length + x.1 = 4294967297
def bp7 (l:List Fd) (ps:List AS) (i:Nat):List Nat:=(List.range i).filter fun j=>!yn l ps (l.getD j default)
def a4a (l:List Fd) (ps:List AS):Bool:=(List.range l.length).all fun j=>yn l ps (l.getD j default)
end
section
open Go.RowKit
def bp8 (P:Program) (g:FuncId) (caps:List PC) (n:Nat) (xs:Nat -> List PC):Prop :=
 ∀ (imm:Imm) (_:vf imm) (us:List Value) (W:World) (l:Nat) (J:Nat -> World -> Prop),ct imm caps us ->
  (∀ i A,J i A -> ∀ b ob,imm b = some ob -> A.heap[b]? = some ob) ->
  (∀ i A A',J i A -> Below A.heap.size A A' -> J i A') ->
  (∀ i A vs,i < n -> J i A -> ct imm (xs i) vs -> YieldAt (rf none) 0 P l vs.toArray A fun e A'=>e = .returned (.bool true) /\ J (i + 1) A') ->
  J 0 W -> CallsIn (rf none) 0 P g (#[.func (.yield l) #[] #[]] ++ us.toArray) W fun e W'=>(∃ v,e = .returned v) /\ J n W'
section
variable {P:Program} {nt:Nat} {c:Ctx} {s:S} {a:Act} {w w0:World}
end
def bgs (r:Nat -> Nat):List (Nat × Option HR) -> List (Nat × Option HR)
 | []=>[]
 | (d,some x) :: l=>(d,some (x.ren r)) :: bgs r l
 | (d,none) :: l=>(d,none) :: bgs r l
def rgB (r:Nat -> Nat) (T:List (Nat × Option HR)) (o1 o2:List (Nat × a7)) (fx:List Nat):Bool :=
 (fx.all fun id=>Nat.ble 1000 (r id)) && ((keys o2).all fun id=>(wj fx id && wj (keys o1) id) || (Nat.blt id 1000 && nmT id T)) && (ac7 o2).all (wj (keys o2))
def bq6 (P:Program) (nt l:Nat) (body:Code) (Q:HSt -> Prop) (e:Exit) (st:HSt):Prop:=e = .normal /\ HW (ro:=some l) P nt body st fun e st=>e = .normal /\ Q st
section
variable {P:Program} {E:Env} {nt:Nat} {ops:Array Oper} {i:Nat} {o:Oper} {Q:Exit -> Act -> World -> Prop} {a:Act} {A:World} {imm:Imm}
def bho (d:Option Tmp) (x:HR) (t:List (Nat × Option HR)):List (Nat × Option HR):=match d with | some d=>(d,some x) :: t | none=>t
class TabC (imm:Imm):Prop where
 ok:vf imm
def cI (imm:Imm) (A:World) [ht:TabC imm]:Ctx:={ old:=(imm,fq A,(fun _=>undef),(fun _=>none),fun _ _=>undef),imm:=imm,tab:=ht.ok,own:=fun _=>undef,blk:=fun _=>noB,rows:=fun _ _=>undef }
variable [TabC imm]
structure It (imm:Imm) [TabC imm] (nt:Nat) (t:List (Nat × Option HR)) (a:Act) (A:World):Prop where
 defers:a.defers = []
 rel:ag A nt (cI imm A) ⟨b9 t,fun _=>none⟩ a A
section
variable {t:List (Nat × Option HR)}
theorem It.sub {t':List (Nat × Option HR)} (h:It imm nt t a A) (hs:sj t' t):It imm nt t' a A :=
 ⟨h.defers,h.rel.relax ⟨b9 t',fun _=>none⟩ (fun d x hx=>a0t hs d x hx) (fun id ob ho=>by cases ho)⟩
theorem It.move {A':World} (h:It imm nt t a A) (hi:∀ b ob,imm b = some ob -> A'.heap[b]? = some ob):It imm nt t a A':=by
 refine ⟨h.defers,by rw [h.defers];exact ta.nil _ _ _ _,h.rel.size,Below.refl _ _,fun d x hx=>?_,(fun id ob ho=>by cases ho),(fun i i' ob ob' b ho=>by cases ho),hi,(fun id ob b ho=>by cases ho),fun b _=>rfl,fun b ob hb=>hb,(fun id ob b ho=>by cases ho),fun id _=>.inl rfl⟩;exact am.evo (c:=cI imm A) (o:=fun _=>none) (Imm.le.refl imm) (fun _ _=>.inl rfl) (h.rel.tmps d x hx)
theorem It.put (h:It imm nt t a A) {d:Option Tmp} (hd:cj nt d = true) (x:HR) (v:Value) (hx:am (cI imm A) (fun _=>none) x v):It imm nt (bho d x t) (a.put d v) A:=by
 cases d with
 | none=>exact h
 | some d =>
  have:=h.rel.put d (of_decide_eq_true hd) (some x) v (fun y hy=>by cases hy;exact hx);refine ⟨h.defers, ?_⟩
  have e:(S.put ⟨b9 t,fun _=>none⟩ d (some x)) = ⟨b9 ((d,some x) :: t),fun _=>none⟩:=by
   unfold S.put;simp [ar]
  rw [e] at this;exact this
def bd7 (h:It imm nt t a A) {x:Operand} {r:HR} (hx:ev ⟨b9 t,fun _=>none⟩ x = some r):am (cI imm A) (fun _=>none) r (a.eval x):=ae h.rel hx
def iy {L:List Nat} {cl:Call} {f:Operand} {l:Nat} {R:World -> Prop} (h:It imm nt t a A) (hi:ops[i]? = some o) (hw:b7 ops ⟨b9 t,fun _=>none⟩ o = some true) (hd:cj nt o.dst = true) (ho:o.op = .call cl) (hcl:cl.callee = .value f) (hf:ev ⟨b9 t,fun _=>none⟩ f = some (bp (.raw (.func (.yield l) #[] #[])))) (hy:YieldAt (rf none) 0 P l (cl.args.toList.map a.eval).toArray A fun e A'=>e = .returned (.bool true) /\ R A') (him:∀ A',R A' -> ∀ b ob,imm b = some ob -> A'.heap[b]? = some ob) (hK:∀ a' A',R A' -> It imm nt (bho o.dst (bp (.raw (.bool true))) t) a' A' -> wpOpsIn (rf none) 0 P ops Q L a' A'):wpOpsIn (rf none) 0 P ops Q (i :: L) a A:=by
 rw [wpOpsIn_cons];unfold wpOpIn;simp only [hi];rw [if_pos (fg h.rel hw)];obtain ⟨fn,tmps,assign,body,hyr,hround⟩:=hy;have hfe:a.eval f = .func (.yield l) #[] #[]:=(bd7 h hf).1;refine ⟨fun _ _=>trivial, ?_⟩;have hsem:Oper.semAt (rf none).round a.eval o = execOp a.eval o:=rfl;rw [hsem];have hma:(cl.args.toList.map a.eval).toArray = cl.args.map a.eval:=by apply Array.toList_inj.1;rw [bu3]
 rw [hma] at hyr
 have hrun:(execOp a.eval o).run P A = .ok (.round l fn tmps assign body) A:=by
  simp only [execOp,ho,resolve,hcl,hfe,bsk,Deferred.ofValue,bsy,bs0,invoke];simpa using hyr
 rw [hrun,Oper.uponIn_round];refine ⟨fun hh=>absurd hh (by simp [rf]),hround.mono ?_⟩;rintro e A' ⟨rfl,hR⟩;exact hK _ A' hR ((h.move (him A' hR)).put hd (bp (.raw (.bool true))) (.bool true) ⟨rfl,rfl⟩)
end
end
theorem CoP.vp {k k':Nat} {f f':Nat -> PV} (hk:k' = k) (hf:∀ j,j < k -> CoP (f j) (f' j)):CoP (.vp k f) (.vp k' f'):=by
 subst hk;rintro m u ⟨b,off,rfl,h⟩
 exact ⟨b,off,rfl,fun j hj=>by
  obtain ⟨x,hx,hr⟩:=h j hj
  exact ⟨x,hx,hf j hj m x hr⟩⟩
theorem CoP.fn {g:FuncId} {k k':Nat} {f f':Nat -> PV} (hk:k' = k) (hf:∀ j,j < k -> CoP (f j) (f' j)):CoP (.fn g k f) (.fn g k' f'):=by
 subst hk;rintro m u ⟨cs,rfl,hl,h⟩
 exact ⟨cs,rfl,hl,fun j hj=>by
  obtain ⟨x,hx,hr⟩:=h j hj
  exact ⟨x,hx,hf j hj m x hr⟩⟩
def RN (P:Program) (nt:Nat) (ops:Array Oper) (L:List Nat) (st:HSt) (Q:HSt -> Prop):Prop :=
 ∀ (ro:Option Nat) (n:Nat) w0 m0 a w (QQ:Exit -> Act -> World -> Prop),Rel w0 m0 nt st.den a w -> (∀ st' a' w',Q st' -> Rel w0 m0 nt st'.den a' w' -> QQ .normal a' w') -> wpOpsIn (rf ro) n P ops QQ L a w
section
variable {P:Program} {E:Env} {nt:Nat} {ops:Array Oper} {st:HSt}
def aa3 (hE:cr P E) {ro:Option Nat} {n:Nat} {w0:World} {m0:Old} {sf:S} {L2:List Nat} {QQ:Exit -> Act -> World -> Prop} (hQ:∀ a' w',Rel w0 m0 nt sf a' w' -> wpOpsIn (rf ro) n P ops QQ L2 a' w') :
 ∀ (T:List Tr) (s:S) (a:Act) (w:World),nk P E nt ops T s sf -> Rel w0 m0 nt s a w -> wpOpsIn (rf ro) n P ops QQ (T.map (·.i) ++ L2) a w
 | [],s,a,w,hT,hr=>by
  cases hT;exact hQ _ _ hr
 | t :: T,s,a,w,hT,hr=>by
  cases hT with
  | cons hi he hR hO hF hrest =>
  rw [bt3,btc,wpOpsIn_cons];exact a7w hE he hr hi fun a' w' hr'=>aa3 hE hQ T _ a' w' hrest hr'
section
variable {Q:HSt -> Prop}
def eu (hE:cr P E) {L1 L2:List Nat} (h:Reg P E nt ops L1 st fun _ sf=>RN P nt ops L2 sf Q):RN P nt ops (L1 ++ L2) st Q:=fun ro n w0 m0 a w QQ hr hQ=>by
 obtain ⟨T,sf,hl,hT,h⟩:=h;rw [<- hl];exact aa3 hE (fun a' w' hr'=>h ro n w0 m0 a' w' QQ hr' hQ) T _ a w hT hr
def jv (h:Q st):RN P nt ops [] st Q:=fun ro n w0 m0 a w QQ hr hQ=>hQ st a w h hr
def yr {L:List Nat} (h:HE nt st fun st'=>RN P nt ops L st' Q):RN P nt ops L st Q:=fun ro n w0 m0 a w QQ hr hQ=>by
 obtain ⟨st',h1,h2⟩:=h w0 m0 a w hr;exact h1 ro n w0 m0 a w QQ h2 hQ
def f5 {ro:Option Nat} {Q:Exit -> HSt -> Prop} {id:Nat} (L1 L2:List Nat) (hl:List.range ops.size = L1 ++ L2) (h:RN P nt ops (L1 ++ L2) st (Q .normal)):HW (ro:=ro) P nt (.region id ops false) st Q:=fun w0 m0 a w hr=>by
 refine wpIn_region ?_;rw [hl];exact h ro 0 w0 m0 a w _ hr fun st' a' w' hq hr'=>⟨st',hq,hr'⟩
def aq5 (st1:HSt) (d:Nat) (x:HR) (hs:∀ w0 m0 a w,Rel w0 m0 nt st.den a w -> ∃ cc,cc.old = m0 /\ ag w0 nt cc st1.den a w /\ am cc st1.den.o x (a.tmps.getD d undef)) (h:HE nt ⟨(d,some x) :: st1.t,st1.o⟩ Q):HE nt st Q:=fun w0 m0 a w hr=>by
 obtain ⟨cc,hold,hrr,hx⟩:=hs w0 m0 a w hr;refine h w0 m0 a w ⟨cc,hold,hrr.defers,hrr.size,hrr.below,fun k y hy=>?_,hrr.objs,hrr.inj,hrr.imm,hrr.sep,hrr.was,hrr.frm,hrr.fsep,hrr.fixed⟩;simp only [HSt.den] at hy;rw [ar] at hy;dsimp only at hy;split at hy
 · rename_i hk
   subst hk;simp only [bra] at hy;subst hy;exact hx
 exact hrr.tmps k y hy
end
end
end
section
def orL (ps:List AS):AS:=ps.foldl (· ||| ·) 0
def b2x {ps:List AS} {i:Nat} (h:i < ps.length):orL (ps.take (i + 1)) = orL (ps.take i) ||| ps.getD i default:=by
 unfold orL;rw [al h,bs8];rfl
def bm3 (n:Int) (l:List Fd) (ps:List AS):Bool:=decide (orL ps = aa n) && a4a l ps && ps.any (it n l)
def bl6 (n:Int) (l:List Fd) (ps:List AS) (s:AS):List AS:=if bm3 n l (ps.eraseIdx (idx (fun x=>decide (x = s)) ps).toNat) = true then ps.eraseIdx (idx (fun x=>decide (x = s)) ps).toNat else ps
def avs (n:Int) (l:List Fd) (p0:List AS):Nat -> List AS
 | 0=>p0
 | i + 1=>bl6 n l (avs n l p0 i) (p0.getD (p0.length - 1 - i) default)
def aul (n:Int) (l:List Fd):Bool:=a4a l (awb n l)
def bpf (n:Int) (l:List Fd):List AS:=if k6 n l 8 = 0 /\ aul n l = true then avs n l (j9 (awb n l)) (j9 (awb n l)).length else []
def bpp (n:Int) (l:List Fd):Bool:=decide (k6 n l 8 = 0) && aul n l
def ax4 (l:List AS):(j9 l).Nodup:=by
 unfold j9 a8m;exact (a69 l).sublist List.filter_sublist
def bpc (n:Int) (l:List Fd) (p0:List AS) (i:Nat) (ps:List AS):Prop:=ps = avs n l p0 i /\ ps.length <= p0.length /\ ∀ j,j < p0.length - i -> p0.getD j default ∈ ps
def bes (n:Int) (l:List Fd):Option Fd:=(sb n l).find? fun f=>!yn l (awb n l) f
def bqx (n:Int) (l:List Fd):Int:=if k6 n l 8 = 0 then (match bes n l with | some _=>0 | none=>4) else k6 n l 8
def bq9 (n:Int) (l:List Fd):Fd:=if k6 n l 8 = 0 then (match bes n l with | some f=>f | none=>⟨0,0⟩) else ⟨0,0⟩
end
section
section
variable {l:List Fd}
def ajn {s:AS} (h:gz l s = true):∃ x,ae7 l s = some x /\ sub x s /\ sn l s x = true:=by
 unfold gz at h;obtain ⟨x,hx⟩:=Option.isSome_iff_exists.1 h;refine ⟨x,hx, ?_,List.find?_some hx⟩;have hm:=bus hx;unfold c4 at hm;split at hm
 · cases hm
 exact aj1.1 hm
def mf {a s:AS} (h:sub a s) (hne:a ≠ s):bsz a < bsz s:=by
 rcases btr (bd0 h) with h1 | h1
 · exact h1
 exfalso;apply hne
 have hs:(aj a).Sublist (aj s):=by
  have:aj a = (aj s).filter fun i=>a.getLsbD i:=by
   unfold aj;rw [List.filter_filter];apply List.filter_congr;intro i hi;rw [brw] at hi
   cases ha:a.getLsbD i with
   | false=>rfl
   | true=>rw [aq.1 h i hi ha];rfl
  rw [this];exact List.filter_sublist
 rw [a1n,a1n] at h1;have he:=hs.eq_of_length h1;refine dw h (aq.2 fun i hi hb=>?_);have:i ∈ aj s:=jg.2 ⟨hi,hb⟩;rw [<- he] at this;exact (jg.1 this).2
def spA (l:List Fd) (s:AS):AS:=(kg l s).lhs ||| (kg l s).rhs
def spB (l:List Fd) (s:AS):AS:=s &&& ~~~(kg l s).rhs
def qk {a b:AS}:sub (a &&& b) b:=aq.2 fun i hi h=>by rw [brv,brk] at h;exact h.2
def ed {a b:AS}:sub (a &&& b) a:=aq.2 fun i hi h=>by rw [brv,brk] at h;exact h.1
def np {a b c:AS} (h:sub a b) (k:sub a c):sub a (b &&& c):=aq.2 fun i hi ha=>by rw [brv,aq.1 h i hi ha,aq.1 k i hi ha];rfl
def a5d {s:AS} (h:gz l s = true):sub (spA l s) s /\ spA l s ≠ s /\ sub (spB l s) s /\ spB l s ≠ s:=by
 obtain ⟨x,hx,hs,hv⟩:=ajn h;unfold sn at hv;rw [brk,decide_eq_true_iff,decide_eq_true_iff] at hv;have e:kg l s = alw l s x:=by unfold kg;rw [hx]
 have hxc:sub x (clo l x &&& s):=np lw hs
 have ea:spA l s = clo l x &&& s:=by
  unfold spA;rw [e];apply dw
  · exact vc hxc ed
  refine aq.2 fun i hi hb=>?_;show (x ||| ((clo l x &&& s) &&& ~~~x)).getLsbD i = true;rw [bt5,brv,bsv,hb,decide_eq_true hi];cases x.getLsbD i <;> rfl
 refine ⟨ea ▸ qk,ea ▸ hv.2,ed,fun eb=>hv.1 ?_⟩;unfold spB at eb;rw [e] at eb;refine dw (aq.2 fun i hi hb=>?_) hxc;have hsi:s.getLsbD i = true:=aq.1 qk i hi hb;have h2:=congrArg (fun z:AS=>z.getLsbD i) eb
 have h3:(alw l s x).rhs.getLsbD i = !x.getLsbD i:=by
  show ((clo l x &&& s) &&& ~~~x).getLsbD i = _;rw [brv,hb,bsv,decide_eq_true hi];rfl
 simp only [brv,bsv,decide_eq_true hi,hsi,h3,btn,Bool.not_not] at h2;exact h2
def ux (l:List Fd):Nat -> List AS -> List AS -> List AS
 | 0,_,out=>out
 | n + 1,todo,out =>
  if todo.length = 0 then out
  else if gz l (todo.getD (todo.length - 1) default) = true then ux l n (todo.take (todo.length - 1) ++ [spA l (todo.getD (todo.length - 1) default),spB l (todo.getD (todo.length - 1) default)]) out
  else ux l n (todo.take (todo.length - 1)) (out ++ [todo.getD (todo.length - 1) default])
def a4q (n:Int) (l:List Fd):List AS:=ux l 6562 [aa n] []
def qi (n:Int) (l:List Fd):List AS:=if k6 n l 8 = 0 then j9 (a4q n l) else []
variable {n:Int}
def am4 (h:k6 n l 8 = 0):qi n l = j9 (a4q n l):=if_pos h
def bf0 (h:¬ k6 n l 8 = 0):qi n l = []:=if_neg h
def gr (todo:List AS):Nat:=(todo.map fun s=>3 ^ bsz s).sum
def ot (a b:List AS):gr (a ++ b) = gr a + gr b:=by unfold gr;rw [bth,List.sum_append]
def aqn:∀ todo:List AS,todo.length <= gr todo
 | []=>bre _
 | s :: t=>by
  have h1:=aqn t;have h2:0 < 3 ^ bsz s:=Nat.pow_pos bv9;have e:gr (s :: t) = 3 ^ bsz s + gr t:=by unfold gr;rw [bt3,List.sum_cons]
  rw [bs6,e];omega
def xi {todo:List AS} (h:0 < todo.length):todo = todo.take (todo.length - 1) ++ [todo.getD (todo.length - 1) default]:=by
 have:=al (l:=todo) (q:=todo.length - 1) bv9;rw [show todo.length - 1 + 1 = todo.length by omega,bro] at this;exact this
def a7l (n:Int) (l:List Fd) (x:Nat × List AS × List AS):Prop:=ux l x.1 x.2.1 x.2.2 = a4q n l /\ gr x.2.1 < x.1 /\ x.2.2.length + x.1 <= 6562
def ay1 {k:Nat} (h:k <= 32):bsz (kj k) <= k:=by
 unfold bsz
 have e:(List.range 32).countP (fun i=>(kj k).getLsbD i) = (List.range 32).countP fun i=>decide (i < k):=by
  apply List.countP_congr;intro i hi;rw [brw] at hi;rw [l7 k i hi]
 have h2:∀ m,(List.range m).countP (fun i=>decide (i < k)) <= k /\ (List.range m).countP (fun i=>decide (i < k)) <= m:=by
  intro m
  induction m with
  | zero=>simp
  | succ m ih =>
   rw [bsp,List.countP_append];simp only [buh,List.countP_nil];by_cases hm:m < k
   · rw [if_pos (decide_eq_true hm)];omega
   rw [if_neg (by simpa using hm)];omega
 rw [e];exact (h2 32).1
def b4a {m:Nat} (h:n <= m) (hm:m <= 32):bsz (aa n) <= m:=by
 unfold aa;exact bs4 (ay1 (Nat.min_le_right _ _)) bv9
def acl (h:k6 n l 8 = 0):a7l n l (6562,[aa n],[]):=by
 refine ⟨rfl, ?_,brd _⟩;show 3 ^ bsz (aa n) + 0 < 6562;have h1:=b4a (n:=n) (m:=8) (a3k h).2 bv9;have h2:3 ^ bsz (aa n) <= 3 ^ 8:=bsr bv9 h1;have h3:3 ^ 8 = 6561:=rfl;omega
variable {x:Nat × List AS × List AS}
def a89 (h:a7l n l x):x.2.1.length < 6562 /\ x.2.2.length <= 6562 /\ 0 < x.1:=by
 have:=aqn x.2.1;obtain ⟨h1,h2,h3⟩:=h;omega
def bbr (h:a7l n l x) (h0:x.2.1.length = 0):x.2.2 = a4q n l:=by
 have hp:=(a89 h).2.2;obtain ⟨h1,h2,h3⟩:=h;obtain ⟨m,hm⟩:∃ m,x.1 = m + 1:=⟨x.1 - 1,by omega⟩;rw [hm] at h1;unfold ux at h1;rw [if_pos h0] at h1;exact h1
def b7a (h:a7l n l x) (h0:0 < x.2.1.length) (hv:gz l (x.2.1.getD (x.2.1.length - 1) default) = true):
 a7l n l (x.1 - 1,x.2.1.take (x.2.1.length - 1) ++ [spA l (x.2.1.getD (x.2.1.length - 1) default),spB l (x.2.1.getD (x.2.1.length - 1) default)],x.2.2):=by
 have hp:=(a89 h).2.2;obtain ⟨h1,h2,h3⟩:=h;obtain ⟨m,hm⟩:∃ m,x.1 = m + 1:=⟨x.1 - 1,by omega⟩;rw [hm] at h1;unfold ux at h1;rw [if_neg bv9,if_pos hv] at h1;refine ⟨by rw [hm];exact h1, ?_,by dsimp only;omega⟩;have e:=ot (x.2.1.take (x.2.1.length - 1)) [x.2.1.getD (x.2.1.length - 1) default];rw [<- xi h0] at e;have e1:gr [x.2.1.getD (x.2.1.length - 1) default] = 3 ^ bsz (x.2.1.getD (x.2.1.length - 1) default):=by simp [gr]
 generalize x.2.1.getD (x.2.1.length - 1) default = s at *;dsimp only;rw [ot];have e2:gr [spA l s,spB l s] = 3 ^ bsz (spA l s) + 3 ^ bsz (spB l s):=by simp [gr]
 obtain ⟨f1,f2,f3,f4⟩:=a5d hv;have g1:=mf f1 f2;have g2:=mf f3 f4;obtain ⟨b,hb⟩:∃ b,bsz s = b + 1:=⟨bsz s - 1,by omega⟩;have p1:3 ^ bsz (spA l s) <= 3 ^ b:=bsr bv9 bv9;have p2:3 ^ bsz (spB l s) <= 3 ^ b:=bsr bv9 bv9;have p3:3 ^ bsz s = 3 ^ b * 3:=by rw [hb,Nat.pow_succ]
 have p4:0 < 3 ^ b:=Nat.pow_pos bv9;omega
def b89 (h:a7l n l x) (h0:0 < x.2.1.length) (hv:gz l (x.2.1.getD (x.2.1.length - 1) default) = false):
 a7l n l (x.1 - 1,x.2.1.take (x.2.1.length - 1),x.2.2 ++ [x.2.1.getD (x.2.1.length - 1) default]):=by
 have hp:=(a89 h).2.2;obtain ⟨h1,h2,h3⟩:=h;obtain ⟨m,hm⟩:∃ m,x.1 = m + 1:=⟨x.1 - 1,by omega⟩;rw [hm] at h1;unfold ux at h1;rw [if_neg bv9,if_neg (by rw [hv];decide)] at h1;refine ⟨by rw [hm];exact h1, ?_,by dsimp only;rw [brh,bst];omega⟩;have e:=ot (x.2.1.take (x.2.1.length - 1)) [x.2.1.getD (x.2.1.length - 1) default];rw [<- xi h0] at e;have e1:gr [x.2.1.getD (x.2.1.length - 1) default] = 3 ^ bsz (x.2.1.getD (x.2.1.length - 1) default):=by simp [gr]
 have p4:0 < 3 ^ bsz (x.2.1.getD (x.2.1.length - 1) default):=Nat.pow_pos bv9;dsimp only;omega
def as1 {α:Type} [Inhabited α] {wr wr':Bool} {n m:Nat} {e:TypeId} {c:α -> Nat -> PV} {l:List α} {x y:α} {f g:Nat -> Nat -> PV} (hn:n = l.length) (hf:∀ i,i < l.length -> CoP (f i 0) (lf c l i 0)) (h0:CoP (g 0 0) (c x 0)) (h1:CoP (g 1 0) (c y 0)) (hm:m = n + 2) (hw:wr' = true -> wr = true:=by exact fun h=>h) :
 CoO (.arr wr 1 e m (f8 n f g)) (.arr wr' 1 e (l ++ [x,y]).length (lf c (l ++ [x,y]))):=by
 subst hn hm;refine ⟨hw,rfl,rfl,by simp,fun i j hi hj=>?_⟩;obtain rfl:j = 0:=by omega
 unfold f8;by_cases h:i < l.length
 · rw [if_pos h]
   have:=hf i h;simp only [lf,List.getD,buq h] at this ⊢;exact this
 rw [if_neg h]
 rcases (by omega:i = l.length \/ i = l.length + 1) with rfl | rfl
 · rw [bv7]
   simp only [lf,List.getD];rw [btu (brd _),bv7];exact h0
 rw [show l.length + 1 - l.length = 1 by omega];simp only [lf,List.getD];rw [btu bv9,show l.length + 1 - l.length = 1 by omega];exact h1
def ao2 {α:Type} [Inhabited α] {wr wr':Bool} {k m:Nat} {e:TypeId} {c:α -> Nat -> PV} {l:List α} (hk:k <= l.length) (hm:m = k) (hw:wr' = true -> wr = true:=by exact fun h=>h):CoO (.arr wr 1 e m (lf c l)) (.arr wr' 1 e (l.take k).length (lf c (l.take k))):=by
 subst hm;refine ⟨hw,rfl,rfl,by rw [brl,bsh hk],fun i j hi hj=>CoP.of_eq ?_⟩;simp only [lf,List.getD,bsa,if_pos hi]
def b7f {s:AS}:PV.raw (.int .u32 (cn .or .u32 (asI (kg l s).lhs) (asI (kg l s).rhs))) = sC (spA l s) 0:=congrArg (fun z=>PV.raw (.int .u32 z)) (bOr _ _)
def b7t {t:List AS} {i j:Nat} (h:i = j):PV.raw (.int .u32 (cn .andNot .u32 (asI (t.getD i default)) (asI (kg l (t.getD j default)).rhs))) = sC (spB l (t.getD j default)) 0:=by
 subst h;exact congrArg (fun z=>PV.raw (.int .u32 z)) (ai3 _ _)
def aoo {l:List AS} {k i:Nat} (hi:i < (l.take k).length):lf sC l i 0 = lf sC (l.take k) i 0:=by
 rw [brl] at hi;simp only [lf,List.getD,bsa,if_pos (show i < k by omega)]
end
end
section
open Go.Proofs
def bvm {p:Prop} (h:p:=by simp only [dn,b5,brh,bs6,bt8,brl];omega):p:=h
def bom (n:Int) (l:List Fd):a6 bw0 11 [pI n,pP (fdl l)] (af [pP (asl (qi n l)),pI (k6 n l 8)]):=by
 refine hpx (nt:=60) Tryz.func11 ?_;refine dc ?_;refine qcx (wgx Tryz.func42) (bnp n l) ?_;refine w_7 ?_;refine hcn (fun h0=>?_) (fun h0=>?_)
 · refine v_6 ?_;exact ⟨CoC.one (b3k (bf0 h0)),CoC.refl _,trivial⟩
 refine w_2 ?_;have hv:=fz (a3k h0).1;refine w_7 ?_;refine qcx (wgx Tryz.func43) (bkz n hv.1 hv.2.1) ?_;refine m9 0 ?_;refine w_3 ?_;refine df 7 900 true 1 50 (lf sC []) bvg rfl (CoP.sl rfl (.inr rfl) (fun h=>h) (fun i j hi _=>absurd hi (brg i))) (.inr rfl) rfl ?_;refine a0s 8 901 rfl rfl rfl rfl ?_;refine ah (ι:=Nat × List AS × List AS) (ka 1 kn) km (fun x=>⟨[(7,some (.v (.one (.ref 900 x.2.2.length)))),(8,some (.v (.one (.ref 901 x.2.1.length))))],[(900,some (.arr true 1 50 x.2.2.length (lf sC x.2.2))),(901,some (.arr true 1 50 x.2.1.length (lf sC x.2.1)))]⟩) (fun x=>a7l n l x) (fun x=>x.1) ((6562,[aa n],[])) (acl h0) ⟨tt,⟨u9,⟨_,rfl,(ol (CoP.refl _))⟩,trivial⟩⟩ ?_;rintro x hx;have hlen:=a89 hx;refine a0s 8 902 rfl rfl rfl rfl ?_;refine w_7 ?_;refine hcd (fun h1=>?_) (fun h1=>?_)
 ·
  refine a4l ?_;refine zq ⟨[(1,some _),(7,some _),(8,some _),(9,some _)],[(900,some _),(902,some _)]⟩ (by exact kk) ?_;refine aon 8 901 rfl rfl rfl rfl (by simp only [dn,b5,brn];omega) rfl ?_;refine w_4 ?_;refine rc rfl rfl rfl rfl rfl rfl (wgx Tryz.func44) (bkq l (x.2.1.getD (x.2.1.length - 1) default)) (⟨CoC.refl _,CoC.one (CoP.of_eq (congrArg (fun i=>asC (x.2.1.getD i default)) bv9)),trivial⟩) rfl rfl ?_;refine w_3 ?_;refine m9 1 ?_;refine w_7 ?_;refine hcb (fun h2=>?_) (fun h2=>?_)
  ·
   refine j3 ?_;refine m9 2 ?_;refine r9 3 true ?_;refine w_2 ?_
   first | (refine ⟨(x.1 - 1, (x.2.1.take (x.2.1.length - 1)) ++ [spA l (x.2.1.getD (x.2.1.length - 1) default), spB l (x.2.1.getD (x.2.1.length - 1) default)], x.2.2), ?_, ?_, ?_⟩
            · exact b7a hx bv9 bva
            · dsimp only
              omega
            exact ⟨⟨zy,⟨_,rfl,(fe bvm)⟩,tt⟩,⟨u9,⟨_,rfl,(as1 bvm (fun i hi=>CoP.of_eq (aoo hi)) (CoP.of_eq b7f) (CoP.of_eq (b7t bv9)) rfl)⟩,trivial⟩⟩)
         | (refine ⟨(x.1 - 1,(x.2.1.take (x.2.1.length - 1)),x.2.2 ++ [(x.2.1.getD (x.2.1.length - 1) default)]), ?_, ?_, ?_⟩
            · exact b89 hx bv9 bva
            · dsimp only
              omega
            exact ⟨⟨⟨_,rfl,(bz rfl)⟩,⟨_,rfl,(fe bvm)⟩,tt⟩,⟨⟨_,rfl,(c5 rfl (CoP.of_eq (congrArg (fun i=>asC (x.2.1.getD i default)) bv9)))⟩,⟨_,rfl,(ao2 bv9 (by simp only [dn,b5];omega))⟩,trivial⟩⟩)
  refine w_3 ?_;refine m9 4 ?_;refine r9 5 true ?_;refine w_2 ?_
  first | (refine ⟨(x.1 - 1, (x.2.1.take (x.2.1.length - 1)) ++ [spA l (x.2.1.getD (x.2.1.length - 1) default), spB l (x.2.1.getD (x.2.1.length - 1) default)], x.2.2), ?_, ?_, ?_⟩
           · exact b7a hx bv9 bva
           · dsimp only
             omega
           exact ⟨⟨zy,⟨_,rfl,(fe bvm)⟩,tt⟩,⟨u9,⟨_,rfl,(as1 bvm (fun i hi=>CoP.of_eq (aoo hi)) (CoP.of_eq b7f) (CoP.of_eq (b7t bv9)) rfl)⟩,trivial⟩⟩)
        | (refine ⟨(x.1 - 1,(x.2.1.take (x.2.1.length - 1)),x.2.2 ++ [(x.2.1.getD (x.2.1.length - 1) default)]), ?_, ?_, ?_⟩
           · exact b89 hx bv9 bva
           · dsimp only
             omega
           exact ⟨⟨⟨_,rfl,(bz rfl)⟩,⟨_,rfl,(fe bvm)⟩,tt⟩,⟨⟨_,rfl,(c5 rfl (CoP.of_eq (congrArg (fun i=>asC (x.2.1.getD i default)) bv9)))⟩,⟨_,rfl,(ao2 bv9 (by simp only [dn,b5];omega))⟩,trivial⟩⟩)
 refine w_2 ?_;refine bn 7 rfl rfl rfl ?_;have hx0:x.2.1.length = 0:=by omega
 refine w_2 ?_;refine qcx akz (ab6 x.2.2 bv9) ?_;refine v_3 ?_;exact ⟨CoC.one (CoP.of_eq (by rw [am4 h0,bbr hx hx0])),cci h0.symm,trivial⟩
end
section
open Go.Proofs
def bow:List Fd:=[⟨1,2⟩,⟨2,4⟩]
def bpa:List Fd:=[⟨3,4⟩,⟨4,1⟩]
end
section
open Go.Proofs
def w1 (l:List Fd) (p:AS):Int:=if bj 16 l = 0 /\ (8:Int) < bsz p then 3 else bj 16 l
section
variable {l:List Fd} {p:AS}
end
section
variable {n:Int} {l:List Fd}
end
end
end Go.Hx

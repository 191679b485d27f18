/- A part of the proof: Cs31 V30 Cs32 Cs33 Cs34 V33 Cs35 V34 Cs36 Cz1m Cs37 Cs40 Cs42 Ls2 Ls3 Ls5 W0. -/
import Derived.Test.YtkkenjdfbojdlaaGreatDoorIx22
import Derived.Test.YtkkenjdfbojdlaaGreatDoorIx28
import Derived.Test.YtkkenjdfbojdlaaGreatDoorIx29
import Derived.Test.YtkkenjdfbojdlaaGreatDoorIx30
set_option linter.all false
set_option maxRecDepth 100000
set_option maxHeartbeats 1000000
namespace Go.Hx
section
def a0s (l:List Fd) (p x:AS) (a:Nat):Bool:=(List.range a).all fun b=>!(x.getLsbD b && lq l p (noA x b))
def a7p (l:List Fd) (p x:AS) (a:Nat):a0s l p x (a + 1) = (a0s l p x a && !(x.getLsbD a && lq l p (noA x a))):=by
 unfold a0s;rw [bod,List.all_append];simp only [List.all_cons,List.all_nil,Bool.and_true]
section
variable {l:List Fd} {p x:AS}
def aof {a:Nat} (ha:a < 32) (h:d9 x a = true) (h2:lq l p (noA x a) = true):a0s l p x (a + 1) = false:=by
 rw [gm ha] at h;rw [a7p,h,h2];simp
def agw {a:Nat} (ha:a < 32) (h:d9 x a = false):a0s l p x (a + 1) = a0s l p x a:=by
 rw [gm ha] at h;rw [a7p,h];simp
def agm {a:Nat} (h:lq l p (noA x a) = false):a0s l p x (a + 1) = a0s l p x a:=by
 rw [a7p,h];simp
def ahi (i:Nat):List AS:=(List.range i).map (BitVec.ofNat 32)
def ahs (i:Nat):ahi (i + 1) = ahi i ++ [BitVec.ofNat 32 i]:=by unfold ahi;rw [bod,bou];rfl
def prQ (l:List Fd) (p x:AS):Bool:=decide (sub x p) && a09 l p x
def k7 (l:List Fd) (p:AS) (i:Nat):AS:=orL ((ahi i).filter (prQ l p))
def b1r {i:Nat} (h:sub (BitVec.ofNat 32 i) p) (h2:lq l p (BitVec.ofNat 32 i) = true) (h3:a0t l p (BitVec.ofNat 32 i) = true):k7 l p (i + 1) = k7 l p i ||| BitVec.ofNat 32 i:=by
 have e:prQ l p (BitVec.ofNat 32 i) = true:=by unfold prQ;rw [decide_eq_true h,adb h2 h3];rfl
 unfold k7;rw [ahs,bnv];simp only [bns,e,if_true,boh];exact aq7 _ _
def ac7 {i:Nat} (e:prQ l p (BitVec.ofNat 32 i) = false):k7 l p (i + 1) = k7 l p i:=by
 unfold k7;rw [ahs,bnv];simp only [bns,e,bo1,if_false,boh,bnn]
def bin (h:¬ sub x p):prQ l p x = false:=by unfold prQ;rw [decide_eq_false h];rfl
def bjg (h:lq l p x = false):prQ l p x = false:=by unfold prQ;rw [a8k h];simp
def bhi (h:a0t l p x = false):prQ l p x = false:=by unfold prQ;rw [a9i h];simp
def b1p {i:Nat} (hi:i <= 4294967296):x ∈ ahi i <-> x.toNat < i:=by
 unfold ahi;rw [bne];constructor
 · rintro ⟨k,hk,rfl⟩
   rw [bn3] at hk;rw [bqm,bpi bqx];exact hk
 intro h;exact ⟨x.toNat,bn3.2 h,by rw [BitVec.ofNat_toNat,BitVec.setWidth_eq]⟩
def atn {i:Nat} (hp:i = p.toNat + 1):k7 l p i = oh l p:=by
 have:=p.isLt;unfold k7 oh;refine b1g fun z=>?_;rw [bol,bol,b1p bqx,xe];unfold prQ;rw [bmw,decide_eq_true_iff];constructor
 · rintro ⟨_,h1,h2⟩;exact ⟨h1,h2⟩
 rintro ⟨h1,h2⟩;have:=a1x h1;exact ⟨by omega,h1,h2⟩
end
section
variable {l:List Fd} {p:AS} {i:Nat}
def a8o (hi:i < 4294967296):az .andNot .u32 (i:Int) (asI p) = 0 <-> sub (BitVec.ofNat 32 i) p:=by
 rw [ja hi];exact ig
def auk (hi:i < 4294967296) (h:¬ az .andNot .u32 (i:Int) (asI p) = 0):asI (k7 l p i) = asI (k7 l p (i + 1)):=congrArg asI (ac7 (bin fun e=>h ((a8o hi).2 e))).symm
def atw (h:decide (sub p (clo l (BitVec.ofNat 32 i))) = false):asI (k7 l p i) = asI (k7 l p (i + 1)):=congrArg asI (ac7 (bjg h)).symm
def auw (h:a0s l p (BitVec.ofNat 32 i) 32 = false):asI (k7 l p i) = asI (k7 l p (i + 1)):=congrArg asI (ac7 (bhi h)).symm
def ath (hi:i < 4294967296) (h1:az .andNot .u32 (i:Int) (asI p) = 0) (h2:decide (sub p (clo l (BitVec.ofNat 32 i))) = true) (h3:a0s l p (BitVec.ofNat 32 i) 32 = true):az .or .u32 (asI (k7 l p i)) (i:Int) = asI (k7 l p (i + 1)):=by
 rw [b1r ((a8o hi).1 h1) h2 h3,ja hi,bOr]
end
def ph (l:List Fd) (p x:AS):Bool:=!lq l p x && decide (((clo l x &&& p) &&& ~~~x) &&& ~~~oh l p ≠ 0)
def sc (l:List Fd) (p:AS):Bool:=!(fp p).any (ph l p)
section
variable {l:List Fd} {p:AS}
def asa (h:∀ x,sub x p -> ph l p x = false):sc l p = true:=by
 unfold sc
 have:(fp p).any (ph l p) = false:=by
  rw [bof];intro x hx;rw [h x (xe.1 hx)];decide
 rw [this];rfl
variable {x:AS}
def aqn (hx:sub x p) (h:ph l p x = true):sc l p = false:=by
 unfold sc
 have:(fp p).any (ph l p) = true:=by
  rw [bno];exact ⟨x,xe.2 hx,h⟩
 rw [this];rfl
def b4v:decide (az .andNot .u32 (az .andNot .u32 (az .and .u32 (asI (clo l x)) (asI p)) (asI x)) (asI (oh l p)) = 0) = decide (((clo l x &&& p) &&& ~~~x) &&& ~~~oh l p = 0):=by
 rw [fv,gl,gl,show (0:Int) = asI 0 from rfl,adc]
def a7n (h:lq l p x = true):ph l p x = false:=by unfold ph;rw [h];rfl
def a6l (h:az .andNot .u32 (az .andNot .u32 (az .and .u32 (asI (clo l x)) (asI p)) (asI x)) (asI (oh l p)) = 0):ph l p x = false:=by
 have e:=b4v.symm.trans (decide_eq_true h);unfold ph;rw [decide_eq_false (fun hn=>hn (of_decide_eq_true e))];simp
def b4c (h0:lq l p x = false) (h:¬ az .andNot .u32 (az .andNot .u32 (az .and .u32 (asI (clo l x)) (asI p)) (asI x)) (asI (oh l p)) = 0):ph l p x = true:=by
 have e:=b4v.symm.trans (decide_eq_false h);unfold ph;rw [h0,decide_eq_true (of_decide_eq_false e)];rfl
def b4g (h:az .and .u32 (asI (clo l x)) (asI p) = asI p):lq l p x = true:=sk.symm.trans (decide_eq_true h)
def bhm (h:¬ az .and .u32 (asI (clo l x)) (asI p) = asI p):lq l p x = false:=sk.symm.trans (decide_eq_false h)
def anq {i:Nat} (hi:i < 4294967296) (h:¬ az .andNot .u32 (i:Int) (asI p) = 0):(decide (sub (BitVec.ofNat 32 i) p) && ph l p (BitVec.ofNat 32 i)) = false:=by
 rw [decide_eq_false (fun e=>h ((a8o hi).2 e))];rfl
def a2t {b:Bool} (h:ph l p x = false):(b && ph l p x) = false:=by rw [h];simp
def baj {i:Nat} (hi:i = p.toNat + 1) (h:∀ j,j < i -> (decide (sub (BitVec.ofNat 32 j) p) && ph l p (BitVec.ofNat 32 j)) = false):sc l p = true:=asa fun x hx=>by
 have:=h x.toNat (by have:=a1x hx;omega);rw [BitVec.ofNat_toNat,BitVec.setWidth_eq,decide_eq_true hx,bov] at this;exact this
def b1y (h:∀ j,j < (fp p).length -> ph l p ((fp p).getD j default) = false):sc l p = true:=asa fun x hx=>by
 obtain ⟨j,hj,rfl⟩:=bng (xe.2 hx);have:=h j hj;rwa [bmm,bml hj,bnf] at this
def y7 (n:Int) (l:List Fd) (p:AS):Int:=if b5 n l = 0 then (if sub p (a7 n) then 0 else 1) else b5 n l
def qd (n:Int) (l:List Fd) (p:AS):Bool:=decide (y7 n l p = 0) && sc l p
def b59 {n:Int} (h:¬ b5 n l = 0):y7 n l p = b5 n l /\ qd n l p = false:=by
 have e:y7 n l p = b5 n l:=if_neg h;exact ⟨e,by unfold qd;rw [e,decide_eq_false h];rfl⟩
def b4x {n:Int} (h:b5 n l = 0) (h2:¬ sub p (a7 n)):y7 n l p = 1 /\ qd n l p = false:=by
 have e:y7 n l p = 1:=by unfold y7;rw [if_pos h,if_neg h2]
 exact ⟨e,by unfold qd;rw [e];rfl⟩
def ajs {n:Int} (h:b5 n l = 0) (h2:sub p (a7 n)):y7 n l p = 0 /\ qd n l p = sc l p:=by
 have e:y7 n l p = 0:=by unfold y7;rw [if_pos h,if_pos h2]
 exact ⟨e,by unfold qd;rw [e];rfl⟩
end
end
section
open Go.Proofs
def bre {p:Prop} (h:p:=by first | exact bn (auk bqx bqy) | exact bn (atw bqy) | exact bn (ath bqx bqy bqy bqy) | exact bn (auw bqy)):p:=h
def azp (l:List Fd) (p:AS) (hp:p.toNat < 65536):a6 brj 205 [pP (fdl l),pA p] (a8 [pA (oh l p)]):=by
 refine hpx (nt:=46) Tryz.func205 ?_;refine pw ?_;refine b7 (ka 0 (ka 1 kn)) km (fun i=>⟨[(5,some (vA (k7 l p i))),(6,some (.v (.one (.p (.raw (.int .u32 (i:Int)))))))],[]⟩) (p.toNat + 1) ⟨⟨⟨_,rfl,(bn rfl)⟩,tt⟩,trivial⟩ ?_;rintro i hi;have hsa:asI p = (p.toNat:Int):=rfl;refine w_7 ?_;refine hcd (fun h0=>?_) (fun h0=>?_)
 ·
  refine cq ?_;refine ai rfl rfl (fun r1=>?_) (fun r1=>?_)
  ·
   have h1:=tz2 (cu r1);(iterate 5 refine k9 (gtf r1) ?_);refine rq rfl rfl rfl rfl rfl ?_ (hp:=r1);refine w_8 ?_
   exact lpx (i + 1) ⟨⟨⟨_,rfl,bre⟩,tt⟩,trivial⟩
  have h1:=tz1 (ct r1);(iterate 3 refine qy ?_ (hg:=(gff r1)));refine rc rfl rfl rfl rfl rfl rfl aei (aud l (BitVec.ofNat 32 i) p) (⟨CoC.refl _,cci (ja bqx),CoC.refl _,trivial⟩) rfl (gff r1) ?_;refine qy ?_ (hg:=(gff r1))
  refine w_2 ?_;refine aj _ rfl (fun r2=>?_) (fun r2=>?_)
  · have h2:=cu (av r1 r2);refine w_6 ?_;exact lpx (i + 1) ⟨⟨⟨_,rfl,bre⟩,tt⟩,trivial⟩
  have h2:=ct (av r1 r2);refine cq ?_;refine b7 (ka 0 (ka 1 (ka 5 (ka 6 kn)))) km (fun a=>⟨[(7,some (vB (a0s l p (BitVec.ofNat 32 i) a))),(8,some (vI a))],[]⟩) 32 ⟨⟨⟨_,rfl,(cob rfl)⟩,tt⟩,trivial⟩ ?_;rintro a ha;refine w_6 ?_;refine hcd (fun h3=>?_) (fun h3=>?_)
  ·
   refine w_7 ?_;refine rc rfl rfl rfl rfl rfl rfl oq (a2g (BitVec.ofNat 32 i) a) (⟨cci (ja bqx),CoC.refl _,trivial⟩) rfl rfl ?_;refine qy ?_;refine ai rfl rfl (fun r4=>?_) (fun r4=>?_)
   ·
    have h4:=r4;(iterate 6 refine qy ?_ (hg:=(gtt r4)));refine rc rfl rfl rfl rfl rfl rfl aei (aud l (noA (BitVec.ofNat 32 i) a) p) (⟨CoC.refl _,cci (by rw [ja (n:=i) bqx];exact a16 _ _ rfl),CoC.refl _,trivial⟩) rfl (gtt r4) ?_;refine w_2 ?_;refine aj _ rfl (fun r5=>?_) (fun r5=>?_)
    · have h5:=bt r4 r5;refine w_8 ?_;exact lpx (a + 1) ⟨⟨⟨_,rfl,(cob (by first | exact (aof bqx bqy bqy).symm | exact (agw bqx bqy).symm | exact (agm bqy).symm))⟩,tt⟩,trivial⟩
    have h5:=bt r4 r5;refine w_6 ?_;exact lpx (a + 1) ⟨⟨⟨_,rfl,(cob (by first | exact (aof bqx bqy bqy).symm | exact (agw bqx bqy).symm | exact (agm bqy).symm))⟩,tt⟩,trivial⟩
   have h4:=r4;(iterate 7 refine k9 (gft r4) ?_);refine rq rfl rfl rfl rfl rfl ?_ (hp:=r4);refine w_8 ?_
   exact lpx (a + 1) ⟨⟨⟨_,rfl,(cob (by first | exact (aof bqx bqy bqy).symm | exact (agw bqx bqy).symm | exact (agm bqy).symm))⟩,tt⟩,trivial⟩
  obtain rfl:a = 32:=by omega
  refine w_5 ?_;refine hcb (fun h6=>?_) (fun h6=>?_)
  · refine cq ?_;exact lpx (i + 1) ⟨⟨⟨_,rfl,bre⟩,tt⟩,trivial⟩
  refine w_6 ?_;exact lpx (i + 1) ⟨⟨⟨_,rfl,bre⟩,tt⟩,trivial⟩
 have hie:i = p.toNat + 1:=by omega
 refine v_6 ?_;exact ⟨cci (congrArg asI (atn hie)),trivial⟩
def azk (l:List Fd) (p:AS) (hp:p.toNat < 65536):a6 brj 158 [pP (fdl l),pA p] (a8 [pB (sc l p)]):=by
 refine hpx (nt:=38) Tryz.func158 ?_;refine w_8 ?_;refine qcx (wgx Tryz.func205) (azp l p hp) ?_;refine w_8 ?_;refine ae (ι:=Nat) (ka 0 (ka 1 (ka 5 kn))) km (fun i=>⟨[(6,some (.v (.one (.p (.raw (.int .u32 (i:Int)))))))],[]⟩) (fun i=>i <= p.toNat + 1 /\ ∀ j,j < i -> (decide (sub (BitVec.ofNat 32 j) p) && ph l p (BitVec.ofNat 32 j)) = false) (fun i=>p.toNat + 1 - i) (0) (⟨bms _,bq⟩) kk ?_;rintro i ⟨hi,hI⟩;have hsa:asI p = (p.toNat:Int):=rfl;refine w_7 ?_;refine hcd (fun h0=>?_) (fun h0=>?_)
 ·
  refine bz ?_;refine ai rfl rfl (fun r1=>?_) (fun r1=>?_)
  ·
   have h1:=tz1 r1;(iterate 3 refine qy ?_ (hg:=(gtt r1)));refine rc rfl rfl rfl rfl rfl rfl aei (aud l (BitVec.ofNat 32 i) p) (⟨CoC.refl _,cci (ja bqx),CoC.refl _,trivial⟩) rfl (gtt r1) ?_;refine qy ?_ (hg:=(gtt r1))
   refine w_2 ?_;refine ai rfl rfl (fun r2=>?_) (fun r2=>?_)
   ·
    have h2:=cu (bt r1 r2);(iterate 2 refine qy ?_ (hg:=(gtt r2)));refine rc rfl rfl rfl rfl rfl rfl zm (zb l (BitVec.ofNat 32 i)) (⟨CoC.refl _,cci (ja bqx),trivial⟩) rfl (gtt r2) ?_
    (iterate 7 refine qy ?_ (hg:=(gtt r2)));refine w_2 ?_;refine aj _ rfl (fun r3=>?_) (fun r3=>?_)
    · have h3:=tz2 (cu (bt r2 r3));refine v_4 ?_;exact ⟨ccb (aqn (x:=BitVec.ofNat 32 i) ((a8o (i:=i) bqx).1 bqy) (b4c bqy (by rw [<- ja (n:=i) bqx];assumption))).symm,trivial⟩
    have h3:=tz1 (ct (bt r2 r3));refine w_6 ?_;refine lpz (i + 1) kk ?_;exact ⟨by show i + 1 <= _;omega,aw hI (by first | exact anq bqx bqy | exact a2t (a7n bqy) | exact a2t (a6l (by rw [<- ja (n:=i) bqx];assumption)))⟩
   have h2:=ct (bt r1 r2);(iterate 10 refine k9 (gft r2) ?_);refine rq rfl rfl rfl rfl rfl ?_ (hp:=r2);refine w_8 ?_;refine lpz (i + 1) kk ?_
   exact ⟨by show i + 1 <= _;omega,aw hI (by first | exact anq bqx bqy | exact a2t (a7n bqy) | exact a2t (a6l (by rw [<- ja (n:=i) bqx];assumption)))⟩
  have h1:=tz2 r1;(iterate 5 refine k9 (gft r1) ?_);refine rq rfl rfl rfl rfl rfl ?_ (hp:=r1);refine qy ?_;(iterate 10 refine k9 rfl ?_);refine w_9 ?_;refine lpz (i + 1) kk ?_
  exact ⟨by show i + 1 <= _;omega,aw hI (by first | exact anq bqx bqy | exact a2t (a7n bqy) | exact a2t (a6l (by rw [<- ja (n:=i) bqx];assumption)))⟩
 have hie:i = p.toNat + 1:=by omega
 refine v_5 ?_;exact ⟨ccb (baj hie hI).symm,trivial⟩
def b6i (n:Int) (l:List Fd) (p:AS):a6 brj 156 [pI n,pP (fdl l),pA p] (a8 [pB (qd n l p),pI (y7 n l p)]):=by
 refine hpx (nt:=50) Tryz.func156 ?_;refine bz ?_;refine qcx wl (zz n l) ?_;refine w_7 ?_;refine hcn (fun h0=>?_) (fun h0=>?_)
 · refine w_6 ?_;refine hrr ?_;have he:=b59 (p:=p) h0;exact f9 rfl rfl (⟨ccb he.2.symm,cci he.1.symm,trivial⟩)
 refine w_3 ?_;have hv:=ep h0;have hsh:=atz (s:=p) (n:=n) hv.1 hv.2.1;refine w_6 ?_;refine hcn (fun h1=>?_) (fun h1=>?_)
 · refine w_5 ?_;refine hrr ?_;have he:=b4x h0 (fun e=>h1 (hsh.2 e));exact f9 rfl rfl (⟨ccb he.2.symm,cci he.1.symm,trivial⟩)
 refine w_5 ?_;refine qcx (wgx Tryz.func203) (b7j l p) ?_;refine w_4 ?_;have htl:=ai2 p;refine w_2 ?_;refine qcx (wgx Tryz.func204) (az7 p) ?_;refine w_4 ?_;refine ae (ι:=Nat) (ka 1 (ka 2 (ka 9 (ka 27 (ka 28 kn))))) km (fun i=>⟨[(29,some (vI i))],[]⟩) (fun i=>i <= (fp p).length /\ (∀ j,j < i -> ph l p ((fp p).getD j default) = false)) (fun i=>(fp p).length - i) (0) (⟨bms _,bq⟩) kk ?_;rintro i ⟨hi,hI⟩;refine w_5 ?_;refine hcd (fun h2=>?_) (fun h2=>?_)
 ·
  refine jd ?_;refine qcx ur (xj l ((fp p).getD i default)) ?_;refine bz ?_;refine ai rfl rfl (fun r3=>?_) (fun r3=>?_)
  ·
   have h3:=tz2 (cu r3);(iterate 6 refine qy ?_ (hg:=(gtt r3)));refine w_2 ?_;refine aj _ rfl (fun r4=>?_) (fun r4=>?_)
   · have h4:=tz2 (cu (bt r3 r4));refine w_5 ?_;refine hrr ?_;have he:=ajs h0 (hsh.1 h1);have hb:=aqn (xe.1 (abb (l:=fp p) (j:=i) bqx)) (b4c (bhm h3) h4);exact f9 rfl rfl (⟨ccb (by rw [he.2,hb]),cci he.1.symm,trivial⟩)
   have h4:=tz1 (ct (bt r3 r4));refine w_5 ?_;refine lpz (i + 1) kk ?_;exact ⟨by show i + 1 <= _;omega,aw hI (by first | exact a7n (b4g h3) | exact a6l h4)⟩
  have h3:=tz1 (ct r3);(iterate 6 refine k9 (gft r3) ?_);refine rq rfl rfl rfl rfl rfl ?_ (hp:=r3);refine w_7 ?_;refine lpz (i + 1) kk ?_
  exact ⟨by show i + 1 <= _;omega,aw hI (by first | exact a7n (b4g h3) | exact a6l h4)⟩
 obtain rfl:i = (fp p).length:=by omega
 refine w_6 ?_;refine hrr ?_;have he:=ajs h0 (hsh.1 h1);have hb:=b1y hI;exact f9 rfl rfl (⟨ccb (by rw [he.2,hb]),cci he.1.symm,trivial⟩)
def azz (n:Int) (l:List Fd) (p:AS):a6 brj 107 [pI n,pP (fdl l),pA p] (a8 [pB (qd n l p),pI (y7 n l p)]):=by
 refine hpx (nt:=23) Tryz.func107 ?_;refine bz ?_;refine qcx a2u (z7 n l) ?_;refine w_7 ?_;refine hcn (fun h0=>?_) (fun h0=>?_)
 · refine w_6 ?_;refine hrr ?_;have he:=b59 (p:=p) h0;exact f9 rfl rfl (⟨ccb he.2.symm,cci he.1.symm,trivial⟩)
 refine w_3 ?_;have hv:=ep h0;have hfn:=bdc hv.1 hv.2.1;refine w_3 ?_;refine qcx lr (lj n) ?_;refine w_3 ?_;refine hcn (fun h1=>?_) (fun h1=>?_)
 · refine w_5 ?_;refine hrr ?_;have he:=b4x h0 (fun e=>h1 (ig.2 e));exact f9 rfl rfl (⟨ccb he.2.symm,cci he.1.symm,trivial⟩)
 refine w_2 ?_;have hsp:=ig.1 h1;have hpl:=a1x hsp;have hfe:asI (a7 n) = ((a7 n).toNat:Int):=rfl;refine w_3 ?_;refine qcx (wgx Tryz.func158) (azk l p bqx) ?_;refine w_3 ?_;refine hrr ?_;have he:=ajs h0 hsp;exact f9 rfl rfl (⟨ccb he.2.symm,cci he.1.symm,trivial⟩)
end
section
def apx {l:List Fd} {i:Nat} {x:Fd} (h:x ∈ gc l i):x ∈ l:=by
 unfold gc at h
 rcases bn1.1 h with h | h
 · exact bos h
 exact bq7 h
def a1r {x:Fd}:∀ (f:Nat) (l:List Fd) (i:Nat),x ∈ pj f l i -> x ∈ l
 | 0,l,i,h=>h
 | f + 1,l,i,h=>by
  unfold pj at h;split at h
  · split at h
    · exact apx (a1r f _ _ h)
    exact a1r f _ _ h
  exact h
def bbz {n:Int} {l:List Fd} (h:b5 n l = 0):vn (a7 n) (a74 l):=fun x hx=>by
 have h1:=a1r _ _ _ hx;exact agb (azu (aky h)) _ x (xy.1 h1)
section
variable {n:Int} {l:List Fd}
def a7l (h:b5 n l = 0) {x:AS} (hx:sub x (a7 n)):sub (a7 n) (clo l x) <-> clo l x = a7 n :=
 ⟨fun e=>ef (aki h hx) e,fun e=>by rw [e];exact gz _⟩
def ayz (h:b5 n l = 0) {x:AS} (hx:sub x (a7 n)):j7 n l x = lq l (a7 n) x:=by
 unfold j7 lq;exact decide_eq_decide.2 ⟨fun e=>(a7l h hx).2 e.2.2,fun e=>⟨h,hx,(a7l h hx).1 e⟩⟩
def bfh (n:Int) (l:List Fd) (f:Fd):Bool:=decide (clo l f.lhs ≠ a7 n) && decide (f.rhs &&& ~~~oh l (a7 n) ≠ 0)
def blo (n:Int) (l:List Fd) (i:Nat):List Fd:=((ye n l).take i).filter (bfh n l)
def blq (n:Int) (l:List Fd):List Fd:=(ye n l).filter (bfh n l)
def abw (n:Int) (l:List Fd):(ye n l).length <= 2048:=by
 unfold ye;split
 · rename_i h
   have h1:=(ep h).2.2.1;have h2:=a5m l
   have h3:(a74 l).length <= (xz l).length:=by
    have:∀ (f:Nat) (k:List Fd) (i:Nat),(pj f k i).length <= k.length:=by
     intro f
     induction f with
     | zero=>intro k i;exact bmp _
     | succ f ih =>
      intro k i;unfold pj;split
      · rename_i hi
        split
        · exact bmy (ih _ _) (by rw [go hi];omega)
        exact ih _ _
      exact bmp _
    exact this _ _ _
   omega
 simp
end
end
section
def bjx (l:List Fd) (pr k:AS):Bool:=(List.range 32).all fun a=>!k.getLsbD a || decide (sub (clo l (noA k a)) pr)
def bkg (n:Int) (l:List Fd):Bool:=(b5c n l).all (bjx l (orL (b5c n l)))
def bm8 (n:Int) (l:List Fd):Bool:=decide (b5 n l = 0) && bkg n l
section
variable {l:List Fd} {pr k:AS}
def bmi (l:List Fd) (pr k r:AS):Prop:=sub r k /\ ∀ a,a < 32 -> k.getLsbD a = true -> r.getLsbD a = true \/ sub (clo l (noA k a)) pr
def bmh (l:List Fd) (pr k:AS) (s:Nat):Prop:=∀ j,j < s -> sub (BitVec.ofNat 32 j) k -> sub (clo l (BitVec.ofNat 32 j)) pr
end
section
variable {n:Int} {l:List Fd}
end
end
section
def mgR (l:List Fd) (s:AS):AS:=(l.filter fun f=>decide (f.lhs = s)).foldl (fun a f=>a ||| f.rhs) 0
def mgF (l:List Fd) (s:AS):Fd:=⟨s,mgR l s⟩
def a5d (l:List Fd):List Fd:=(ord (l.map Fd.lhs)).map (mgF l)
section
variable {l:List Fd}
def bj1 {s:AS} {i:Nat} (hi:i < l.length) (h:(l.getD i default).lhs = s):mgR (l.take (i + 1)) s = mgR (l.take i) s ||| (l.getD i default).rhs:=by
 unfold mgR;rw [aq hi,bnv,bo0];simp only [bns,h,decide_true,if_true,boh,bor,List.foldl_nil]
def b4t {s:AS} {i:Nat} (hi:i < l.length) (h:¬ (l.getD i default).lhs = s):mgR (l.take (i + 1)) s = mgR (l.take i) s:=by
 unfold mgR;rw [aq hi,bnv,bo0];simp only [bns,h,decide_false,bo1,if_false,boh,List.foldl_nil]
def b3f {s:AS} {i:Nat} (hi:i < l.length) (h:asI (l.getD i default).lhs = asI s):PV.raw (.int .u32 (az .or .u32 (asI (mgR (l.take i) s)) (asI (l.getD i default).rhs))) = asC (mgR (l.take (i + 1)) s):=by
 rw [bOr,bj1 hi (c7.1 h)];rfl
def bfr {s:AS} {i:Nat} (hi:i < l.length) (h:¬ asI (l.getD i default).lhs = asI s):asC (mgR (l.take i) s) = asC (mgR (l.take (i + 1)) s):=by
 rw [b4t hi (fun e=>h (congrArg asI e))]
def b27 (l:List Fd):(a5d l).length <= l.length:=by
 unfold a5d;rw [bn6];exact bmy (ke _) (by rw [bn6];exact bmp _)
end
end
section
open Go.Proofs
def b7x (l:List Fd) (hl:l.length <= 16777216):a6 brj 142 [pP (fdl l)] (a8 [pP (fdl (a5d l))]):=by
 refine hpx (nt:=66) Tryz.func142 ?_;refine w_5 ?_;have hol:=ke (l.map Fd.lhs);rw [bn6] at hol;refine w_9 ?_;refine bw 3 900 true 1 46 (lf sC []) br2 rfl (CoP.sl rfl (.inr rfl) (fun h=>h) (fun i j hi _=>absurd hi (bmq i))) (.inr rfl) rfl ?_;refine b7 (ka 0 kn) km (fun i=>⟨[(3,some (.v (.one (.ref 900 ((l.take i).map Fd.lhs).length)))),(4,some (vI i))],[(900,some (.arr true 1 46 ((l.take i).map Fd.lhs).length (lf sC ((l.take i).map Fd.lhs))))]⟩) l.length kk ?_;rintro i hi;have hlen:((l.take i).map Fd.lhs).length <= i:=by rw [bn6,bmv];omega
 refine w_8 ?_;refine hcd (fun h0=>?_) (fun h0=>?_)
 · refine bz ?_;refine m9 0 ?_;refine r9 1 true ?_;refine w_7 ?_;exact lpx (i + 1) ⟨⟨⟨_,rfl,(bf (m7 bqx))⟩,tt⟩,⟨⟨_,rfl,(bg (m7 bqx) (CoP.refl _))⟩,trivial⟩⟩
 obtain rfl:i = l.length:=by omega
 rw [show (l.take l.length).map Fd.lhs = l.map Fd.lhs by rw [bmt]];refine w_2 ?_;refine al 3 rfl rfl rfl ?_;refine w_2 ?_;refine qcx a9r (a8l (l.map Fd.lhs) (by rw [bn6];omega)) ?_;refine en ?_;refine bw 5 901 true 2 48 (lf Fd.c []) br2 rfl (CoP.sl rfl (.inr rfl) (fun h=>h) (fun i j hi _=>absurd hi (bmq i))) (.inr rfl) rfl ?_;refine b7 (ka 0 (ka 3 kn)) km (fun k=>⟨[(5,some (.v (.one (.ref 901 (((ord (l.map Fd.lhs)).take k).map (mgF l)).length)))),(6,some (vI k))],[(901,some (.arr true 2 48 (((ord (l.map Fd.lhs)).take k).map (mgF l)).length (lf Fd.c (((ord (l.map Fd.lhs)).take k).map (mgF l)))))]⟩) ((ord (l.map Fd.lhs)).length) kk ?_;rintro k hk;have hlen2:(((ord (l.map Fd.lhs)).take k).map (mgF l)).length <= k:=by rw [bn6,bmv];omega
 refine w_8 ?_;refine hcd (fun h1=>?_) (fun h1=>?_)
 ·
  refine bz ?_;refine m9 2 ?_;refine w_8 ?_;refine b7 (ka 0 (ka 3 (ka 5 (ka 6 (ka 7 kn))))) (kb 901 km) (fun i=>⟨[(8,some (vI i))],[(2,some (.box [.p (asC ((ord (l.map Fd.lhs)).getD k default)), .p (asC (mgR (l.take i) ((ord (l.map Fd.lhs)).getD k default)))]))]⟩) l.length ⟨tt,⟨⟨_,rfl,⟨CoP.refl _,CoP.refl _,trivial⟩⟩,trivial⟩⟩ ?_;rintro i hi;refine w_8 ?_;refine hcd (fun h2=>?_) (fun h2=>?_)
  ·
   refine yf ?_;refine hcd (fun h3=>?_) (fun h3=>?_)
   · refine agx ?_;exact lpx (i + 1) ⟨tt,⟨⟨_,rfl,(by first | exact ⟨CoP.refl _,CoP.of_eq (b3f bqx bqy),trivial⟩ | exact ⟨CoP.refl _,CoP.of_eq (bfr bqx bqy),trivial⟩)⟩,uu⟩⟩
   refine w_6 ?_;exact lpx (i + 1) ⟨tt,⟨⟨_,rfl,(by first | exact ⟨CoP.refl _,CoP.of_eq (b3f bqx bqy),trivial⟩ | exact ⟨CoP.refl _,CoP.of_eq (bfr bqx bqy),trivial⟩)⟩,uu⟩⟩
  obtain rfl:i = l.length:=by omega
  refine w_4 ?_;refine m9 3 ?_;refine r9 4 true ?_;refine w_7 ?_;exact lpx (k + 1) ⟨⟨⟨_,rfl,(bf (m7 bqx))⟩,tt⟩,⟨⟨_,rfl,(jp (m7 bqx) (CoP.refl _) (CoP.of_eq brb))⟩,trivial⟩⟩
 obtain rfl:k = (ord (l.map Fd.lhs)).length:=by omega
 refine w_6 ?_;refine al 2 rfl rfl rfl ?_;exact hx8 rfl rfl rfl (⟨CoC.one (CoP.of_eq brb),trivial⟩)
end
section
open Go.Proofs
def x8 (t:AS) (l:List Fd):Prop:=∀ x ∈ l,sub x.rhs t
section
variable {l:List Fd} {t:AS}
def b36 {i a:Nat} (h:x8 t l):x8 t (im i l a):=by
 unfold im;split
 · intro x hx
   rcases List.mem_or_eq_of_mem_set hx with hx | rfl
   · exact h x hx
   by_cases hi:i < l.length
   · exact h (l.getD i default) (by rw [bmm,bml hi];exact bnb hi)
   rw [bps bqx] at hx;exact h _ hx
 exact h
def ahv {i:Nat}:∀ (m:List Nat) (l:List Fd),x8 t l -> x8 t (m.foldl (im i) l)
 | [],_,h=>h
 | a :: m,l,h=>ahv m _ (b36 h)
def aom (h:x8 t l):∀ i,x8 t (gu l i)
 | 0=>h
 | i + 1=>by rw [a1a];exact ahv _ _ (aom h i)
def b6q (h:x8 t l):x8 t (spl l):=by
 intro x hx;have hx:=xy.1 hx;unfold fy at hx;obtain ⟨ys,hys,hxy⟩:=List.mem_flatten.1 hx;obtain ⟨f,hf,rfl⟩:=bne.1 hys;unfold vh at hxy;obtain ⟨a,ha,rfl⟩:=bne.1 hxy;refine ap.2 fun i hi hb=>?_;have h1:((1:AS) <<< a).getLsbD i = decide (i = a):=rp a i hi;rw [show (⟨f.lhs,(1:AS) <<< a⟩:Fd).rhs.getLsbD i = decide (i = a) from h1,decide_eq_true_iff] at hb;subst hb;have hm:=(jc.1 ha).2;rw [bn4,bmw] at hm;exact ap.1 (h f hf) i hi hm.1
def b0b {n:Int} (h:b5 n l = 0):x8 (a7 n) (a74 l):=fun x hx=>by
 have h1:=a1r _ _ _ hx;exact aom (b6q fun f hf=>(af4 h f hf).2) _ x (xy.1 h1)
def aok:∀ (l:List Fd) (s:AS),sub s t -> (∀ f ∈ l,sub f.rhs t) -> sub (l.foldl (fun a f=>a ||| f.rhs) s) t
 | [],s,h,_=>h
 | f :: l,s,h,hl=>aok l _ (vc h (hl f (bnt ..))) fun g hg=>hl g (bnq _ hg)
def bga (h1:vn t l) (h2:x8 t l):∀ f ∈ a5d l,sub f.lhs t /\ sub f.rhs t:=fun f hf=>by
 unfold a5d at hf;obtain ⟨s,hs,rfl⟩:=bne.1 hf;obtain ⟨g,hg,rfl⟩:=bne.1 (jb.1 hs);exact ⟨h1 g hg,aok _ _ (sub_zero t) fun x hx=>h2 x (bol.1 hx).1⟩
def f8 (n:Int) (l:List Fd):List Fd:=a5d (ye n l)
def ac3 (n:Int) (l:List Fd):(f8 n l).length <= 2048:=bmy (b27 _) (abw n l)
def pt (f:Fd):AS:=f.lhs ||| f.rhs
end
section
variable {n:Int} {l:List Fd}
section
variable {i:Nat}
def bit (h:b5 n l = 0) (hi:i < (f8 n l).length):sub (pt ((f8 n l).getD i default)) (a7 n):=by
 have hm:(f8 n l).getD i default ∈ f8 n l:=by
  rw [bmm,bml hi];exact bnb hi
 generalize (f8 n l).getD i default = f at *;unfold f8 at hm;rw [amk h] at hm;obtain ⟨h1,h2⟩:=bga (bbz h) (b0b h) f hm;exact vc h1 h2
def nb (n:Int) (l:List Fd) (i:Nat):Bool:=((f8 n l).take i).any fun f=>j7 n l (pt f)
def a4x (hi:i < (f8 n l).length):nb n l (i + 1) = (nb n l i || j7 n l (pt ((f8 n l).getD i default))):=by
 unfold nb;rw [aq hi,List.any_append];simp
def aym (h:b5 n l = 0):j7 n l (a7 n) = true:=decide_eq_true ⟨h,gz _,ef (aki h (gz _)) adz⟩
def b9j (h:b5 n l = 0):rkE n l (a7 n) = 0:=(b3s h (aym h)).2
def abi (n:Int) (l:List Fd):List AS:=(f8 n l).map pt
def bed (n:Int) (l:List Fd):List AS:=ek (if nb n l (f8 n l).length = true then abi n l else abi n l ++ [rkS n l (a7 n)])
def a5a (n:Int) (l:List Fd):List AS:=if b5 n l = 0 then bed n l else []
def avl (h:¬ b5 n l = 0):a5a n l = []:=if_neg h
def avm (h:b5 n l = 0):a5a n l = bed n l:=if_pos h
def b2k (n:Int) (l:List Fd):(abi n l).length <= 2048:=by unfold abi;rw [bn6];exact ac3 n l
def ai9 (n:Int) (l:List Fd):((f8 n l).take (f8 n l).length).map pt = abi n l:=by rw [bmt];rfl
def y8 (n:Int) (l:List Fd):List AS:=if nb n l (f8 n l).length = true then abi n l else abi n l ++ [rkS n l (a7 n)]
def od (h:nb n l (f8 n l).length = true):y8 n l = ((f8 n l).take (f8 n l).length).map pt:=by rw [ai9];exact if_pos h
def xl (h:nb n l (f8 n l).length = false):y8 n l = ((f8 n l).take (f8 n l).length).map pt ++ [rkS n l (a7 n)]:=by rw [ai9];exact if_neg (by rw [h];decide)
def an3 (n:Int) (l:List Fd):(y8 n l).length <= 4096:=by
 have:=b2k n l;unfold y8;split
 · omega
 rw [bmo,bo3];omega
def ajg (hi:i < (f8 n l).length) (h:nb n l i = true):true = nb n l (i + 1):=by rw [a4x hi,h];rfl
def aju (hi:i < (f8 n l).length) (h:nb n l i = false):j7 n l (pt ((f8 n l).getD i default)) = nb n l (i + 1):=by rw [a4x hi,h];rfl
def ajp (hi:i < (f8 n l).length):(bif nb n l i then true else j7 n l (pt ((f8 n l).getD i default))) = nb n l (i + 1):=by rw [a4x hi];cases nb n l i <;> rfl
end
end
def bj5 {n:Int} {l:List Fd} (h:b5 n l = 0) {s:AS} (hs:sub s (a7 n)):a6 brj 83 [pP (fdl l),pA s,pA (a7 n)] (a8 [pB (j7 n l s)]):=by
 have hh:=aud l s (a7 n);rw [show decide (sub (a7 n) (clo l s)) = j7 n l s from (ayz h hs).symm] at hh;exact hh
end
section
open Go.Proofs
def bfv (hM:∀ k:List Fd,k.length <= 16777216 -> a6 brj 135 [pP (fdl k)] (a8 [pP (fdl (a5d k))])) (n:Int) (l:List Fd):a6 brj 71 [pI n,pP (fdl l)] (a8 [pP (fdl (f8 n l)),pI (b5 n l)]):=by
 refine hpx (nt:=17) Tryz.func71 ?_;refine w_9 ?_;refine qcx (wgx Tryz.func134) (bjd n l) ?_;refine w_7 ?_;have hml:=abw n l;refine w_2 ?_;refine qcx (wgx Tryz.func135) (hM (ye n l) bqx) ?_;refine v_4 ?_;exact CoL.refl _
def alj:goodFn brj 32:=wgx Tryz.func32
def brg {p:Prop} (h:p:=by first | exact gj (by rw [od bqy]) | exact gj (by rw [xl bqy,bmo];rfl)):p:=h
def afu (hM:∀ k:List Fd,k.length <= 16777216 -> a6 brj 135 [pP (fdl k)] (a8 [pP (fdl (a5d k))])) (n:Int) (l:List Fd):a6 brj 32 [pI n,pP (fdl l)] (a8 [pP (asl (a5a n l)),pI (b5 n l)]):=by
 refine hpx (nt:=66) Tryz.func32 ?_;refine w_9 ?_;refine qcx (wgx Tryz.func71) (bfv hM n l) ?_;refine en ?_;refine hcn (fun h0=>?_) (fun h0=>?_)
 · refine v_6 ?_;exact ⟨CoC.one (zr (avl h0)),CoC.refl _,trivial⟩
 refine w_2 ?_;have hv:=ep h0;have hcl:=ac3 n l;have hsl:=an3 n l;refine n7 ?_;refine bw 8 900 true 1 46 (lf sC []) br2 rfl (CoP.sl rfl (.inr rfl) (fun h=>h) (fun i j hi _=>absurd hi (bmq i))) (.inr rfl) rfl ?_;refine b7 (ka 0 (ka 1 (ka 24 (ka 25 kn)))) km (fun i=>⟨[(8,some (.v (.one (.ref 900 (((f8 n l).take i).map pt).length)))),(9,some (vB (nb n l i))),(26,some (vI i))],[(900,some (.arr true 1 46 (((f8 n l).take i).map pt).length (lf sC (((f8 n l).take i).map pt))))]⟩) ((f8 n l).length) ⟨⟨zy,⟨_,rfl,(cob rfl)⟩,tt⟩,uu⟩ ?_;rintro i hi;have hlen:(((f8 n l).take i).map pt).length <= i:=by rw [bn6,bmv];omega
 refine w_5 ?_;refine hcd (fun h1=>?_) (fun h1=>?_)
 ·
  refine w_7 ?_;refine m9 0 ?_;refine n7 ?_;refine m9 1 ?_;refine r9 2 true ?_;refine w_5 ?_;refine ai rfl rfl (fun r2=>?_) (fun r2=>?_)
  ·
   have h2:=r2;(iterate 4 refine k9 (gtf r2) ?_);refine rq rfl rfl rfl rfl rfl ?_ (hp:=r2);refine w_6 ?_
   exact lpx (i + 1) ⟨⟨⟨_,rfl,(bf (m7 bqx))⟩,⟨_,rfl,(cob (by first | exact ajg (n:=n) (l:=l) (i:=i) bqx bqy | exact aju (n:=n) (l:=l) (i:=i) bqx bqy | exact ajp (n:=n) (l:=l) (i:=i) bqx))⟩,tt⟩,⟨⟨_,rfl,(bg (m7 bqx) (CoP.of_eq (congrArg (fun z=>PV.raw (.int .u32 z)) (bOr _ _))))⟩,trivial⟩⟩
  have h2:=r2;(iterate 3 refine qy ?_ (hg:=(gff r2)));refine rc rfl rfl rfl rfl rfl rfl aep (ajw n l (pt ((f8 n l).getD i default))) (⟨CoC.refl _,CoC.refl _,cci (bOr _ _),trivial⟩) rfl (gff r2) ?_;refine w_7 ?_
  exact lpx (i + 1) ⟨⟨⟨_,rfl,(bf (m7 bqx))⟩,⟨_,rfl,(cob (by first | exact ajg (n:=n) (l:=l) (i:=i) bqx bqy | exact aju (n:=n) (l:=l) (i:=i) bqx bqy | exact ajp (n:=n) (l:=l) (i:=i) bqx))⟩,tt⟩,⟨⟨_,rfl,(bg (m7 bqx) (CoP.of_eq (congrArg (fun z=>PV.raw (.int .u32 z)) (bOr _ _))))⟩,trivial⟩⟩
 obtain rfl:i = (f8 n l).length:=by omega
 refine dj ?_;refine kg kn km ⟨[(8,some (.v (.one (.ref 900 (y8 n l).length))))],[(900,some (.arr true 1 46 (y8 n l).length (lf sC (y8 n l))))]⟩ ?_ ?_
 ·
  refine w_5 ?_;refine hcv (fun h3=>?_) (fun h3=>?_)
  ·
   refine w_5 ?_;refine qcx (wgx Tryz.func74) (beu n hv.1 hv.2.1) ?_;refine qcx (wgx Tryz.func73) (b65 n l (a7 n)) ?_;refine en ?_;refine hcn (fun h4=>?_) (fun h4=>?_)
   · exfalso;exact h4 (b9j h0)
   refine w_4 ?_;refine m9 3 ?_;refine r9 4 true ?_;refine w_2 ?_;exact ⟨⟨⟨_,rfl,brg⟩,trivial⟩,⟨⟨_,rfl,(by first | exact dg (od bqy) (by rw [od bqy]) | exact bg (xl bqy) (CoP.refl _))⟩,trivial⟩⟩
  refine d6 ?_;exact ⟨⟨⟨_,rfl,brg⟩,trivial⟩,⟨⟨_,rfl,(by first | exact dg (od bqy) (by rw [od bqy]) | exact bg (xl bqy) (CoP.refl _))⟩,trivial⟩⟩
 refine cg ?_;refine al 8 rfl rfl rfl ?_;refine w_2 ?_;refine qcx acs (a4o (y8 n l) bqx) ?_;refine v_3 ?_;exact ⟨CoC.one (CoP.of_eq (by rw [avm h0];rfl)),cci h0.symm,trivial⟩
def b6y (n:Int) (l:List Fd):a6 brj 82 [pI n,pP (fdl l)] (a8 [pP (fdl (f8 n l)),pI (b5 n l)]):=by
 refine hpx (nt:=17) Tryz.func82 ?_;refine w_9 ?_;refine qcx (wgx Tryz.func141) (be0 n l) ?_;refine w_7 ?_;have hml:=abw n l;refine w_2 ?_;refine qcx (wgx Tryz.func142) (b7x (ye n l) bqx) ?_;refine v_4 ?_;exact CoL.refl _
def b02 (n:Int) (l:List Fd):a6 brj 36 [pI n,pP (fdl l)] (a8 [pP (asl (a5a n l)),pI (b5 n l)]):=by
 refine hpx (nt:=68) Tryz.func36 ?_;refine w_9 ?_;refine qcx (wgx Tryz.func82) (b6y n l) ?_;refine en ?_;refine hcn (fun h0=>?_) (fun h0=>?_)
 · refine v_6 ?_;exact ⟨CoC.one (zr (avl h0)),CoC.refl _,trivial⟩
 refine w_2 ?_;have hv:=ep h0;have hcl:=ac3 n l;have hsl:=an3 n l;refine jd ?_;refine bw 8 900 true 1 46 (lf sC []) br2 rfl (CoP.sl rfl (.inr rfl) (fun h=>h) (fun i j hi _=>absurd hi (bmq i))) (.inr rfl) rfl ?_;refine b7 (ka 0 (ka 1 (ka 6 kn))) km (fun i=>⟨[(8,some (.v (.one (.ref 900 (((f8 n l).take i).map pt).length)))),(9,some (vB (nb n l i))),(10,some (vI i))],[(900,some (.arr true 1 46 (((f8 n l).take i).map pt).length (lf sC (((f8 n l).take i).map pt))))]⟩) ((f8 n l).length) ⟨⟨zy,⟨_,rfl,(cob rfl)⟩,tt⟩,uu⟩ ?_;rintro i hi;have hlen:(((f8 n l).take i).map pt).length <= i:=by rw [bn6,bmv];omega
 refine w_8 ?_;refine hcd (fun h1=>?_) (fun h1=>?_)
 ·
  refine b2m ?_;refine m9 0 ?_;refine r9 1 true ?_;refine w_5 ?_;refine ai rfl rfl (fun r2=>?_) (fun r2=>?_)
  ·
   have h2:=r2;(iterate 5 refine k9 (gtf r2) ?_);refine rq rfl rfl rfl rfl rfl ?_ (hp:=r2);refine w_7 ?_
   exact lpx (i + 1) ⟨⟨⟨_,rfl,(bf (m7 bqx))⟩,⟨_,rfl,(cob (by first | exact ajg (n:=n) (l:=l) (i:=i) bqx bqy | exact aju (n:=n) (l:=l) (i:=i) bqx bqy | exact ajp (n:=n) (l:=l) (i:=i) bqx))⟩,tt⟩,⟨⟨_,rfl,(bg (m7 bqx) (CoP.of_eq (congrArg (fun z=>PV.raw (.int .u32 z)) (bOr _ _))))⟩,trivial⟩⟩
  have h2:=r2;(iterate 3 refine qy ?_ (hg:=(gff r2)));refine qcx lr (lj n) ?_ (hg:=(gff r2))
  refine rc rfl rfl rfl rfl rfl rfl aei (bj5 h0 (bit h0 (i:=i) bqx)) (⟨CoC.refl _,cci (bOr _ _),CoC.refl _,trivial⟩) rfl (gff r2) ?_;refine w_8 ?_;exact lpx (i + 1) ⟨⟨⟨_,rfl,(bf (m7 bqx))⟩,⟨_,rfl,(cob (by first | exact ajg (n:=n) (l:=l) (i:=i) bqx bqy | exact aju (n:=n) (l:=l) (i:=i) bqx bqy | exact ajp (n:=n) (l:=l) (i:=i) bqx))⟩,tt⟩,⟨⟨_,rfl,(bg (m7 bqx) (CoP.of_eq (congrArg (fun z=>PV.raw (.int .u32 z)) (bOr _ _))))⟩,trivial⟩⟩
 obtain rfl:i = (f8 n l).length:=by omega
 refine dj ?_;refine kg kn km ⟨[(8,some (.v (.one (.ref 900 (y8 n l).length))))],[(900,some (.arr true 1 46 (y8 n l).length (lf sC (y8 n l))))]⟩ ?_ ?_
 ·
  refine w_5 ?_;refine hcv (fun h3=>?_) (fun h3=>?_)
  · refine w_5 ?_;refine qcx lr (lj n) ?_;refine qcx (wgx Tryz.func84) (b10 n l (a7 n)) ?_;refine w_9 ?_;refine m9 2 ?_;refine r9 3 true ?_;refine w_2 ?_;exact ⟨⟨⟨_,rfl,brg⟩,trivial⟩,⟨⟨_,rfl,(by first | exact dg (od bqy) (by rw [od bqy]) | exact bg (xl bqy) (CoP.refl _))⟩,trivial⟩⟩
  refine d6 ?_;exact ⟨⟨⟨_,rfl,brg⟩,trivial⟩,⟨⟨_,rfl,(by first | exact dg (od bqy) (by rw [od bqy]) | exact bg (xl bqy) (CoP.refl _))⟩,trivial⟩⟩
 refine cg ?_;refine al 8 rfl rfl rfl ?_;refine w_2 ?_;refine qcx akq (a81 (y8 n l) bqx) ?_;refine v_3 ?_;exact ⟨CoC.one (CoP.of_eq (by rw [avm h0];rfl)),cci h0.symm,trivial⟩
end
section
def Eqv (l k:List Fd):Prop:=∀ s,ud l s <-> ud k s
theorem Eqv.refl (l:List Fd):Eqv l l:=fun s=>Iff.rfl
theorem Eqv.trans {a b c:List Fd} (h:Eqv a b) (k:Eqv b c):Eqv a c:=fun s=>(h s).trans (k s)
theorem Eqv.clo {l k:List Fd} (h:Eqv l k) (s:AS):clo l s = clo k s :=
 ef (a6i ((h _).2 a6u) adz) (a6i ((h _).1 a6u) adz)
end
section
def blv (l:List Fd) (ps:List AS) (t:AS):Prop:=∀ p ∈ ps,sub (clo l (t &&& p) &&& p) t
def bis (l:List Fd) (s p:AS):AS:=s ||| (clo l (s &&& p) &&& p)
def blg (l:List Fd) (ps:List AS) (s:AS):AS:=ps.foldl (bis l) s
def PrI (l:List Fd) (ps:List AS) (z s:AS):Prop:=sub z s /\ sub s (a57 l ps z)
def bmb (n:Int) (l:List Fd) (i:Nat):List AS:=((ax (a7 n)).take i).filter fun s=>!cz l s
end
section
def blf (l:List Fd):Prop:=∀ f ∈ l,∀ i,i < 32 -> f.rhs.getLsbD i = true -> f.lhs.getLsbD i = false
section
variable {n:Int} {l:List Fd}
end
end
section
open Go.Proofs
def as6 {ps:List AS} {k:AS} (h:k ∈ ps):sub k (orL ps):=ap.2 fun i hi hb=>by
 unfold orL;rw [a3t,bob];exact .inr (bno.2 ⟨k,h,hb⟩)
section
variable {n:Int} {l:List Fd}
end
end
section
def anb {L:List AS} {x:AS}:x ∈ ek L <-> x ∈ L /\ ∀ y ∈ L,sub x y -> x = y:=by
 unfold ek vd pn;rw [bol,jb,bnj,bof];constructor
 · rintro ⟨h1,h2⟩
   refine ⟨h1,fun y hy hs=>Classical.byContradiction fun hne=>h2 y (jb.2 hy) ?_⟩;rw [bmw,decide_eq_true_iff];exact ⟨hne,decide_eq_true hs⟩
 rintro ⟨h1,h2⟩;refine ⟨h1,fun y hy hc=>?_⟩;rw [bmw,decide_eq_true_iff] at hc;exact hc.1 (h2 y (jb.1 hy) (of_decide_eq_true hc.2))
def aho (L:List AS):qb (ek L):=by
 unfold ek vd;exact (ip L).sublist List.filter_sublist
section
variable {n:Int} {l:List Fd}
def bg2 {L:List AS} {t:AS} (h:∀ x ∈ L,sub x t):sub (orL L) t:=ap.2 fun i hi hb=>by
 unfold orL at hb;rw [a3t,bob] at hb
 rcases hb with hb | hb
 · simp at hb
 obtain ⟨x,hx,hxb⟩:=bno.1 hb;exact ap.1 (h x hx) i hi hxb
end
end
section
def b0e (E:Int -> Int -> Prop) (R:Rw -> Prop) (s:AS):Prop:=∃ r,R r /\ ∀ i:Nat,i < r.length -> d9 s (i:Int) = true -> E (r.getD i default) (i:Int)
section
variable {N:Nat} {p m:List Fd} {E:Int -> Int -> Prop} {R:Rw -> Prop}
def b3j {s t:AS} (h:sub s t) {i:Nat} (hi:d9 s (i:Int) = true):d9 t (i:Int) = true:=by
 by_cases hl:i < 32
 · rw [gm hl] at hi ⊢
   exact ap.1 h i hl hi
 rw [a03 bqx] at hi;cases hi
def b0e.mono {s t:AS} (h:b0e E R t) (hs:sub s t):b0e E R s:=by
 obtain ⟨r,h1,h2⟩:=h;exact ⟨r,h1,fun i hi hh=>h2 i hi (b3j hs hh)⟩
end
section
variable {n:Int} {p m:List Fd} {ps:List AS}
end
end
section
def lvE (n:Int) (ps:List AS):Int:=if n < 0 \/ 8 < n then 7 else if 64 < ps.length then 3 else if ps.length = 0 \/ ¬ orL ps = a7 n then 1 else 0
section
variable {n:Int} {ps:List AS} {p m:List Fd}
def ajy (h:n < 0 \/ 8 < n):lvE n ps = 7:=if_pos h
def b53 (h:¬ (n < 0 \/ 8 < n)) (h2:64 < ps.length):lvE n ps = 3:=by unfold lvE;rw [if_neg h,if_pos h2]
def ajo (h:¬ (n < 0 \/ 8 < n)) (h2:¬ 64 < ps.length) (h3:ps.length = 0 \/ ¬ orL ps = a7 n):lvE n ps = 1:=by unfold lvE;rw [if_neg h,if_neg h2,if_pos h3]
def b5g (h:¬ (n < 0 \/ 8 < n)) (h2:¬ 64 < ps.length) (h3:¬ (ps.length = 0 \/ ¬ orL ps = a7 n)):lvE n ps = 0:=by unfold lvE;rw [if_neg h,if_neg h2,if_neg h3]
def og (h:lvE n ps = 0):0 <= n /\ n <= 8 /\ ps.length <= 64 /\ 0 < ps.length /\ orL ps = a7 n:=by
 unfold lvE at h;split at h
 · exact absurd h br2
 split at h
 · exact absurd h br2
 split at h
 · exact absurd h br2
 rename_i h1 h2 h3;refine ⟨by omega,by omega,by omega,by omega, ?_⟩;apply Classical.byContradiction;intro e;exact h3 (.inr e)
def lsT (n:Int) (ps:List AS) (p m:List Fd):List St × (Int × List Rw) × Int:=jl FU n (au (bo n ps)) p m
def lsC (n:Int) (ps:List AS) (p m:List Fd):Int:=if lvE n ps = 0 then (if br n p m = 0 then (lsT n ps p m).2.2 else br n p m) else lvE n ps
def lsB (n:Int) (ps:List AS) (p m:List Fd):Bool:=decide (lsC n ps p m = 0) && (lsT n ps p m).2.1.2.any fun r=>decide (r = df n)
def bi7 (h:¬ lvE n ps = 0):lsC n ps p m = lvE n ps /\ lsB n ps p m = false:=by
 have e:lsC n ps p m = lvE n ps:=if_neg h;exact ⟨e,by unfold lsB;rw [e,decide_eq_false h];rfl⟩
def bh5 (h:lvE n ps = 0) (h2:¬ br n p m = 0):lsC n ps p m = br n p m /\ lsB n ps p m = false:=by
 have e:lsC n ps p m = br n p m:=(if_pos h).trans (if_neg h2);exact ⟨e,by unfold lsB;rw [e,decide_eq_false h2];rfl⟩
def ad1 (h:lvE n ps = 0) (h2:br n p m = 0):lsC n ps p m = (lsT n ps p m).2.2:=(if_pos h).trans (if_pos h2)
def qf (h:lsC n ps p m = 0):lvE n ps = 0 /\ br n p m = 0:=by
 unfold lsC at h;split at h
 · rename_i e
   split at h
   · rename_i e2;exact ⟨e,e2⟩
   rename_i e2;exact absurd h e2
 rename_i e;exact absurd h e
def a7f (h:lvE n ps = 0) {q:AS} (hq:q ∈ ps):sub q (a7 n):=by
 rw [<- (og h).2.2.2.2];exact as6 hq
def amt (h:lvE n ps = 0):gv n ps = (n,au (bo n ps),0):=by
 obtain ⟨h0,h8,h64,_⟩:=og h;exact abz bqx bqx fun j hj=>(a5t h0 bqx).1 (a7f h (dt hj))
def blz (n:Int) (p:List Fd) (ps:List AS):Bool:=lsB n ps p [] && !ps.any (cz p)
end
end
section
abbrev tbC (a:Int × List Rw):Nat -> PV:=fun j=>[.raw (.int .i64 a.1),rl a.2].getD j .any
def lcR (n:Int) (ps:List AS) (p m:List Fd):(Int × List Rw) × List St × (Int × List Rw) × Int :=
 if lvE n ps = 0 then (if br n p m = 0 then ((n,au (bo n ps)),(lsT n ps p m).1,(lsT n ps p m).2.1,(lsT n ps p m).2.2) else ((0,[]),[],(0,[]),br n p m)) else ((0,[]),[],(0,[]),lvE n ps)
section
variable {n:Int} {ps:List AS} {p m:List Fd} {l lend:List Rw}
def bi8 (h:¬ lvE n ps = 0):lcR n ps p m = ((0,[]),[],(0,[]),lvE n ps):=if_neg h
def bh9 (h:lvE n ps = 0) (h2:¬ br n p m = 0):lcR n ps p m = ((0,[]),[],(0,[]),br n p m):=(if_pos h).trans (if_neg h2)
def auy (h:lvE n ps = 0) (h2:br n p m = 0):lcR n ps p m = ((n,au (bo n ps)),(lsT n ps p m).1,(lsT n ps p m).2.1,(lsT n ps p m).2.2):=(if_pos h).trans (if_pos h2)
def qo:(lcR n ps p m).2.2.2 = lsC n ps p m:=by
 unfold lcR lsC;split
 · split <;> rfl
 rfl
def b34 (h:(lcR n ps p m).2.2.2 = 0):((lcR n ps p m).2.2.1.2.any fun r=>decide (r = df n)) = lsB n ps p m:=by
 have hc:=h;rw [qo] at hc;obtain ⟨h1,h2⟩:=qf hc;unfold lsB;rw [decide_eq_true hc,bov,auy h1 h2]
def b0g (h:¬ (lcR n ps p m).2.2.2 = 0):lsB n ps p m = false:=by
 rw [qo] at h;unfold lsB;rw [decide_eq_false h];rfl
def bcz:(bif decide ((lcR n ps p m).2.2.2 = 0) then ((lcR n ps p m).2.2.1.2.any fun r=>decide (r = df n)) else false) = lsB n ps p m:=by
 by_cases h:(lcR n ps p m).2.2.2 = 0
 · rw [decide_eq_true h,cond_true,b34 h]
 rw [decide_eq_false h,cond_false,b0g h]
def bk8 (h:lcR n ps p m = lcR n ps p m) (h2:(lcR n ps p m).2.2.2 = 0):0 <= n /\ n <= 8:=by
 rw [qo] at h2;obtain ⟨h1,_⟩:=qf h2;exact ⟨(og h1).1,(og h1).2.1⟩
def at2:∀ {sts:List St} {l:List Rw} {i:Nat},TrZ n p m lend l sts -> i <= sts.length -> TrZ n p m lend ((trL n p m l sts).getD i default) (sts.drop i)
 | [],l,0,h,_=>h
 | s :: r,l,0,h,_=>h
 | s :: r,l,i + 1,h,hi=>by
  obtain ⟨_,_,l',e,_,h⟩:=h;unfold trL;rw [e];exact at2 (i:=i) h (by simpa using hi)
def a9t:∀ {sts:List St} {l:List Rw} {i:Nat},i < sts.length -> (trL n p m l sts).getD (i + 1) default = (dx n ((trL n p m l sts).getD i default) p m (sts.getD i default)).2.1
 | [],l,i,hi=>by simp at hi
 | s :: r,l,0,_=>by
  unfold trL
  cases r with
  | nil=>rfl
  | cons s2 r2=>rfl
 | s :: r,l,i + 1,hi=>by
  unfold trL;exact a9t (sts:=r) (i:=i) (by simpa using hi)
section
variable {sts:List St}
def asq:(trL n p m l sts).getD 0 default = l:=by cases sts <;> rfl
def ji (n:Int) (p m:List Fd) (l:List Rw) (sts:List St):List (Int × List Rw):=(trL n p m l sts).map fun t=>(n,t)
def a00:(ji n p m l sts).length = sts.length + 1:=by unfold ji;rw [bn6,a3w]
def a9x {i:Nat} (hi:i <= sts.length):(ji n p m l sts).getD i default = (n,(trL n p m l sts).getD i default):=by
 unfold ji;have:i < (trL n p m l sts).length:=by rw [a3w];omega
 rw [bmm,bnc,bml this,bmm,bml this];rfl
def aj2 {i:Nat} (hi:i < sts.length):(ji n p m l sts).take (i + 1 + 1) = (ji n p m l sts).take (i + 1) ++ [(n,(dx n ((trL n p m l sts).getD i default) p m (sts.getD i default)).2.1)]:=by
 rw [aq (by rw [a00];omega),a9x bqx,a9t hi]
def ana:(ji n p m l sts).take 1 = [(n,l)]:=by
 unfold ji;cases sts <;> rfl
def rcR (n:Int) (ps:List AS) (p m:List Fd):List St × List (Int × List Rw) × Int :=
 if lsC n ps p m = 0 then ((lsT n ps p m).1,ji n p m (au (bo n ps)) (lsT n ps p m).1,0) else ([],[],lsC n ps p m)
def att {c:Int} (h:lsC n ps p m = c) (h2:¬ c = 0):rcR n ps p m = ([],[],c):=by
 unfold rcR;rw [h,if_neg h2]
def a94 (h:lsC n ps p m = 0):rcR n ps p m = ((lsT n ps p m).1,ji n p m (au (bo n ps)) (lsT n ps p m).1,0):=if_pos h
def ala (h:lvE n ps = 0) (hb:br n p m = 0) (hc:(lsT n ps p m).2.2 = 0):∃ sts lend,lsT n ps p m = (sts,(n,lend),0) /\ TrZ n p m lend (au (bo n ps)) sts /\ tok n lend = true /\ ((∃ t,t ∈ trL n p m (au (bo n ps)) sts /\ df n ∈ t) <-> df n ∈ lend):=by
 rcases ai1 (og h).2.2.1 hb with ⟨e,_⟩ | ⟨sts,lend,e,h1,h2,h3,h4⟩
 · unfold lsT at hc
   rw [e] at hc;exact absurd hc br2
 exact ⟨sts,lend,e,h2,h3,h4⟩
def ayv {p m:List Fd}:∀ (F:Nat) (n:Int) (l:List Rw) (acc:List St),(j9 F n l p m acc).1.length <= acc.length + F:=by
 intro F
 induction F with
 | zero=>intro n l acc;unfold j9;simp
 | succ F ih =>
  intro n l acc;unfold j9;split
  · simp
  rename_i s _;split;rename_i n' l' e _;split
  · have:=ih n' l' (acc ++ [s])
    simp only [bmo,bo3] at this;omega
  simp
def ah8 (h:lvE n ps = 0) (hb:br n p m = 0):(lsT n ps p m).1.length <= FU:=by
 obtain ⟨h0,h8,h64,_⟩:=og h;have hT:=ack (ps:=ps) h0 bqx h64;have hck:ckE n (au (bo n ps)) p m = 0:=(if_pos hT).trans hb;unfold lsT;rw [wq hck];have:=ayv (p:=p) (m:=m) FU n (au (bo n ps)) [];simpa using this
def o0 (n:Int) (t:List Rw):Bool:=t.any fun r=>decide (r = df n)
def prX (n:Int) (ps:List AS) (p m:List Fd):Int:=idx (fun a:Int × List Rw=>o0 n a.2) (rcR n ps p m).2.1
def prC (n:Int) (ps:List AS) (p m:List Fd):Int:=if (rcR n ps p m).2.2 = 0 then (if prX n ps p m < 0 then 11 else 0) else (rcR n ps p m).2.2
def prS (n:Int) (ps:List AS) (p m:List Fd):List St:=if (rcR n ps p m).2.2 = 0 then (if prX n ps p m < 0 then [] else (rcR n ps p m).1.take (prX n ps p m).toNat) else []
def a01:(rcR n ps p m).2.2 = lsC n ps p m:=by
 unfold rcR;split
 · rename_i h;exact h.symm
 rfl
def ayp:¬ lsC n ps p m = 11:=by
 intro h;unfold lsC at h;split at h
 · rename_i hv
   split at h
   · rename_i hb
     rcases ai1 (og hv).2.2.1 hb with ⟨e,_⟩ | ⟨sts,lend,e,_⟩
     · unfold lsT at h;rw [e] at h;exact absurd h br2
     unfold lsT at h;rw [e] at h;exact absurd (show (0:Int) = 11 from h) br2
   unfold br b5 at h
   (repeat' split at h) <;> omega
 unfold lvE at h
 (repeat' split at h) <;> omega
def asc (hc:lsC n ps p m = 0):(0 <= prX n ps p m) <-> lsB n ps p m = true:=by
 obtain ⟨h1,h2⟩:=qf hc;have hc2:(lsT n ps p m).2.2 = 0:=(ad1 h1 h2).symm.trans hc;obtain ⟨sts,lend,e,_,_,h3⟩:=ala h1 h2 hc2
 have e1:lsB n ps p m = decide (df n ∈ lend):=by
  unfold lsB;rw [decide_eq_true hc,bov,e];exact a6q
 have e2:(rcR n ps p m).2.1 = ji n p m (au (bo n ps)) sts:=by rw [a94 hc,e]
 have e3:(ji n p m (au (bo n ps)) sts).any (fun a=>o0 n a.2) = decide (0 <= prX n ps p m):=by
  unfold prX;rw [e2];exact xo.symm
 rw [e1,decide_eq_true_iff,<- h3,<- decide_eq_true_iff (p:=0 <= prX n ps p m),<- e3,bno];unfold ji o0;constructor
 · rintro ⟨x,hx,h⟩
   obtain ⟨t,ht,rfl⟩:=bne.1 hx;exact ⟨t,ht,by rw [a6q] at h;exact of_decide_eq_true h⟩
 rintro ⟨t,ht,h⟩;exact ⟨(n,t),bne.2 ⟨t,ht,rfl⟩,by rw [a6q];exact decide_eq_true h⟩
def bjm (h:prC n ps p m = 11):lsB n ps p m = false /\ lsC n ps p m = 0:=by
 unfold prC at h;rw [a01] at h;split at h
 · rename_i hc
   split at h
   · rename_i hx
     refine ⟨?_,hc⟩;rw [bmx];intro e;have:=(asc hc).2 e;omega
   exact absurd h br2
 exact absurd h ayp
def bhx (h:¬ prC n ps p m = 11):decide (prC n ps p m = 0) = lsB n ps p m /\ prC n ps p m = lsC n ps p m:=by
 unfold prC at h ⊢;rw [a01] at h ⊢;split at h
 · rename_i hc
   split at h
   · exact absurd rfl h
   rename_i hx;rw [if_pos hc,if_neg hx,hc];refine ⟨?_,rfl⟩;have:=(asc hc).1 bqx;rw [this];rfl
 rename_i hc;rw [if_neg hc];refine ⟨?_,rfl⟩;unfold lsB;rw [decide_eq_false hc];rfl
end
end
end
section
open Go.Proofs
section
variable {m p:List Fd} {n:Int} {ps:List AS}
def azr (h:lvE n ps = 0) (hb:br n p m = 0) (hc:(lsT n ps p m).2.2 = 0):TrZ n p m (lsT n ps p m).2.1.2 (au (bo n ps)) (lsT n ps p m).1:=by
 obtain ⟨sts,lend,e,htr,_⟩:=ala h hb hc;rw [e];exact htr
def be6 (h:(rcR n ps p m).2.2 = 0):(rcR n ps p m).2.1.length = (rcR n ps p m).1.length + 1:=by
 rw [a01] at h;rw [a94 h];exact a00
def bkj (h:(rcR n ps p m).2.2 = 0):0 <= n /\ n <= 16 /\ (rcR n ps p m).1.length <= FU:=by
 rw [a01] at h;obtain ⟨h1,h2⟩:=qf h;rw [a94 h];have:=og h1;exact ⟨this.1,by omega,ah8 h1 h2⟩
def b88 {l:List Rw} {T:List (Int × List Rw)} {e:TypeId} {N:Nat} {f:Nat -> Nat -> PV} (h:T = [(n,l)]) (hN:N = 1) (h0:CoP (f 0 0) (.raw (.int .i64 n))) (h1:CoP (f 0 1) (rl l)):CoO (.arr true 2 e N f) (.arr true 2 e T.length (lf tbC T)):=by
 subst h hN;refine ⟨fun h=>h,rfl,rfl,rfl,fun a j ha hj=>?_⟩
 have ha:a = 0:=by
  have:a < 1:=ha;omega
 subst ha
 match j,hj with
 | 0,_=>exact h0
 | 1,_=>exact h1
def alm {n:Nat} {l:List St} {i:Nat} {cl:Bool} (hn:n = (l.take i).length) {f:Nat -> Nat -> PV} (hf:∀ a j,f a j = lf St.c l a j):CoP (.sl n 4 cl f) (stl (l.take i)):=by
 refine CoP.sl hn.symm (.inl rfl) (fun h=>by cases h) fun a j ha hj=>CoP.of_eq ?_;rw [hf];show St.c (l.getD a default) j = St.c ((l.take i).getD a default) j;have:a < i:=by rw [hn,bmv] at ha;omega
 rw [bmm,bmm,bnl,if_pos this]
def bay (n:Int) (ps:List AS) (h:lvE n ps = 0):a6 brj 128 [pI n,pP (asl ps)] (a8 [pT n (au (bo n ps)),pI 0]):=by
 have:=bfj n ps;rw [amt h] at this;exact this
def b0w (n:Int) (ps:List AS) (h:lvE n ps = 0):a6 brj 130 [pI n,pP (asl ps)] (a8 [pT n (au (bo n ps)),pI 0]):=by
 have:=b8p n ps;rw [amt h] at this;exact this
def b6j (n:Int) (ps:List AS) (p m:List Fd):a6 brj 151 [pT n (au (bo n ps)),pP (fdl p),pP (fdl m)] (a8 [pP (stl (lsT n ps p m).1),pT (lsT n ps p m).2.1.1 (lsT n ps p m).2.1.2,pI (lsT n ps p m).2.2]) :=
 beh FU n (au (bo n ps)) p m (fun h=>am6 h) br2
def b2r (n:Int) (ps:List AS) (p m:List Fd):a6 brj 132 [pT n (au (bo n ps)),pP (fdl p),pP (fdl m)] (a8 [pP (stl (lsT n ps p m).1),pT (lsT n ps p m).2.1.1 (lsT n ps p m).2.1.2,pI (lsT n ps p m).2.2]) :=
 b63 FU n (au (bo n ps)) p m (fun h=>am6 h) br2
def axa (n:Int) (l:List Rw) (p m:List Fd) (s:St) (hT:tok n l = true) (hb:br n p m = 0) (h:yd l p m s) (he:dx n l p m s = (n,(dx n l p m s).2.1,0)):a6 brj 131 [pT n l,pP (fdl p),pP (fdl m),s.pc] (a8 [pT n (dx n l p m s).2.1,pI 0]):=by
 have:=aih n l p m s ((if_pos hT).trans hb) h;rw [he] at this;exact this
def b4o {l lend:List Rw} {sts:List St} {i:Nat} (hi:i < sts.length) (h:TrZ n p m lend l (sts.drop i)):tok n l = true /\ yd l p m (sts.getD i default) /\ dx n l p m (sts.getD i default) = (n,(dx n l p m (sts.getD i default)).2.1,0):=by
 have e:sts.drop i = sts.getD i default :: sts.drop (i + 1):=by
  rw [bpo hi,bmm,bml hi];rfl
 rw [e] at h;obtain ⟨h1,h2,l',h3,h4,h5⟩:=h;rw [h3];exact ⟨h1,h2,rfl⟩
end
end
end Go.Hx

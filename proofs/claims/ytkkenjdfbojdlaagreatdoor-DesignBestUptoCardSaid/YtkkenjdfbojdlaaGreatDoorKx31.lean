/- A part of the proof: Cs31 V30 Cs32 Cs33 Cs34 V33 Cs35 V34 Cs36 Cz1m Cs37 Cs40 Cs42 Ls2 Ls3 Ls5. -/
import Derived.Test.YtkkenjdfbojdlaaGreatDoorKx30
set_option linter.all false
set_option maxRecDepth 100000
set_option maxHeartbeats 1000000
namespace Go.Hx
section
def zw (l:List Fd) (p x:AS) (a:Nat):Bool:=(List.range a).all fun b=>!(x.getLsbD b && lj l p (noA x b))
def a6j (l:List Fd) (p x:AS) (a:Nat):zw l p x (a + 1) = (zw l p x a && !(x.getLsbD a && lj l p (noA x a))):=by
 unfold zw;rw [bo0,List.all_append];simp only [List.all_cons,List.all_nil,Bool.and_true]
section
variable {l:List Fd} {p x:AS}
def am4 {a:Nat} (ha:a < 32) (h:d6 x a = true) (h2:lj l p (noA x a) = true):zw l p x (a + 1) = false:=by
 rw [gk ha] at h;rw [a6j,h,h2];simp
def af4 {a:Nat} (ha:a < 32) (h:d6 x a = false):zw l p x (a + 1) = zw l p x a:=by
 rw [gk ha] at h;rw [a6j,h];simp
def aey {a:Nat} (h:lj l p (noA x a) = false):zw l p x (a + 1) = zw l p x a:=by
 rw [a6j,h];simp
def ago (i:Nat):List AS:=(List.range i).map (BitVec.ofNat 32)
def ai3 (i:Nat):ago (i + 1) = ago i ++ [BitVec.ofNat 32 i]:=by unfold ago;rw [bo0,boh];rfl
def prQ (l:List Fd) (p x:AS):Bool:=decide (sub x p) && a0a l p x
def ju (l:List Fd) (p:AS) (i:Nat):AS:=orL ((ago i).filter (prQ l p))
def b1q {i:Nat} (h:sub (BitVec.ofNat 32 i) p) (h2:lj l p (BitVec.ofNat 32 i) = true) (h3:a0d l p (BitVec.ofNat 32 i) = true):ju l p (i + 1) = ju l p i ||| BitVec.ofNat 32 i:=by
 have e:prQ l p (BitVec.ofNat 32 i) = true:=by unfold prQ;rw [decide_eq_true h,adb h2 h3];rfl
 unfold ju;rw [ai3,bnc];simp only [bnf,e,if_true,bnw];exact apq _ _
def aba {i:Nat} (e:prQ l p (BitVec.ofNat 32 i) = false):ju l p (i + 1) = ju l p i:=by
 unfold ju;rw [ai3,bnc];simp only [bnf,e,bnq,if_false,bnw,bn9]
def bhm (h:¬ sub x p):prQ l p x = false:=by unfold prQ;rw [decide_eq_false h];rfl
def bh2 (h:lj l p x = false):prQ l p x = false:=by unfold prQ;rw [a8i h];simp
def bgy (h:a0d l p x = false):prQ l p x = false:=by unfold prQ;rw [a8m h];simp
def b02 {i:Nat} (hi:i <= 4294967296):x ∈ ago i <-> x.toNat < i:=by
 unfold ago;rw [bn2];constructor
 · rintro ⟨k,hk,rfl⟩
   rw [bmq] at hk;rw [bq7,bp6 bqi];exact hk
 intro h;exact ⟨x.toNat,bmq.2 h,by rw [BitVec.ofNat_toNat,BitVec.setWidth_eq]⟩
def aso {i:Nat} (hp:i = p.toNat + 1):ju l p i = oj l p:=by
 have:=p.isLt;unfold ju oj;refine b01 fun z=>?_;rw [bog,bog,b02 bqi,x9];unfold prQ;rw [bml,decide_eq_true_iff];constructor
 · rintro ⟨_,h1,h2⟩;exact ⟨h1,h2⟩
 rintro ⟨h1,h2⟩;have:=a0s h1;exact ⟨by omega,h1,h2⟩
end
section
variable {l:List Fd} {p:AS} {i:Nat}
def a87 (hi:i < 4294967296):ay .andNot .u32 (i:Int) (asI p) = 0 <-> sub (BitVec.ofNat 32 i) p:=by
 rw [j7 hi];exact i9
def atn (hi:i < 4294967296) (h:¬ ay .andNot .u32 (i:Int) (asI p) = 0):asI (ju l p i) = asI (ju l p (i + 1)):=congrArg asI (aba (bhm fun e=>h ((a87 hi).2 e))).symm
def at3 (h:decide (sub p (clo l (BitVec.ofNat 32 i))) = false):asI (ju l p i) = asI (ju l p (i + 1)):=congrArg asI (aba (bh2 h)).symm
def at5 (h:zw l p (BitVec.ofNat 32 i) 32 = false):asI (ju l p i) = asI (ju l p (i + 1)):=congrArg asI (aba (bgy h)).symm
def aug (hi:i < 4294967296) (h1:ay .andNot .u32 (i:Int) (asI p) = 0) (h2:decide (sub p (clo l (BitVec.ofNat 32 i))) = true) (h3:zw l p (BitVec.ofNat 32 i) 32 = true):ay .or .u32 (asI (ju l p i)) (i:Int) = asI (ju l p (i + 1)):=by
 rw [b1q ((a87 hi).1 h1) h2 h3,j7 hi,bOr]
end
def p7 (l:List Fd) (p x:AS):Bool:=!lj l p x && decide (((clo l x &&& p) &&& ~~~x) &&& ~~~oj l p ≠ 0)
def sk (l:List Fd) (p:AS):Bool:=!(fq p).any (p7 l p)
section
variable {l:List Fd} {p:AS}
def aqo (h:∀ x,sub x p -> p7 l p x = false):sk l p = true:=by
 unfold sk
 have:(fq p).any (p7 l p) = false:=by
  rw [bo7];intro x hx;rw [h x (x9.1 hx)];decide
 rw [this];rfl
variable {x:AS}
def aqp (hx:sub x p) (h:p7 l p x = true):sk l p = false:=by
 unfold sk
 have:(fq p).any (p7 l p) = true:=by
  rw [bne];exact ⟨x,x9.2 hx,h⟩
 rw [this];rfl
def b47:decide (ay .andNot .u32 (ay .andNot .u32 (ay .and .u32 (asI (clo l x)) (asI p)) (asI x)) (asI (oj l p)) = 0) = decide (((clo l x &&& p) &&& ~~~x) &&& ~~~oj l p = 0):=by
 rw [fj,i7,i7,show (0:Int) = asI 0 from rfl,a6b]
def a7j (h:lj l p x = true):p7 l p x = false:=by unfold p7;rw [h];rfl
def a74 (h:ay .andNot .u32 (ay .andNot .u32 (ay .and .u32 (asI (clo l x)) (asI p)) (asI x)) (asI (oj l p)) = 0):p7 l p x = false:=by
 have e:=b47.symm.trans (decide_eq_true h);unfold p7;rw [decide_eq_false (fun hn=>hn (of_decide_eq_true e))];simp
def b3t (h0:lj l p x = false) (h:¬ ay .andNot .u32 (ay .andNot .u32 (ay .and .u32 (asI (clo l x)) (asI p)) (asI x)) (asI (oj l p)) = 0):p7 l p x = true:=by
 have e:=b47.symm.trans (decide_eq_false h);unfold p7;rw [h0,decide_eq_true (of_decide_eq_false e)];rfl
def b3y (h:ay .and .u32 (asI (clo l x)) (asI p) = asI p):lj l p x = true:=sa.symm.trans (decide_eq_true h)
def bha (h:¬ ay .and .u32 (asI (clo l x)) (asI p) = asI p):lj l p x = false:=sa.symm.trans (decide_eq_false h)
def ale {i:Nat} (hi:i < 4294967296) (h:¬ ay .andNot .u32 (i:Int) (asI p) = 0):(decide (sub (BitVec.ofNat 32 i) p) && p7 l p (BitVec.ofNat 32 i)) = false:=by
 rw [decide_eq_false (fun e=>h ((a87 hi).2 e))];rfl
def a3d {b:Bool} (h:p7 l p x = false):(b && p7 l p x) = false:=by rw [h];simp
def b8g {i:Nat} (hi:i = p.toNat + 1) (h:∀ j,j < i -> (decide (sub (BitVec.ofNat 32 j) p) && p7 l p (BitVec.ofNat 32 j)) = false):sk l p = true:=aqo fun x hx=>by
 have:=h x.toNat (by have:=a0s hx;omega);rw [BitVec.ofNat_toNat,BitVec.setWidth_eq,decide_eq_true hx,boi] at this;exact this
def b2i (h:∀ j,j < (fq p).length -> p7 l p ((fq p).getD j default) = false):sk l p = true:=aqo fun x hx=>by
 obtain ⟨j,hj,rfl⟩:=bn1 (x9.2 hx);have:=h j hj;rwa [bmb,bma hj,bn6] at this
def yb (n:Int) (l:List Fd) (p:AS):Int:=if b6 n l = 0 then (if sub p (a7 n) then 0 else 1) else b6 n l
def qk (n:Int) (l:List Fd) (p:AS):Bool:=decide (yb n l p = 0) && sk l p
def b57 {n:Int} (h:¬ b6 n l = 0):yb n l p = b6 n l /\ qk n l p = false:=by
 have e:yb n l p = b6 n l:=if_neg h;exact ⟨e,by unfold qk;rw [e,decide_eq_false h];rfl⟩
def b3v {n:Int} (h:b6 n l = 0) (h2:¬ sub p (a7 n)):yb n l p = 1 /\ qk n l p = false:=by
 have e:yb n l p = 1:=by unfold yb;rw [if_pos h,if_neg h2]
 exact ⟨e,by unfold qk;rw [e];rfl⟩
def aj0 {n:Int} (h:b6 n l = 0) (h2:sub p (a7 n)):yb n l p = 0 /\ qk n l p = sk l p:=by
 have e:yb n l p = 0:=by unfold yb;rw [if_pos h,if_pos h2]
 exact ⟨e,by unfold qk;rw [e];rfl⟩
end
end
section
open Go.Proofs
def br1 {p:Prop} (h:p:=by first | exact bj (atn bqi bqj) | exact bj (at3 bqj) | exact bj (aug bqi bqj bqj bqj) | exact bj (at5 bqj)):p:=h
def axv (l:List Fd) (p:AS) (hp:p.toNat < 65536):a6 br6 205 [pP (fdl l),pA p] (a8 [pA (oj l p)]):=by
 refine hpx (nt:=46) Tryz.func205 ?_;refine p9 ?_;refine b5 (ka 0 (ka 1 kn)) km (fun i=>⟨[(5,some (vA (ju l p i))),(6,some (.v (.one (.p (.raw (.int .u32 (i:Int)))))))],[]⟩) (p.toNat + 1) ⟨⟨⟨_,rfl,(bj rfl)⟩,tt⟩,trivial⟩ ?_;rintro i hi;have hsa:asI p = (p.toNat:Int):=rfl;refine w_7 ?_;refine hcd (fun h0=>?_) (fun h0=>?_)
 ·
  refine cq ?_;refine ah rfl rfl (fun r1=>?_) (fun r1=>?_)
  ·
   have h1:=tz2 (cu r1);(iterate 5 refine k9 (gtf r1) ?_);refine rq rfl rfl rfl rfl rfl ?_ (hp:=r1);refine w_8 ?_
   exact lpx (i + 1) ⟨⟨⟨_,rfl,br1⟩,tt⟩,trivial⟩
  have h1:=tz1 (ct r1);(iterate 3 refine qy ?_ (hg:=(gff r1)));refine rc rfl rfl rfl rfl rfl rfl ad5 (aue l (BitVec.ofNat 32 i) p) (⟨CoC.refl _,cci (j7 bqi),CoC.refl _,trivial⟩) rfl (gff r1) ?_;refine qy ?_ (hg:=(gff r1))
  refine w_2 ?_;refine ak _ rfl (fun r2=>?_) (fun r2=>?_)
  · have h2:=cu (au r1 r2);refine w_6 ?_;exact lpx (i + 1) ⟨⟨⟨_,rfl,br1⟩,tt⟩,trivial⟩
  have h2:=ct (au r1 r2);refine cq ?_;refine b5 (ka 0 (ka 1 (ka 5 (ka 6 kn)))) km (fun a=>⟨[(7,some (vB (zw l p (BitVec.ofNat 32 i) a))),(8,some (vI a))],[]⟩) 32 ⟨⟨⟨_,rfl,(cob rfl)⟩,tt⟩,trivial⟩ ?_;rintro a ha;refine w_6 ?_;refine hcd (fun h3=>?_) (fun h3=>?_)
  ·
   refine w_7 ?_;refine rc rfl rfl rfl rfl rfl rfl ov (a1z (BitVec.ofNat 32 i) a) (⟨cci (j7 bqi),CoC.refl _,trivial⟩) rfl rfl ?_;refine qy ?_;refine ah rfl rfl (fun r4=>?_) (fun r4=>?_)
   ·
    have h4:=r4;(iterate 6 refine qy ?_ (hg:=(gtt r4)));refine rc rfl rfl rfl rfl rfl rfl ad5 (aue l (noA (BitVec.ofNat 32 i) a) p) (⟨CoC.refl _,cci (by rw [j7 (n:=i) bqi];exact a0u _ _ rfl),CoC.refl _,trivial⟩) rfl (gtt r4) ?_;refine w_2 ?_;refine ak _ rfl (fun r5=>?_) (fun r5=>?_)
    · have h5:=br r4 r5;refine w_8 ?_;exact lpx (a + 1) ⟨⟨⟨_,rfl,(cob (by first | exact (am4 bqi bqj bqj).symm | exact (af4 bqi bqj).symm | exact (aey bqj).symm))⟩,tt⟩,trivial⟩
    have h5:=br r4 r5;refine w_6 ?_;exact lpx (a + 1) ⟨⟨⟨_,rfl,(cob (by first | exact (am4 bqi bqj bqj).symm | exact (af4 bqi bqj).symm | exact (aey bqj).symm))⟩,tt⟩,trivial⟩
   have h4:=r4;(iterate 7 refine k9 (gft r4) ?_);refine rq rfl rfl rfl rfl rfl ?_ (hp:=r4);refine w_8 ?_
   exact lpx (a + 1) ⟨⟨⟨_,rfl,(cob (by first | exact (am4 bqi bqj bqj).symm | exact (af4 bqi bqj).symm | exact (aey bqj).symm))⟩,tt⟩,trivial⟩
  obtain rfl:a = 32:=by omega
  refine w_5 ?_;refine hcb (fun h6=>?_) (fun h6=>?_)
  · refine cq ?_;exact lpx (i + 1) ⟨⟨⟨_,rfl,br1⟩,tt⟩,trivial⟩
  refine w_6 ?_;exact lpx (i + 1) ⟨⟨⟨_,rfl,br1⟩,tt⟩,trivial⟩
 have hie:i = p.toNat + 1:=by omega
 refine v_6 ?_;exact ⟨cci (congrArg asI (aso hie)),trivial⟩
def axm (l:List Fd) (p:AS) (hp:p.toNat < 65536):a6 br6 158 [pP (fdl l),pA p] (a8 [pB (sk l p)]):=by
 refine hpx (nt:=38) Tryz.func158 ?_;refine w_8 ?_;refine qcx (wgx Tryz.func205) (axv l p hp) ?_;refine w_8 ?_;refine ae (ι:=Nat) (ka 0 (ka 1 (ka 5 kn))) km (fun i=>⟨[(6,some (.v (.one (.p (.raw (.int .u32 (i:Int)))))))],[]⟩) (fun i=>i <= p.toNat + 1 /\ ∀ j,j < i -> (decide (sub (BitVec.ofNat 32 j) p) && p7 l p (BitVec.ofNat 32 j)) = false) (fun i=>p.toNat + 1 - i) (0) (⟨bmh _,bq⟩) kk ?_;rintro i ⟨hi,hI⟩;have hsa:asI p = (p.toNat:Int):=rfl;refine w_7 ?_;refine hcd (fun h0=>?_) (fun h0=>?_)
 ·
  refine c5 ?_;refine ah rfl rfl (fun r1=>?_) (fun r1=>?_)
  ·
   have h1:=tz1 r1;(iterate 3 refine qy ?_ (hg:=(gtt r1)));refine rc rfl rfl rfl rfl rfl rfl ad5 (aue l (BitVec.ofNat 32 i) p) (⟨CoC.refl _,cci (j7 bqi),CoC.refl _,trivial⟩) rfl (gtt r1) ?_;refine qy ?_ (hg:=(gtt r1))
   refine w_2 ?_;refine ah rfl rfl (fun r2=>?_) (fun r2=>?_)
   ·
    have h2:=cu (br r1 r2);(iterate 2 refine qy ?_ (hg:=(gtt r2)));refine rc rfl rfl rfl rfl rfl rfl wc (wl l (BitVec.ofNat 32 i)) (⟨CoC.refl _,cci (j7 bqi),trivial⟩) rfl (gtt r2) ?_
    (iterate 7 refine qy ?_ (hg:=(gtt r2)));refine w_2 ?_;refine ak _ rfl (fun r3=>?_) (fun r3=>?_)
    · have h3:=tz2 (cu (br r2 r3));refine v_4 ?_;exact ⟨ccb (aqp (x:=BitVec.ofNat 32 i) ((a87 (i:=i) bqi).1 bqj) (b3t bqj (by rw [<- j7 (n:=i) bqi];assumption))).symm,trivial⟩
    have h3:=tz1 (ct (br r2 r3));refine w_6 ?_;refine lpz (i + 1) kk ?_;exact ⟨by show i + 1 <= _;omega,aw hI (by first | exact ale bqi bqj | exact a3d (a7j bqj) | exact a3d (a74 (by rw [<- j7 (n:=i) bqi];assumption)))⟩
   have h2:=ct (br r1 r2);(iterate 10 refine k9 (gft r2) ?_);refine rq rfl rfl rfl rfl rfl ?_ (hp:=r2);refine w_8 ?_;refine lpz (i + 1) kk ?_
   exact ⟨by show i + 1 <= _;omega,aw hI (by first | exact ale bqi bqj | exact a3d (a7j bqj) | exact a3d (a74 (by rw [<- j7 (n:=i) bqi];assumption)))⟩
  have h1:=tz2 r1;(iterate 5 refine k9 (gft r1) ?_);refine rq rfl rfl rfl rfl rfl ?_ (hp:=r1);refine qy ?_;(iterate 10 refine k9 rfl ?_);refine w_9 ?_;refine lpz (i + 1) kk ?_
  exact ⟨by show i + 1 <= _;omega,aw hI (by first | exact ale bqi bqj | exact a3d (a7j bqj) | exact a3d (a74 (by rw [<- j7 (n:=i) bqi];assumption)))⟩
 have hie:i = p.toNat + 1:=by omega
 refine v_5 ?_;exact ⟨ccb (b8g hie hI).symm,trivial⟩
def b6h (n:Int) (l:List Fd) (p:AS):a6 br6 156 [pI n,pP (fdl l),pA p] (a8 [pB (qk n l p),pI (yb n l p)]):=by
 refine hpx (nt:=50) Tryz.func156 ?_;refine c5 ?_;refine qcx vk (zz n l) ?_;refine w_7 ?_;refine hcn (fun h0=>?_) (fun h0=>?_)
 · refine w_6 ?_;refine hrr ?_;have he:=b57 (p:=p) h0;exact f9 rfl rfl (⟨ccb he.2.symm,cci he.1.symm,trivial⟩)
 refine w_3 ?_;have hv:=ew h0;have hsh:=aun (s:=p) (n:=n) hv.1 hv.2.1;refine w_6 ?_;refine hcn (fun h1=>?_) (fun h1=>?_)
 · refine w_5 ?_;refine hrr ?_;have he:=b3v h0 (fun e=>h1 (hsh.2 e));exact f9 rfl rfl (⟨ccb he.2.symm,cci he.1.symm,trivial⟩)
 refine w_5 ?_;refine qcx (wgx Tryz.func203) (b5j l p) ?_;refine w_4 ?_;have htl:=aho p;refine w_2 ?_;refine qcx (wgx Tryz.func204) (axg p) ?_;refine w_4 ?_;refine ae (ι:=Nat) (ka 1 (ka 2 (ka 9 (ka 27 (ka 28 kn))))) km (fun i=>⟨[(29,some (vI i))],[]⟩) (fun i=>i <= (fq p).length /\ (∀ j,j < i -> p7 l p ((fq p).getD j default) = false)) (fun i=>(fq p).length - i) (0) (⟨bmh _,bq⟩) kk ?_;rintro i ⟨hi,hI⟩;refine w_5 ?_;refine hcd (fun h2=>?_) (fun h2=>?_)
 ·
  refine ja ?_;refine qcx uh (xl l ((fq p).getD i default)) ?_;refine c5 ?_;refine ah rfl rfl (fun r3=>?_) (fun r3=>?_)
  ·
   have h3:=tz2 (cu r3);(iterate 6 refine qy ?_ (hg:=(gtt r3)));refine w_2 ?_;refine ak _ rfl (fun r4=>?_) (fun r4=>?_)
   · have h4:=tz2 (cu (br r3 r4));refine w_5 ?_;refine hrr ?_;have he:=aj0 h0 (hsh.1 h1);have hb:=aqp (x9.1 (abd (l:=fq p) (j:=i) bqi)) (b3t (bha h3) h4);exact f9 rfl rfl (⟨ccb (by rw [he.2,hb]),cci he.1.symm,trivial⟩)
   have h4:=tz1 (ct (br r3 r4));refine w_5 ?_;refine lpz (i + 1) kk ?_;exact ⟨by show i + 1 <= _;omega,aw hI (by first | exact a7j (b3y h3) | exact a74 h4)⟩
  have h3:=tz1 (ct r3);(iterate 6 refine k9 (gft r3) ?_);refine rq rfl rfl rfl rfl rfl ?_ (hp:=r3);refine w_7 ?_;refine lpz (i + 1) kk ?_
  exact ⟨by show i + 1 <= _;omega,aw hI (by first | exact a7j (b3y h3) | exact a74 h4)⟩
 obtain rfl:i = (fq p).length:=by omega
 refine w_6 ?_;refine hrr ?_;have he:=aj0 h0 (hsh.1 h1);have hb:=b2i hI;exact f9 rfl rfl (⟨ccb (by rw [he.2,hb]),cci he.1.symm,trivial⟩)
def aws (n:Int) (l:List Fd) (p:AS):a6 br6 107 [pI n,pP (fdl l),pA p] (a8 [pB (qk n l p),pI (yb n l p)]):=by
 refine hpx (nt:=23) Tryz.func107 ?_;refine c5 ?_;refine qcx a3g (yz n l) ?_;refine w_7 ?_;refine hcn (fun h0=>?_) (fun h0=>?_)
 · refine w_6 ?_;refine hrr ?_;have he:=b57 (p:=p) h0;exact f9 rfl rfl (⟨ccb he.2.symm,cci he.1.symm,trivial⟩)
 refine w_3 ?_;have hv:=ew h0;have hfn:=bfz hv.1 hv.2.1;refine w_3 ?_;refine qcx lg (li n) ?_;refine w_3 ?_;refine hcn (fun h1=>?_) (fun h1=>?_)
 · refine w_5 ?_;refine hrr ?_;have he:=b3v h0 (fun e=>h1 (i9.2 e));exact f9 rfl rfl (⟨ccb he.2.symm,cci he.1.symm,trivial⟩)
 refine w_2 ?_;have hsp:=i9.1 h1;have hpl:=a0s hsp;have hfe:asI (a7 n) = ((a7 n).toNat:Int):=rfl;refine w_3 ?_;refine qcx (wgx Tryz.func158) (axm l p bqi) ?_;refine w_3 ?_;refine hrr ?_;have he:=aj0 h0 hsp;exact f9 rfl rfl (⟨ccb he.2.symm,cci he.1.symm,trivial⟩)
end
section
def aox {l:List Fd} {i:Nat} {x:Fd} (h:x ∈ gh l i):x ∈ l:=by
 unfold gh at h
 rcases bmu.1 h with h | h
 · exact bov h
 exact bpv h
def a1q {x:Fd}:∀ (f:Nat) (l:List Fd) (i:Nat),x ∈ pi f l i -> x ∈ l
 | 0,l,i,h=>h
 | f + 1,l,i,h=>by
  unfold pi at h;split at h
  · split at h
    · exact aox (a1q f _ _ h)
    exact a1q f _ _ h
  exact h
def b5e {n:Int} {l:List Fd} (h:b6 n l = 0):v6 (a7 n) (a7r l):=fun x hx=>by
 have h1:=a1q _ _ _ hx;exact age (aw1 (akq h)) _ x (xv.1 h1)
section
variable {n:Int} {l:List Fd}
def a6d (h:b6 n l = 0) {x:AS} (hx:sub x (a7 n)):sub (a7 n) (clo l x) <-> clo l x = a7 n :=
 ⟨fun e=>dt (akv h hx) e,fun e=>by rw [e];exact fh _⟩
def ay3 (h:b6 n l = 0) {x:AS} (hx:sub x (a7 n)):i6 n l x = lj l (a7 n) x:=by
 unfold i6 lj;exact decide_eq_decide.2 ⟨fun e=>(a6d h hx).2 e.2.2,fun e=>⟨h,hx,(a6d h hx).1 e⟩⟩
def bgj (n:Int) (l:List Fd) (f:Fd):Bool:=decide (clo l f.lhs ≠ a7 n) && decide (f.rhs &&& ~~~oj l (a7 n) ≠ 0)
def bl8 (n:Int) (l:List Fd) (i:Nat):List Fd:=((yd n l).take i).filter (bgj n l)
def bl9 (n:Int) (l:List Fd):List Fd:=(yd n l).filter (bgj n l)
def abc (n:Int) (l:List Fd):(yd n l).length <= 2048:=by
 unfold yd;split
 · rename_i h
   have h1:=(ew h).2.2.1;have h2:=a44 l
   have h3:(a7r l).length <= (xo l).length:=by
    have:∀ (f:Nat) (k:List Fd) (i:Nat),(pi f k i).length <= k.length:=by
     intro f
     induction f with
     | zero=>intro k i;exact bmd _
     | succ f ih =>
      intro k i;unfold pi;split
      · rename_i hi
        split
        · exact bmo (ih _ _) (by rw [gn hi];omega)
        exact ih _ _
      exact bmd _
    exact this _ _ _
   omega
 simp
end
end
section
def bkf (l:List Fd) (pr k:AS):Bool:=(List.range 32).all fun a=>!k.getLsbD a || decide (sub (clo l (noA k a)) pr)
def bjs (n:Int) (l:List Fd):Bool:=(b4p n l).all (bkf l (orL (b4p n l)))
def bm7 (n:Int) (l:List Fd):Bool:=decide (b6 n l = 0) && bjs n l
section
variable {l:List Fd} {pr k:AS}
def bls (l:List Fd) (pr k r:AS):Prop:=sub r k /\ ∀ a,a < 32 -> k.getLsbD a = true -> r.getLsbD a = true \/ sub (clo l (noA k a)) pr
def blm (l:List Fd) (pr k:AS) (s:Nat):Prop:=∀ j,j < s -> sub (BitVec.ofNat 32 j) k -> sub (clo l (BitVec.ofNat 32 j)) pr
end
section
variable {n:Int} {l:List Fd}
end
end
section
def mgR (l:List Fd) (s:AS):AS:=(l.filter fun f=>decide (f.lhs = s)).foldl (fun a f=>a ||| f.rhs) 0
def mgF (l:List Fd) (s:AS):Fd:=⟨s,mgR l s⟩
def a40 (l:List Fd):List Fd:=(ord (l.map Fd.lhs)).map (mgF l)
section
variable {l:List Fd}
def bhd {s:AS} {i:Nat} (hi:i < l.length) (h:(l.getD i default).lhs = s):mgR (l.take (i + 1)) s = mgR (l.take i) s ||| (l.getD i default).rhs:=by
 unfold mgR;rw [am hi,bnc,bnn];simp only [bnf,h,decide_true,if_true,bnw,bo9,List.foldl_nil]
def b40 {s:AS} {i:Nat} (hi:i < l.length) (h:¬ (l.getD i default).lhs = s):mgR (l.take (i + 1)) s = mgR (l.take i) s:=by
 unfold mgR;rw [am hi,bnc,bnn];simp only [bnf,h,decide_false,bnq,if_false,bnw,List.foldl_nil]
def b21 {s:AS} {i:Nat} (hi:i < l.length) (h:asI (l.getD i default).lhs = asI s):PV.raw (.int .u32 (ay .or .u32 (asI (mgR (l.take i) s)) (asI (l.getD i default).rhs))) = asC (mgR (l.take (i + 1)) s):=by
 rw [bOr,bhd hi (c6.1 h)];rfl
def bec {s:AS} {i:Nat} (hi:i < l.length) (h:¬ asI (l.getD i default).lhs = asI s):asC (mgR (l.take i) s) = asC (mgR (l.take (i + 1)) s):=by
 rw [b40 hi (fun e=>h (congrArg asI e))]
def b2m (l:List Fd):(a40 l).length <= l.length:=by
 unfold a40;rw [bms];exact bmo (jw _) (by rw [bms];exact bmd _)
end
end
section
open Go.Proofs
def b6i (l:List Fd) (hl:l.length <= 16777216):a6 br6 142 [pP (fdl l)] (a8 [pP (fdl (a40 l))]):=by
 refine hpx (nt:=66) Tryz.func142 ?_;refine w_5 ?_;have hol:=jw (l.map Fd.lhs);rw [bms] at hol;refine w_9 ?_;refine bw 3 900 true 1 46 (lf sC []) bqo rfl (CoP.sl rfl (.inr rfl) (fun h=>h) (fun i j hi _=>absurd hi (bmf i))) (.inr rfl) rfl ?_;refine b5 (ka 0 kn) km (fun i=>⟨[(3,some (.v (.one (.ref 900 ((l.take i).map Fd.lhs).length)))),(4,some (vI i))],[(900,some (.arr true 1 46 ((l.take i).map Fd.lhs).length (lf sC ((l.take i).map Fd.lhs))))]⟩) l.length kk ?_;rintro i hi;have hlen:((l.take i).map Fd.lhs).length <= i:=by rw [bms,bmk];omega
 refine w_8 ?_;refine hcd (fun h0=>?_) (fun h0=>?_)
 · refine c5 ?_;refine m9 0 ?_;refine r9 1 true ?_;refine w_7 ?_;exact lpx (i + 1) ⟨⟨⟨_,rfl,(bg (lv bqi))⟩,tt⟩,⟨⟨_,rfl,(bh (lv bqi) (CoP.refl _))⟩,trivial⟩⟩
 obtain rfl:i = l.length:=by omega
 rw [show (l.take l.length).map Fd.lhs = l.map Fd.lhs by rw [bmi]];refine w_2 ?_;refine al 3 rfl rfl rfl ?_;refine w_2 ?_;refine qcx a7z (a94 (l.map Fd.lhs) (by rw [bms];omega)) ?_;refine dy ?_;refine bw 5 901 true 2 48 (lf Fd.c []) bqo rfl (CoP.sl rfl (.inr rfl) (fun h=>h) (fun i j hi _=>absurd hi (bmf i))) (.inr rfl) rfl ?_;refine b5 (ka 0 (ka 3 kn)) km (fun k=>⟨[(5,some (.v (.one (.ref 901 (((ord (l.map Fd.lhs)).take k).map (mgF l)).length)))),(6,some (vI k))],[(901,some (.arr true 2 48 (((ord (l.map Fd.lhs)).take k).map (mgF l)).length (lf Fd.c (((ord (l.map Fd.lhs)).take k).map (mgF l)))))]⟩) ((ord (l.map Fd.lhs)).length) kk ?_;rintro k hk;have hlen2:(((ord (l.map Fd.lhs)).take k).map (mgF l)).length <= k:=by rw [bms,bmk];omega
 refine w_8 ?_;refine hcd (fun h1=>?_) (fun h1=>?_)
 ·
  refine c5 ?_;refine m9 2 ?_;refine w_8 ?_;refine b5 (ka 0 (ka 3 (ka 5 (ka 6 (ka 7 kn))))) (kb 901 km) (fun i=>⟨[(8,some (vI i))],[(2,some (.box [.p (asC ((ord (l.map Fd.lhs)).getD k default)), .p (asC (mgR (l.take i) ((ord (l.map Fd.lhs)).getD k default)))]))]⟩) l.length ⟨tt,⟨⟨_,rfl,⟨CoP.refl _,CoP.refl _,trivial⟩⟩,trivial⟩⟩ ?_;rintro i hi;refine w_8 ?_;refine hcd (fun h2=>?_) (fun h2=>?_)
  ·
   refine y5 ?_;refine hcd (fun h3=>?_) (fun h3=>?_)
   · refine aad ?_;exact lpx (i + 1) ⟨tt,⟨⟨_,rfl,(by first | exact ⟨CoP.refl _,CoP.of_eq (b21 bqi bqj),trivial⟩ | exact ⟨CoP.refl _,CoP.of_eq (bec bqi bqj),trivial⟩)⟩,uu⟩⟩
   refine w_6 ?_;exact lpx (i + 1) ⟨tt,⟨⟨_,rfl,(by first | exact ⟨CoP.refl _,CoP.of_eq (b21 bqi bqj),trivial⟩ | exact ⟨CoP.refl _,CoP.of_eq (bec bqi bqj),trivial⟩)⟩,uu⟩⟩
  obtain rfl:i = l.length:=by omega
  refine w_4 ?_;refine m9 3 ?_;refine r9 4 true ?_;refine w_7 ?_;exact lpx (k + 1) ⟨⟨⟨_,rfl,(bg (lv bqi))⟩,tt⟩,⟨⟨_,rfl,(jh (lv bqi) (CoP.refl _) (CoP.of_eq bqy))⟩,trivial⟩⟩
 obtain rfl:k = (ord (l.map Fd.lhs)).length:=by omega
 refine w_6 ?_;refine al 2 rfl rfl rfl ?_;exact hx8 rfl rfl rfl (⟨CoC.one (CoP.of_eq bqy),trivial⟩)
end
section
open Go.Proofs
def x5 (t:AS) (l:List Fd):Prop:=∀ x ∈ l,sub x.rhs t
section
variable {l:List Fd} {t:AS}
def b0c {i a:Nat} (h:x5 t l):x5 t (im i l a):=by
 unfold im;split
 · intro x hx
   rcases List.mem_or_eq_of_mem_set hx with hx | rfl
   · exact h x hx
   by_cases hi:i < l.length
   · exact h (l.getD i default) (by rw [bmb,bma hi];exact bmz hi)
   rw [bph bqi] at hx;exact h _ hx
 exact h
def ai6 {i:Nat}:∀ (m:List Nat) (l:List Fd),x5 t l -> x5 t (m.foldl (im i) l)
 | [],_,h=>h
 | a :: m,l,h=>ai6 m _ (b0c h)
def an6 (h:x5 t l):∀ i,x5 t (gp l i)
 | 0=>h
 | i + 1=>by rw [a0v];exact ai6 _ _ (an6 h i)
def b8u (h:x5 t l):x5 t (spl l):=by
 intro x hx;have hx:=xv.1 hx;unfold fw at hx;obtain ⟨ys,hys,hxy⟩:=List.mem_flatten.1 hx;obtain ⟨f,hf,rfl⟩:=bn2.1 hys;unfold vf at hxy;obtain ⟨a,ha,rfl⟩:=bn2.1 hxy;refine ar.2 fun i hi hb=>?_;have h1:((1:AS) <<< a).getLsbD i = decide (i = a):=re a i hi;rw [show (⟨f.lhs,(1:AS) <<< a⟩:Fd).rhs.getLsbD i = decide (i = a) from h1,decide_eq_true_iff] at hb;subst hb;have hm:=(j8.1 ha).2;rw [bmr,bml] at hm;exact ar.1 (h f hf) i hi hm.1
def azo {n:Int} (h:b6 n l = 0):x5 (a7 n) (a7r l):=fun x hx=>by
 have h1:=a1q _ _ _ hx;exact an6 (b8u fun f hf=>(aff h f hf).2) _ x (xv.1 h1)
def aod:∀ (l:List Fd) (s:AS),sub s t -> (∀ f ∈ l,sub f.rhs t) -> sub (l.foldl (fun a f=>a ||| f.rhs) s) t
 | [],s,h,_=>h
 | f :: l,s,h,hl=>aod l _ (sm h (hl f (bnj ..))) fun g hg=>hl g (bni _ hg)
def bg8 (h1:v6 t l) (h2:x5 t l):∀ f ∈ a40 l,sub f.lhs t /\ sub f.rhs t:=fun f hf=>by
 unfold a40 at hf;obtain ⟨s,hs,rfl⟩:=bn2.1 hf;obtain ⟨g,hg,rfl⟩:=bn2.1 (qn.1 hs);exact ⟨h1 g hg,aod _ _ (sub_zero t) fun x hx=>h2 x (bog.1 hx).1⟩
def fe (n:Int) (l:List Fd):List Fd:=a40 (yd n l)
def aan (n:Int) (l:List Fd):(fe n l).length <= 2048:=bmo (b2m _) (abc n l)
def pt (f:Fd):AS:=f.lhs ||| f.rhs
end
section
variable {n:Int} {l:List Fd}
section
variable {i:Nat}
def bi1 (h:b6 n l = 0) (hi:i < (fe n l).length):sub (pt ((fe n l).getD i default)) (a7 n):=by
 have hm:(fe n l).getD i default ∈ fe n l:=by
  rw [bmb,bma hi];exact bmz hi
 generalize (fe n l).getD i default = f at *;unfold fe at hm;rw [anf h] at hm;obtain ⟨h1,h2⟩:=bg8 (b5e h) (azo h) f hm;exact sm h1 h2
def n5 (n:Int) (l:List Fd) (i:Nat):Bool:=((fe n l).take i).any fun f=>i6 n l (pt f)
def a3v (hi:i < (fe n l).length):n5 n l (i + 1) = (n5 n l i || i6 n l (pt ((fe n l).getD i default))):=by
 unfold n5;rw [am hi,List.any_append];simp
def awe (h:b6 n l = 0):i6 n l (a7 n) = true:=decide_eq_true ⟨h,fh _,dt (akv h (fh _)) a5x⟩
def b5c (h:b6 n l = 0):rkE n l (a7 n) = 0:=(b0m h (awe h)).2
def ab2 (n:Int) (l:List Fd):List AS:=(fe n l).map pt
def bcv (n:Int) (l:List Fd):List AS:=er (if n5 n l (fe n l).length = true then ab2 n l else ab2 n l ++ [rkS n l (a7 n)])
def a54 (n:Int) (l:List Fd):List AS:=if b6 n l = 0 then bcv n l else []
def av6 (h:¬ b6 n l = 0):a54 n l = []:=if_neg h
def az2 (h:b6 n l = 0):a54 n l = bcv n l:=if_pos h
def b37 (n:Int) (l:List Fd):(ab2 n l).length <= 2048:=by unfold ab2;rw [bms];exact aan n l
def ai8 (n:Int) (l:List Fd):((fe n l).take (fe n l).length).map pt = ab2 n l:=by rw [bmi];rfl
def ye (n:Int) (l:List Fd):List AS:=if n5 n l (fe n l).length = true then ab2 n l else ab2 n l ++ [rkS n l (a7 n)]
def od (h:n5 n l (fe n l).length = true):ye n l = ((fe n l).take (fe n l).length).map pt:=by rw [ai8];exact if_pos h
def xa (h:n5 n l (fe n l).length = false):ye n l = ((fe n l).take (fe n l).length).map pt ++ [rkS n l (a7 n)]:=by rw [ai8];exact if_neg (by rw [h];decide)
def aoh (n:Int) (l:List Fd):(ye n l).length <= 4096:=by
 have:=b37 n l;unfold ye;split
 · omega
 rw [bmg,bo1];omega
def ajd (hi:i < (fe n l).length) (h:n5 n l i = true):true = n5 n l (i + 1):=by rw [a3v hi,h];rfl
def aiw (hi:i < (fe n l).length) (h:n5 n l i = false):i6 n l (pt ((fe n l).getD i default)) = n5 n l (i + 1):=by rw [a3v hi,h];rfl
def aiz (hi:i < (fe n l).length):(bif n5 n l i then true else i6 n l (pt ((fe n l).getD i default))) = n5 n l (i + 1):=by rw [a3v hi];cases n5 n l i <;> rfl
end
end
def bhj {n:Int} {l:List Fd} (h:b6 n l = 0) {s:AS} (hs:sub s (a7 n)):a6 br6 83 [pP (fdl l),pA s,pA (a7 n)] (a8 [pB (i6 n l s)]):=by
 have hh:=aue l s (a7 n);rw [show decide (sub (a7 n) (clo l s)) = i6 n l s from (ay3 h hs).symm] at hh;exact hh
end
section
open Go.Proofs
def bgh (hM:∀ k:List Fd,k.length <= 16777216 -> a6 br6 135 [pP (fdl k)] (a8 [pP (fdl (a40 k))])) (n:Int) (l:List Fd):a6 br6 71 [pI n,pP (fdl l)] (a8 [pP (fdl (fe n l)),pI (b6 n l)]):=by
 refine hpx (nt:=17) Tryz.func71 ?_;refine w_9 ?_;refine qcx (wgx Tryz.func134) (bip n l) ?_;refine w_7 ?_;have hml:=abc n l;refine w_2 ?_;refine qcx (wgx Tryz.func135) (hM (yd n l) bqi) ?_;refine v_4 ?_;exact CoL.refl _
def br3 {p:Prop} (h:p:=by first | exact j5 (by rw [od bqj]) | exact j5 (by rw [xa bqj,bmg];rfl)):p:=h
def aqm (hM:∀ k:List Fd,k.length <= 16777216 -> a6 br6 135 [pP (fdl k)] (a8 [pP (fdl (a40 k))])) (n:Int) (l:List Fd):a6 br6 32 [pI n,pP (fdl l)] (a8 [pP (asl (a54 n l)),pI (b6 n l)]):=by
 refine hpx (nt:=66) Tryz.func32 ?_;refine w_9 ?_;refine qcx (wgx Tryz.func71) (bgh hM n l) ?_;refine dy ?_;refine hcn (fun h0=>?_) (fun h0=>?_)
 · refine v_6 ?_;exact ⟨CoC.one (wu (av6 h0)),CoC.refl _,trivial⟩
 refine w_2 ?_;have hv:=ew h0;have hcl:=aan n l;have hsl:=aoh n l;refine ml ?_;refine bw 8 900 true 1 46 (lf sC []) bqo rfl (CoP.sl rfl (.inr rfl) (fun h=>h) (fun i j hi _=>absurd hi (bmf i))) (.inr rfl) rfl ?_;refine b5 (ka 0 (ka 1 (ka 24 (ka 25 kn)))) km (fun i=>⟨[(8,some (.v (.one (.ref 900 (((fe n l).take i).map pt).length)))),(9,some (vB (n5 n l i))),(26,some (vI i))],[(900,some (.arr true 1 46 (((fe n l).take i).map pt).length (lf sC (((fe n l).take i).map pt))))]⟩) ((fe n l).length) ⟨⟨zy,⟨_,rfl,(cob rfl)⟩,tt⟩,uu⟩ ?_;rintro i hi;have hlen:(((fe n l).take i).map pt).length <= i:=by rw [bms,bmk];omega
 refine w_5 ?_;refine hcd (fun h1=>?_) (fun h1=>?_)
 ·
  refine w_7 ?_;refine m9 0 ?_;refine ml ?_;refine m9 1 ?_;refine r9 2 true ?_;refine w_5 ?_;refine ah rfl rfl (fun r2=>?_) (fun r2=>?_)
  ·
   have h2:=r2;(iterate 4 refine k9 (gtf r2) ?_);refine rq rfl rfl rfl rfl rfl ?_ (hp:=r2);refine w_6 ?_
   exact lpx (i + 1) ⟨⟨⟨_,rfl,(bg (lv bqi))⟩,⟨_,rfl,(cob (by first | exact ajd (n:=n) (l:=l) (i:=i) bqi bqj | exact aiw (n:=n) (l:=l) (i:=i) bqi bqj | exact aiz (n:=n) (l:=l) (i:=i) bqi))⟩,tt⟩,⟨⟨_,rfl,(bh (lv bqi) (CoP.of_eq (congrArg (fun z=>PV.raw (.int .u32 z)) (bOr _ _))))⟩,trivial⟩⟩
  have h2:=r2;(iterate 3 refine qy ?_ (hg:=(gff r2)));refine rc rfl rfl rfl rfl rfl rfl adq (aj9 n l (pt ((fe n l).getD i default))) (⟨CoC.refl _,CoC.refl _,cci (bOr _ _),trivial⟩) rfl (gff r2) ?_;refine w_7 ?_
  exact lpx (i + 1) ⟨⟨⟨_,rfl,(bg (lv bqi))⟩,⟨_,rfl,(cob (by first | exact ajd (n:=n) (l:=l) (i:=i) bqi bqj | exact aiw (n:=n) (l:=l) (i:=i) bqi bqj | exact aiz (n:=n) (l:=l) (i:=i) bqi))⟩,tt⟩,⟨⟨_,rfl,(bh (lv bqi) (CoP.of_eq (congrArg (fun z=>PV.raw (.int .u32 z)) (bOr _ _))))⟩,trivial⟩⟩
 obtain rfl:i = (fe n l).length:=by omega
 refine da ?_;refine jx kn km ⟨[(8,some (.v (.one (.ref 900 (ye n l).length))))],[(900,some (.arr true 1 46 (ye n l).length (lf sC (ye n l))))]⟩ ?_ ?_
 ·
  refine w_5 ?_;refine hcv (fun h3=>?_) (fun h3=>?_)
  ·
   refine w_5 ?_;refine qcx (wgx Tryz.func74) (bdy n hv.1 hv.2.1) ?_;refine qcx (wgx Tryz.func73) (b8w n l (a7 n)) ?_;refine dy ?_;refine hcn (fun h4=>?_) (fun h4=>?_)
   · exfalso;exact h4 (b5c h0)
   refine w_4 ?_;refine m9 3 ?_;refine r9 4 true ?_;refine w_2 ?_;exact ⟨⟨⟨_,rfl,br3⟩,trivial⟩,⟨⟨_,rfl,(by first | exact dg (od bqj) (by rw [od bqj]) | exact bh (xa bqj) (CoP.refl _))⟩,trivial⟩⟩
  refine ck ?_;exact ⟨⟨⟨_,rfl,br3⟩,trivial⟩,⟨⟨_,rfl,(by first | exact dg (od bqj) (by rw [od bqj]) | exact bh (xa bqj) (CoP.refl _))⟩,trivial⟩⟩
 refine cb ?_;refine al 8 rfl rfl rfl ?_;refine w_2 ?_;refine qcx ane (abm (ye n l) bqi) ?_;refine v_3 ?_;exact ⟨CoC.one (CoP.of_eq (by rw [az2 h0];rfl)),cci h0.symm,trivial⟩
def b77 (n:Int) (l:List Fd):a6 br6 82 [pI n,pP (fdl l)] (a8 [pP (fdl (fe n l)),pI (b6 n l)]):=by
 refine hpx (nt:=17) Tryz.func82 ?_;refine w_9 ?_;refine qcx (wgx Tryz.func141) (bds n l) ?_;refine w_7 ?_;have hml:=abc n l;refine w_2 ?_;refine qcx (wgx Tryz.func142) (b6i (yd n l) bqi) ?_;refine v_4 ?_;exact CoL.refl _
def ay7 (n:Int) (l:List Fd):a6 br6 36 [pI n,pP (fdl l)] (a8 [pP (asl (a54 n l)),pI (b6 n l)]):=by
 refine hpx (nt:=68) Tryz.func36 ?_;refine w_9 ?_;refine qcx (wgx Tryz.func82) (b77 n l) ?_;refine dy ?_;refine hcn (fun h0=>?_) (fun h0=>?_)
 · refine v_6 ?_;exact ⟨CoC.one (wu (av6 h0)),CoC.refl _,trivial⟩
 refine w_2 ?_;have hv:=ew h0;have hcl:=aan n l;have hsl:=aoh n l;refine ja ?_;refine bw 8 900 true 1 46 (lf sC []) bqo rfl (CoP.sl rfl (.inr rfl) (fun h=>h) (fun i j hi _=>absurd hi (bmf i))) (.inr rfl) rfl ?_;refine b5 (ka 0 (ka 1 (ka 6 kn))) km (fun i=>⟨[(8,some (.v (.one (.ref 900 (((fe n l).take i).map pt).length)))),(9,some (vB (n5 n l i))),(10,some (vI i))],[(900,some (.arr true 1 46 (((fe n l).take i).map pt).length (lf sC (((fe n l).take i).map pt))))]⟩) ((fe n l).length) ⟨⟨zy,⟨_,rfl,(cob rfl)⟩,tt⟩,uu⟩ ?_;rintro i hi;have hlen:(((fe n l).take i).map pt).length <= i:=by rw [bms,bmk];omega
 refine w_8 ?_;refine hcd (fun h1=>?_) (fun h1=>?_)
 ·
  refine b00 ?_;refine m9 0 ?_;refine r9 1 true ?_;refine w_5 ?_;refine ah rfl rfl (fun r2=>?_) (fun r2=>?_)
  ·
   have h2:=r2;(iterate 5 refine k9 (gtf r2) ?_);refine rq rfl rfl rfl rfl rfl ?_ (hp:=r2);refine w_7 ?_
   exact lpx (i + 1) ⟨⟨⟨_,rfl,(bg (lv bqi))⟩,⟨_,rfl,(cob (by first | exact ajd (n:=n) (l:=l) (i:=i) bqi bqj | exact aiw (n:=n) (l:=l) (i:=i) bqi bqj | exact aiz (n:=n) (l:=l) (i:=i) bqi))⟩,tt⟩,⟨⟨_,rfl,(bh (lv bqi) (CoP.of_eq (congrArg (fun z=>PV.raw (.int .u32 z)) (bOr _ _))))⟩,trivial⟩⟩
  have h2:=r2;(iterate 3 refine qy ?_ (hg:=(gff r2)));refine qcx lg (li n) ?_ (hg:=(gff r2))
  refine rc rfl rfl rfl rfl rfl rfl ad5 (bhj h0 (bi1 h0 (i:=i) bqi)) (⟨CoC.refl _,cci (bOr _ _),CoC.refl _,trivial⟩) rfl (gff r2) ?_;refine w_8 ?_;exact lpx (i + 1) ⟨⟨⟨_,rfl,(bg (lv bqi))⟩,⟨_,rfl,(cob (by first | exact ajd (n:=n) (l:=l) (i:=i) bqi bqj | exact aiw (n:=n) (l:=l) (i:=i) bqi bqj | exact aiz (n:=n) (l:=l) (i:=i) bqi))⟩,tt⟩,⟨⟨_,rfl,(bh (lv bqi) (CoP.of_eq (congrArg (fun z=>PV.raw (.int .u32 z)) (bOr _ _))))⟩,trivial⟩⟩
 obtain rfl:i = (fe n l).length:=by omega
 refine da ?_;refine jx kn km ⟨[(8,some (.v (.one (.ref 900 (ye n l).length))))],[(900,some (.arr true 1 46 (ye n l).length (lf sC (ye n l))))]⟩ ?_ ?_
 ·
  refine w_5 ?_;refine hcv (fun h3=>?_) (fun h3=>?_)
  · refine w_5 ?_;refine qcx lg (li n) ?_;refine qcx (wgx Tryz.func84) (b1f n l (a7 n)) ?_;refine w_9 ?_;refine m9 2 ?_;refine r9 3 true ?_;refine w_2 ?_;exact ⟨⟨⟨_,rfl,br3⟩,trivial⟩,⟨⟨_,rfl,(by first | exact dg (od bqj) (by rw [od bqj]) | exact bh (xa bqj) (CoP.refl _))⟩,trivial⟩⟩
  refine ck ?_;exact ⟨⟨⟨_,rfl,br3⟩,trivial⟩,⟨⟨_,rfl,(by first | exact dg (od bqj) (by rw [od bqj]) | exact bh (xa bqj) (CoP.refl _))⟩,trivial⟩⟩
 refine cb ?_;refine al 8 rfl rfl rfl ?_;refine w_2 ?_;refine qcx (wgx Tryz.func85) (ah6 (ye n l) bqi) ?_;refine v_3 ?_;exact ⟨CoC.one (CoP.of_eq (by rw [az2 h0];rfl)),cci h0.symm,trivial⟩
end
section
def Eqv (l k:List Fd):Prop:=∀ s,tq l s <-> tq k s
theorem Eqv.refl (l:List Fd):Eqv l l:=fun s=>Iff.rfl
theorem Eqv.trans {a b c:List Fd} (h:Eqv a b) (k:Eqv b c):Eqv a c:=fun s=>(h s).trans (k s)
theorem Eqv.clo {l k:List Fd} (h:Eqv l k) (s:AS):clo l s = clo k s :=
 dt (a1n ((h _).2 a0q) a5x) (a1n ((h _).1 a0q) a5x)
end
section
def a9h (l:List Fd) (ps:List AS) (t:AS):Prop:=∀ p ∈ ps,sub (clo l (t &&& p) &&& p) t
section
variable {l:List Fd} {z:AS}
def b9t {p:AS}:dz l z p = false <-> sub (clo l (z &&& p) &&& p) z:=by
 unfold dz o8 sub;rw [decide_eq_false_iff_not,Decidable.not_not,BitVec.and_comm p]
def a3z {a b c:AS} (h:sub a b):sub (a &&& c) (b &&& c):=a0h (d8 nv h) a1i
variable {ps:List AS}
def ajv:∀ (n:Nat) (z:AS),4294967296 < n + z.toNat -> a9h l ps (y7 l ps n z)
 | 0,z,h=>by have:=z.isLt;omega
 | n + 1,z,h=>by
  unfold y7
  cases hf:ps.find? (dz l z) with
  | none =>
   intro p hp;have:=bpb.1 hf p hp;exact b9t.1 (by simpa using this)
  | some p =>
   have hm:=List.find?_some hf;have:=amb hm;exact ajv n _ bqi
def arh:∀ (n:Nat) (z:AS),sub z (y7 l ps n z)
 | 0,z=>fh z
 | n + 1,z=>by
  unfold y7
  cases hf:ps.find? (dz l z) with
  | none=>exact fh z
  | some p=>exact d8 qj (arh n _)
def ary {t:AS} (ht:a9h l ps t):∀ (n:Nat) (z:AS),sub z t -> sub (y7 l ps n z) t
 | 0,z,h=>h
 | n + 1,z,h=>by
  unfold y7
  cases hf:ps.find? (dz l z) with
  | none=>exact h
  | some p =>
   refine ary ht n _ (sm h ?_);have hp:=List.mem_of_find?_eq_some hf;refine d8 ?_ (ht p hp);unfold o8;refine d8 nv ?_;rw [BitVec.and_comm];exact a3z (ajo (a3z h))
def b1s (l:List Fd) (ps:List AS) (z:AS):a9h l ps (vl l ps z):=ajv _ _ (by have:=z.isLt;omega)
def b7u:sub z (vl l ps z):=arh _ _
def b76 {t:AS} (ht:a9h l ps t) (h:sub z t):sub (vl l ps z) t:=ary ht _ _ h
def a4e (l:List Fd) (s p:AS):AS:=s ||| (clo l (s &&& p) &&& p)
def ig (l:List Fd) (ps:List AS) (s:AS):AS:=ps.foldl (a4e l) s
def a1e:∀ {ps:List AS} {s:AS},sub s (ig l ps s)
 | [],s=>fh s
 | p :: ps,s=>d8 (qj (b:=clo l (s &&& p) &&& p)) (a1e (ps:=ps))
def awb {qs:List AS} {t:AS} (ht:a9h l qs t):∀ {s:AS},(∀ p ∈ ps,p ∈ qs) -> sub s t -> sub (ig l ps s) t:=by
 induction ps with
 | nil=>intro s _ h;exact h
 | cons p ps ih =>
  intro s hp h;exact ih (fun q hq=>hp q (by simp [hq])) (sm h (d8 (a3z (ajo (a3z h))) (ht p (hp p bqm))))
def acf:∀ {ps:List AS} {s:AS},ig l ps s = s -> a9h l ps s
 | [],s,h=>fun p hp=>by cases hp
 | p :: ps,s,h=>by
  have h1:sub (a4e l s p) s:=by
   have:=a1e (l:=l) (ps:=ps) (s:=a4e l s p);rw [show ig l ps (a4e l s p) = s from h] at this;exact this
  have h2:a4e l s p = s:=dt h1 qj
  have h3:ig l ps s = s:=by
   have h:=h;unfold ig at h ⊢;rw [bo9,h2] at h;exact h
  intro q hq
  rcases bmp.1 hq with rfl | hq
  · exact d8 zt h1
  exact acf h3 q hq
variable {s:AS}
def b2h {i:Nat} (hi:i < ps.length):ig l (ps.take (i + 1)) s = a4e l (ig l (ps.take i) s) (ps.getD i default):=by
 unfold ig;rw [am hi,bnn];rfl
def PrI (l:List Fd) (ps:List AS) (z s:AS):Prop:=sub z s /\ sub s (vl l ps z)
def b9r (l:List Fd) (ps:List AS) (z:AS):PrI l ps z z:=⟨fh z,b7u⟩
def b8s (h:PrI l ps z s):PrI l ps z (ig l ps s):=⟨d8 h.1 a1e,awb (b1s l ps z) (fun _ h=>h) h.2⟩
def bf4 (h:PrI l ps z s) (he:ig l ps s = s):s = vl l ps z:=dt h.2 (b76 (acf he) h.1)
def bav (h:¬ ig l ps s = s):4294967296 - (ig l ps s).toNat < 4294967296 - s.toNat:=by
 have h1:=xq (a1e (l:=l) (ps:=ps) (s:=s)) (fun e=>h e.symm);have h2:=(ig l ps s).isLt;omega
def b6k (l:List Fd) (s p:AS):ay .or .u32 (asI s) (ay .and .u32 (asI (clo l (s &&& p))) (asI p)) = asI (a4e l s p):=by rw [fj,bOr];rfl
def bc8 {f:Fd} (h:PrI l ps f.lhs s) (he:ig l ps s = s):decide (sub f.rhs s) = o6 l ps f:=by
 rw [bf4 h he];rfl
def al2:k6 l ps = true <-> ∀ f ∈ l,o6 l ps f = true:=by
 unfold k6;rw [bnh];constructor
 · intro h f hf
   obtain ⟨j,hj,rfl⟩:=bn1 hf;have:=h j (bmq.2 hj);rwa [bmb,bma hj] at this
 intro h j hj;have hj:=bmq.1 hj;rw [bmb,bma hj];exact h _ (bmz hj)
def wn (n:Int) (l:List Fd) (i:Nat):List AS:=((aq (a7 n)).take i).filter fun s=>!ec l s
def b1i (n:Int) (l:List Fd) (i:Nat):(wn n l i).length <= 4294967296:=by
 unfold wn;refine bmo (bo2 _ _) ?_;have:=nu (a7 n);rw [bmk];omega
def aeb {n:Int} {i:Nat} (hi:i < (aq (a7 n)).length) (h:(!ec l ((aq (a7 n)).getD i default)) = true):wn n l (i + 1) = wn n l i ++ [(aq (a7 n)).getD i default]:=by
 unfold wn;rw [am hi,bnc];simp only [bnf,h,if_true,bnw]
def acj {n:Int} {i:Nat} (hi:i < (aq (a7 n)).length) (h:(!ec l ((aq (a7 n)).getD i default)) = false):wn n l (i + 1) = wn n l i:=by
 unfold wn;rw [am hi,bnc];simp only [bnf,h,bnq,if_false,bnw,bn9]
def b26 {n:Int} (h:eo n l 8 = 0):wn n l (aq (a7 n)).length = ek n l:=by
 unfold wn;rw [bmi,az8 h]
end
end
section
def bl4 (l:List Fd):Prop:=∀ f ∈ l,∀ i,i < 32 -> f.rhs.getLsbD i = true -> f.lhs.getLsbD i = false
section
variable {n:Int} {l:List Fd}
end
end
section
open Go.Proofs
def aqi {ps:List AS} {k:AS} (h:k ∈ ps):sub k (orL ps):=ar.2 fun i hi hb=>by
 unfold orL;rw [a3m,bnz];exact .inr (bne.2 ⟨k,h,hb⟩)
section
variable {n:Int} {l:List Fd}
end
end
section
section
variable {n:Int} {l:List Fd}
def beu {L:List AS} {t:AS} (h:∀ x ∈ L,sub x t):sub (orL L) t:=ar.2 fun i hi hb=>by
 unfold orL at hb;rw [a3m,bnz] at hb
 rcases hb with hb | hb
 · simp at hb
 obtain ⟨x,hx,hxb⟩:=bne.1 hb;exact ar.1 (h x hx) i hi hxb
end
end
section
def b2c (E:Int -> Int -> Prop) (R:Rw -> Prop) (s:AS):Prop:=∃ r,R r /\ ∀ i:Nat,i < r.length -> d6 s (i:Int) = true -> E (r.getD i default) (i:Int)
section
variable {N:Nat} {p m:List Fd} {E:Int -> Int -> Prop} {R:Rw -> Prop}
def b0b {s t:AS} (h:sub s t) {i:Nat} (hi:d6 s (i:Int) = true):d6 t (i:Int) = true:=by
 by_cases hl:i < 32
 · rw [gk hl] at hi ⊢
   exact ar.1 h i hl hi
 rw [a02 bqi] at hi;cases hi
def b2c.mono {s t:AS} (h:b2c E R t) (hs:sub s t):b2c E R s:=by
 obtain ⟨r,h1,h2⟩:=h;exact ⟨r,h1,fun i hi hh=>h2 i hi (b0b hs hh)⟩
end
section
variable {n:Int} {p m:List Fd} {ps:List AS}
end
end
section
def lvE (n:Int) (ps:List AS):Int:=if n < 0 \/ 8 < n then 7 else if 64 < ps.length then 3 else if ps.length = 0 \/ ¬ orL ps = a7 n then 1 else 0
section
variable {n:Int} {ps:List AS} {p m:List Fd}
def aja (h:n < 0 \/ 8 < n):lvE n ps = 7:=if_pos h
def b4w (h:¬ (n < 0 \/ 8 < n)) (h2:64 < ps.length):lvE n ps = 3:=by unfold lvE;rw [if_neg h,if_pos h2]
def aiu (h:¬ (n < 0 \/ 8 < n)) (h2:¬ 64 < ps.length) (h3:ps.length = 0 \/ ¬ orL ps = a7 n):lvE n ps = 1:=by unfold lvE;rw [if_neg h,if_neg h2,if_pos h3]
def b4d (h:¬ (n < 0 \/ 8 < n)) (h2:¬ 64 < ps.length) (h3:¬ (ps.length = 0 \/ ¬ orL ps = a7 n)):lvE n ps = 0:=by unfold lvE;rw [if_neg h,if_neg h2,if_neg h3]
def oe (h:lvE n ps = 0):0 <= n /\ n <= 8 /\ ps.length <= 64 /\ 0 < ps.length /\ orL ps = a7 n:=by
 unfold lvE at h;split at h
 · exact absurd h bqo
 split at h
 · exact absurd h bqo
 split at h
 · exact absurd h bqo
 rename_i h1 h2 h3;refine ⟨by omega,by omega,by omega,by omega, ?_⟩;apply Classical.byContradiction;intro e;exact h3 (.inr e)
def lsT (n:Int) (ps:List AS) (p m:List Fd):List St × (Int × List Rw) × Int:=jf FU n (av (bo n ps)) p m
def lsC (n:Int) (ps:List AS) (p m:List Fd):Int:=if lvE n ps = 0 then (if bt n p m = 0 then (lsT n ps p m).2.2 else bt n p m) else lvE n ps
def lsB (n:Int) (ps:List AS) (p m:List Fd):Bool:=decide (lsC n ps p m = 0) && (lsT n ps p m).2.1.2.any fun r=>decide (r = dj n)
def bhw (h:¬ lvE n ps = 0):lsC n ps p m = lvE n ps /\ lsB n ps p m = false:=by
 have e:lsC n ps p m = lvE n ps:=if_neg h;exact ⟨e,by unfold lsB;rw [e,decide_eq_false h];rfl⟩
def bi9 (h:lvE n ps = 0) (h2:¬ bt n p m = 0):lsC n ps p m = bt n p m /\ lsB n ps p m = false:=by
 have e:lsC n ps p m = bt n p m:=(if_pos h).trans (if_neg h2);exact ⟨e,by unfold lsB;rw [e,decide_eq_false h2];rfl⟩
def ad8 (h:lvE n ps = 0) (h2:bt n p m = 0):lsC n ps p m = (lsT n ps p m).2.2:=(if_pos h).trans (if_pos h2)
def pl (h:lsC n ps p m = 0):lvE n ps = 0 /\ bt n p m = 0:=by
 unfold lsC at h;split at h
 · rename_i e
   split at h
   · rename_i e2;exact ⟨e,e2⟩
   rename_i e2;exact absurd h e2
 rename_i e;exact absurd h e
def a69 (h:lvE n ps = 0) {q:AS} (hq:q ∈ ps):sub q (a7 n):=by
 rw [<- (oe h).2.2.2.2];exact aqi hq
def aoa (h:lvE n ps = 0):gu n ps = (n,av (bo n ps),0):=by
 obtain ⟨h0,h8,h64,_⟩:=oe h;exact ab1 bqi bqi fun j hj=>(a4w h0 bqi).1 (a69 h (dl hj))
def blu (n:Int) (p:List Fd) (ps:List AS):Bool:=lsB n ps p [] && !ps.any (ec p)
end
end
section
abbrev tbC (a:Int × List Rw):Nat -> PV:=fun j=>[.raw (.int .i64 a.1),rl a.2].getD j .any
def lcR (n:Int) (ps:List AS) (p m:List Fd):(Int × List Rw) × List St × (Int × List Rw) × Int :=
 if lvE n ps = 0 then (if bt n p m = 0 then ((n,av (bo n ps)),(lsT n ps p m).1,(lsT n ps p m).2.1,(lsT n ps p m).2.2) else ((0,[]),[],(0,[]),bt n p m)) else ((0,[]),[],(0,[]),lvE n ps)
section
variable {n:Int} {ps:List AS} {p m:List Fd} {l lend:List Rw}
def bj8 (h:¬ lvE n ps = 0):lcR n ps p m = ((0,[]),[],(0,[]),lvE n ps):=if_neg h
def bhl (h:lvE n ps = 0) (h2:¬ bt n p m = 0):lcR n ps p m = ((0,[]),[],(0,[]),bt n p m):=(if_pos h).trans (if_neg h2)
def au0 (h:lvE n ps = 0) (h2:bt n p m = 0):lcR n ps p m = ((n,av (bo n ps)),(lsT n ps p m).1,(lsT n ps p m).2.1,(lsT n ps p m).2.2):=(if_pos h).trans (if_pos h2)
def qd:(lcR n ps p m).2.2.2 = lsC n ps p m:=by
 unfold lcR lsC;split
 · split <;> rfl
 rfl
def b14 (h:(lcR n ps p m).2.2.2 = 0):((lcR n ps p m).2.2.1.2.any fun r=>decide (r = dj n)) = lsB n ps p m:=by
 have hc:=h;rw [qd] at hc;obtain ⟨h1,h2⟩:=pl hc;unfold lsB;rw [decide_eq_true hc,boi,au0 h1 h2]
def b0f (h:¬ (lcR n ps p m).2.2.2 = 0):lsB n ps p m = false:=by
 rw [qd] at h;unfold lsB;rw [decide_eq_false h];rfl
def bfo:(bif decide ((lcR n ps p m).2.2.2 = 0) then ((lcR n ps p m).2.2.1.2.any fun r=>decide (r = dj n)) else false) = lsB n ps p m:=by
 by_cases h:(lcR n ps p m).2.2.2 = 0
 · rw [decide_eq_true h,cond_true,b14 h]
 rw [decide_eq_false h,cond_false,b0f h]
def bjp (h:lcR n ps p m = lcR n ps p m) (h2:(lcR n ps p m).2.2.2 = 0):0 <= n /\ n <= 8:=by
 rw [qd] at h2;obtain ⟨h1,_⟩:=pl h2;exact ⟨(oe h1).1,(oe h1).2.1⟩
def asu:∀ {sts:List St} {l:List Rw} {i:Nat},TrZ n p m lend l sts -> i <= sts.length -> TrZ n p m lend ((trL n p m l sts).getD i default) (sts.drop i)
 | [],l,0,h,_=>h
 | s :: r,l,0,h,_=>h
 | s :: r,l,i + 1,h,hi=>by
  obtain ⟨_,_,l',e,_,h⟩:=h;unfold trL;rw [e];exact asu (i:=i) h (by simpa using hi)
def a98:∀ {sts:List St} {l:List Rw} {i:Nat},i < sts.length -> (trL n p m l sts).getD (i + 1) default = (dx n ((trL n p m l sts).getD i default) p m (sts.getD i default)).2.1
 | [],l,i,hi=>by simp at hi
 | s :: r,l,0,_=>by
  unfold trL
  cases r with
  | nil=>rfl
  | cons s2 r2=>rfl
 | s :: r,l,i + 1,hi=>by
  unfold trL;exact a98 (sts:=r) (i:=i) (by simpa using hi)
section
variable {sts:List St}
def ar8:(trL n p m l sts).getD 0 default = l:=by cases sts <;> rfl
def jd (n:Int) (p m:List Fd) (l:List Rw) (sts:List St):List (Int × List Rw):=(trL n p m l sts).map fun t=>(n,t)
def zr:(jd n p m l sts).length = sts.length + 1:=by unfold jd;rw [bms,a3i]
def a88 {i:Nat} (hi:i <= sts.length):(jd n p m l sts).getD i default = (n,(trL n p m l sts).getD i default):=by
 unfold jd;have:i < (trL n p m l sts).length:=by rw [a3i];omega
 rw [bmb,bn0,bma this,bmb,bma this];rfl
def ahk {i:Nat} (hi:i < sts.length):(jd n p m l sts).take (i + 1 + 1) = (jd n p m l sts).take (i + 1) ++ [(n,(dx n ((trL n p m l sts).getD i default) p m (sts.getD i default)).2.1)]:=by
 rw [am (by rw [zr];omega),a88 bqi,a98 hi]
def alt:(jd n p m l sts).take 1 = [(n,l)]:=by
 unfold jd;cases sts <;> rfl
def rcR (n:Int) (ps:List AS) (p m:List Fd):List St × List (Int × List Rw) × Int :=
 if lsC n ps p m = 0 then ((lsT n ps p m).1,jd n p m (av (bo n ps)) (lsT n ps p m).1,0) else ([],[],lsC n ps p m)
def atd {c:Int} (h:lsC n ps p m = c) (h2:¬ c = 0):rcR n ps p m = ([],[],c):=by
 unfold rcR;rw [h,if_neg h2]
def a9d (h:lsC n ps p m = 0):rcR n ps p m = ((lsT n ps p m).1,jd n p m (av (bo n ps)) (lsT n ps p m).1,0):=if_pos h
def anl (h:lvE n ps = 0) (hb:bt n p m = 0) (hc:(lsT n ps p m).2.2 = 0):∃ sts lend,lsT n ps p m = (sts,(n,lend),0) /\ TrZ n p m lend (av (bo n ps)) sts /\ tok n lend = true /\ ((∃ t,t ∈ trL n p m (av (bo n ps)) sts /\ dj n ∈ t) <-> dj n ∈ lend):=by
 rcases ah9 (oe h).2.2.1 hb with ⟨e,_⟩ | ⟨sts,lend,e,h1,h2,h3,h4⟩
 · unfold lsT at hc
   rw [e] at hc;exact absurd hc bqo
 exact ⟨sts,lend,e,h2,h3,h4⟩
def azc {p m:List Fd}:∀ (F:Nat) (n:Int) (l:List Rw) (acc:List St),(iu F n l p m acc).1.length <= acc.length + F:=by
 intro F
 induction F with
 | zero=>intro n l acc;unfold iu;simp
 | succ F ih =>
  intro n l acc;unfold iu;split
  · simp
  rename_i s _;split;rename_i n' l' e _;split
  · have:=ih n' l' (acc ++ [s])
    simp only [bmg,bo1] at this;omega
  simp
def agj (h:lvE n ps = 0) (hb:bt n p m = 0):(lsT n ps p m).1.length <= FU:=by
 obtain ⟨h0,h8,h64,_⟩:=oe h;have hT:=aea (ps:=ps) h0 bqi h64;have hck:ckE n (av (bo n ps)) p m = 0:=(if_pos hT).trans hb;unfold lsT;rw [w8 hck];have:=azc (p:=p) (m:=m) FU n (av (bo n ps)) [];simpa using this
def np (n:Int) (t:List Rw):Bool:=t.any fun r=>decide (r = dj n)
def prX (n:Int) (ps:List AS) (p m:List Fd):Int:=idx (fun a:Int × List Rw=>np n a.2) (rcR n ps p m).2.1
def prC (n:Int) (ps:List AS) (p m:List Fd):Int:=if (rcR n ps p m).2.2 = 0 then (if prX n ps p m < 0 then 11 else 0) else (rcR n ps p m).2.2
def prS (n:Int) (ps:List AS) (p m:List Fd):List St:=if (rcR n ps p m).2.2 = 0 then (if prX n ps p m < 0 then [] else (rcR n ps p m).1.take (prX n ps p m).toNat) else []
def a05:(rcR n ps p m).2.2 = lsC n ps p m:=by
 unfold rcR;split
 · rename_i h;exact h.symm
 rfl
def awi:¬ lsC n ps p m = 11:=by
 intro h;unfold lsC at h;split at h
 · rename_i hv
   split at h
   · rename_i hb
     rcases ah9 (oe hv).2.2.1 hb with ⟨e,_⟩ | ⟨sts,lend,e,_⟩
     · unfold lsT at h;rw [e] at h;exact absurd h bqo
     unfold lsT at h;rw [e] at h;exact absurd (show (0:Int) = 11 from h) bqo
   unfold bt b6 at h
   (repeat' split at h) <;> omega
 unfold lvE at h
 (repeat' split at h) <;> omega
def aru (hc:lsC n ps p m = 0):(0 <= prX n ps p m) <-> lsB n ps p m = true:=by
 obtain ⟨h1,h2⟩:=pl hc;have hc2:(lsT n ps p m).2.2 = 0:=(ad8 h1 h2).symm.trans hc;obtain ⟨sts,lend,e,_,_,h3⟩:=anl h1 h2 hc2
 have e1:lsB n ps p m = decide (dj n ∈ lend):=by
  unfold lsB;rw [decide_eq_true hc,boi,e];exact a7o
 have e2:(rcR n ps p m).2.1 = jd n p m (av (bo n ps)) sts:=by rw [a9d hc,e]
 have e3:(jd n p m (av (bo n ps)) sts).any (fun a=>np n a.2) = decide (0 <= prX n ps p m):=by
  unfold prX;rw [e2];exact xd.symm
 rw [e1,decide_eq_true_iff,<- h3,<- decide_eq_true_iff (p:=0 <= prX n ps p m),<- e3,bne];unfold jd np;constructor
 · rintro ⟨x,hx,h⟩
   obtain ⟨t,ht,rfl⟩:=bn2.1 hx;exact ⟨t,ht,by rw [a7o] at h;exact of_decide_eq_true h⟩
 rintro ⟨t,ht,h⟩;exact ⟨(n,t),bn2.2 ⟨t,ht,rfl⟩,by rw [a7o];exact decide_eq_true h⟩
def bii (h:prC n ps p m = 11):lsB n ps p m = false /\ lsC n ps p m = 0:=by
 unfold prC at h;rw [a05] at h;split at h
 · rename_i hc
   split at h
   · rename_i hx
     refine ⟨?_,hc⟩;rw [bmm];intro e;have:=(aru hc).2 e;omega
   exact absurd h bqo
 exact absurd h awi
def bh7 (h:¬ prC n ps p m = 11):decide (prC n ps p m = 0) = lsB n ps p m /\ prC n ps p m = lsC n ps p m:=by
 unfold prC at h ⊢;rw [a05] at h ⊢;split at h
 · rename_i hc
   split at h
   · exact absurd rfl h
   rename_i hx;rw [if_pos hc,if_neg hx,hc];refine ⟨?_,rfl⟩;have:=(aru hc).1 bqi;rw [this];rfl
 rename_i hc;rw [if_neg hc];refine ⟨?_,rfl⟩;unfold lsB;rw [decide_eq_false hc];rfl
end
end
end
end Go.Hx

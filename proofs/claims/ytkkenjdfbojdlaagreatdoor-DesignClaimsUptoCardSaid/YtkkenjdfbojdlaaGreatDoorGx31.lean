/- A part of the proof: Cs31 V30 Cs32 Cs33 Cs34 Cs35 V34 Cs36 Cz1m Cs37 Cs40 Cs42 Ls2 Ls3 Ls5 W0. -/
import Derived.Test.YtkkenjdfbojdlaaGreatDoorGx22
import Derived.Test.YtkkenjdfbojdlaaGreatDoorGx28
import Derived.Test.YtkkenjdfbojdlaaGreatDoorGx30
set_option linter.all false
set_option maxRecDepth 100000
set_option maxHeartbeats 1000000
namespace Go.Hx
section
def zu (l:List Fd) (p x:AS) (a:Nat):Bool:=(List.range a).all fun b=>!(x.getLsbD b && lc l p (noA x b))
theorem a67 (l:List Fd) (p x:AS) (a:Nat):zu l p x (a + 1) = (zu l p x a && !(x.getLsbD a && lc l p (noA x a))):=by
 unfold zu;rw [bmg,List.all_append];simp only [List.all_cons,List.all_nil,Bool.and_true]
section
variable {l:List Fd} {p x:AS}
theorem aiv {a:Nat} (ha:a < 32) (h:dq x a = true) (h2:lc l p (noA x a) = true):zu l p x (a + 1) = false:=by
 rw [ja ha] at h;rw [a67,h,h2];simp
theorem aew {a:Nat} (ha:a < 32) (h:dq x a = false):zu l p x (a + 1) = zu l p x a:=by
 rw [ja ha] at h;rw [a67,h];simp
theorem adw {a:Nat} (h:lc l p (noA x a) = false):zu l p x (a + 1) = zu l p x a:=by
 rw [a67,h];simp
def ada (i:Nat):List AS:=(List.range i).map (BitVec.ofNat 32)
theorem ag7 (i:Nat):ada (i + 1) = ada i ++ [BitVec.ofNat 32 i]:=by unfold ada;rw [bmg,bmw];rfl
def prQ (l:List Fd) (p x:AS):Bool:=decide (sub x p) && yo l p x
def jk (l:List Fd) (p:AS) (i:Nat):AS:=orL ((ada i).filter (prQ l p))
theorem b0e {i:Nat} (h:sub (BitVec.ofNat 32 i) p) (h2:lc l p (BitVec.ofNat 32 i) = true) (h3:zi l p (BitVec.ofNat 32 i) = true):jk l p (i + 1) = jk l p i ||| BitVec.ofNat 32 i:=by
 have e:prQ l p (BitVec.ofNat 32 i) = true:=by unfold prQ;rw [decide_eq_true h,abe h2 h3];rfl
 unfold jk;rw [ag7,blz];simp only [blx,e,if_true,bmi];exact ano _ _
theorem a97 {i:Nat} (e:prQ l p (BitVec.ofNat 32 i) = false):jk l p (i + 1) = jk l p i:=by
 unfold jk;rw [ag7,blz];simp only [blx,e,bm2,if_false,bmi,blq]
theorem bes (h:¬ sub x p):prQ l p x = false:=by unfold prQ;rw [decide_eq_false h];rfl
theorem bf9 (h:lc l p x = false):prQ l p x = false:=by unfold prQ;rw [a7t h];simp
theorem bg9 (h:zi l p x = false):prQ l p x = false:=by unfold prQ;rw [a7x h];simp
theorem azy {i:Nat} (hi:i <= 4294967296):x ∈ ada i <-> x.toNat < i:=by
 unfold ada;rw [blm];constructor
 · rintro ⟨k,hk,rfl⟩
   rw [bl0] at hk;rw [bog,bni bos];exact hk
 intro h;exact ⟨x.toNat,bl0.2 h,by rw [BitVec.ofNat_toNat,BitVec.setWidth_eq]⟩
theorem arp {i:Nat} (hp:i = p.toNat + 1):jk l p i = nv l p:=by
 have:=p.isLt;unfold jk nv;refine b20 fun z=>?_;rw [bmo,bmo,azy bos,x3];unfold prQ;rw [bkt,decide_eq_true_iff];constructor
 · rintro ⟨_,h1,h2⟩;exact ⟨h1,h2⟩
 rintro ⟨h1,h2⟩;have:=a0k h1;exact ⟨by omega,h1,h2⟩
end
section
variable {l:List Fd} {p:AS} {i:Nat}
theorem a78 (hi:i < 4294967296):aw .andNot .u32 (i:Int) (asI p) = 0 <-> sub (BitVec.ofNat 32 i) p:=by
 rw [j0 hi];exact jd
theorem aqk (hi:i < 4294967296) (h:¬ aw .andNot .u32 (i:Int) (asI p) = 0):asI (jk l p i) = asI (jk l p (i + 1)):=congrArg asI (a97 (bes fun e=>h ((a78 hi).2 e))).symm
theorem ar9 (h:decide (sub p (clo l (BitVec.ofNat 32 i))) = false):asI (jk l p i) = asI (jk l p (i + 1)):=congrArg asI (a97 (bf9 h)).symm
theorem ara (h:zu l p (BitVec.ofNat 32 i) 32 = false):asI (jk l p i) = asI (jk l p (i + 1)):=congrArg asI (a97 (bg9 h)).symm
theorem ark (hi:i < 4294967296) (h1:aw .andNot .u32 (i:Int) (asI p) = 0) (h2:decide (sub p (clo l (BitVec.ofNat 32 i))) = true) (h3:zu l p (BitVec.ofNat 32 i) 32 = true):aw .or .u32 (asI (jk l p i)) (i:Int) = asI (jk l p (i + 1)):=by
 rw [b0e ((a78 hi).1 h1) h2 h3,j0 hi,bOr]
end
def nj (l:List Fd) (p x:AS):Bool:=!lc l p x && decide (((clo l x &&& p) &&& ~~~x) &&& ~~~nv l p ≠ 0)
def oh (l:List Fd) (p:AS):Bool:=!(f7 p).any (nj l p)
section
variable {l:List Fd} {p:AS}
theorem acv (h:∀ x,sub x p -> nj l p x = false):oh l p = true:=by
 unfold oh
 have:(f7 p).any (nj l p) = false:=by
  rw [bmh];intro x hx;rw [h x (x3.1 hx)];decide
 rw [this];rfl
variable {x:AS}
theorem ani (hx:sub x p) (h:nj l p x = true):oh l p = false:=by
 unfold oh
 have:(f7 p).any (nj l p) = true:=by
  rw [bll];exact ⟨x,x3.2 hx,h⟩
 rw [this];rfl
theorem b2s:decide (aw .andNot .u32 (aw .andNot .u32 (aw .and .u32 (asI (clo l x)) (asI p)) (asI x)) (asI (nv l p)) = 0) = decide (((clo l x &&& p) &&& ~~~x) &&& ~~~nv l p = 0):=by
 rw [fj,go,go,show (0:Int) = asI 0 from rfl,abw]
theorem a2p (h:lc l p x = true):nj l p x = false:=by unfold nj;rw [h];rfl
theorem a4o (h:aw .andNot .u32 (aw .andNot .u32 (aw .and .u32 (asI (clo l x)) (asI p)) (asI x)) (asI (nv l p)) = 0):nj l p x = false:=by
 have e:=b2s.symm.trans (decide_eq_true h);unfold nj;rw [decide_eq_false (fun hn=>hn (of_decide_eq_true e))];simp
theorem b30 (h0:lc l p x = false) (h:¬ aw .andNot .u32 (aw .andNot .u32 (aw .and .u32 (asI (clo l x)) (asI p)) (asI x)) (asI (nv l p)) = 0):nj l p x = true:=by
 have e:=b2s.symm.trans (decide_eq_false h);unfold nj;rw [h0,decide_eq_true (of_decide_eq_false e)];rfl
theorem b2n (h:aw .and .u32 (asI (clo l x)) (asI p) = asI p):lc l p x = true:=qr.symm.trans (decide_eq_true h)
theorem bey (h:¬ aw .and .u32 (asI (clo l x)) (asI p) = asI p):lc l p x = false:=qr.symm.trans (decide_eq_false h)
theorem ahm {i:Nat} (hi:i < 4294967296) (h:¬ aw .andNot .u32 (i:Int) (asI p) = 0):(decide (sub (BitVec.ofNat 32 i) p) && nj l p (BitVec.ofNat 32 i)) = false:=by
 rw [decide_eq_false (fun e=>h ((a78 hi).2 e))];rfl
theorem a1y {b:Bool} (h:nj l p x = false):(b && nj l p x) = false:=by rw [h];simp
theorem b6w {i:Nat} (hi:i = p.toNat + 1) (h:∀ j,j < i -> (decide (sub (BitVec.ofNat 32 j) p) && nj l p (BitVec.ofNat 32 j)) = false):oh l p = true:=acv fun x hx=>by
 have:=h x.toNat (by have:=a0k hx;omega);rw [BitVec.ofNat_toNat,BitVec.setWidth_eq,decide_eq_true hx,bmt] at this;exact this
theorem b16 (h:∀ j,j < (f7 p).length -> nj l p ((f7 p).getD j default) = false):oh l p = true:=acv fun x hx=>by
 obtain ⟨j,hj,rfl⟩:=bla (x3.2 hx);have:=h j hj;rwa [bkk,bkj hj,bli] at this
def x8 (n:Int) (l:List Fd) (p:AS):Int:=if bj n l = 0 then (if sub p (aa n) then 0 else 1) else bj n l
def p6 (n:Int) (l:List Fd) (p:AS):Bool:=decide (x8 n l p = 0) && oh l p
theorem b2z {n:Int} (h:¬ bj n l = 0):x8 n l p = bj n l /\ p6 n l p = false:=by
 have e:x8 n l p = bj n l:=if_neg h;exact ⟨e,by unfold p6;rw [e,decide_eq_false h];rfl⟩
theorem b3r {n:Int} (h:bj n l = 0) (h2:¬ sub p (aa n)):x8 n l p = 1 /\ p6 n l p = false:=by
 have e:x8 n l p = 1:=by unfold x8;rw [if_pos h,if_neg h2]
 exact ⟨e,by unfold p6;rw [e];rfl⟩
theorem ac9 {n:Int} (h:bj n l = 0) (h2:sub p (aa n)):x8 n l p = 0 /\ p6 n l p = oh l p:=by
 have e:x8 n l p = 0:=by unfold x8;rw [if_pos h,if_pos h2]
 exact ⟨e,by unfold p6;rw [e];rfl⟩
end
end
section
open Go.Proofs
theorem ba4:goodFn Tryz.prog 205:=wgx Tryz.func205
theorem bp8 {p:Prop} (h:p:=by first | exact bw (aqk bos bot) | exact bw (ar9 bot) | exact bw (ark bos bot bot bot) | exact bw (ara bot)):p:=h
theorem atw (l:List Fd) (p:AS) (hp:p.toNat < 65536):a7 Tryz.prog 205 [pP (fdl l),pA p] (ae [pA (nv l p)]):=by
 refine hpx (nt:=46) Tryz.func205 ?_;refine oe ?_;refine a6 (ι:=Nat) ⟨[(0,some _),(1,some _)],[]⟩ ⟨⟨c9,c9,trivial⟩,trivial⟩ (fun i=>⟨[(5,some (vA (jk l p i))),(6,some (.v (.one (.p (.raw (.int .u32 (i:Int)))))))],[]⟩) (fun i=>i <= p.toNat + 1) (fun i=>p.toNat + 1 - i) (0) (bkl _) ⟨⟨⟨_,rfl,(bw rfl)⟩,zy,trivial⟩,trivial⟩ ?_;rintro i hi;have hsa:asI p = (p.toNat:Int):=rfl;refine w_7 ?_;refine hcd (fun h0=>?_) (fun h0=>?_)
 ·
  refine cu ?_;refine am rfl rfl (fun r1=>?_) (fun r1=>?_)
  ·
   have h1:=tz2 (d6 r1);(iterate 5 refine k9 (gtf r1) ?_);refine rq rfl rfl rfl rfl rfl ?_ (hp:=r1);refine aq ?_;refine a8 _ rfl (fun _=>?_) (fun e=>by cases e);refine w_6 ?_
   exact lpx (i + 1) ⟨⟨⟨_,rfl,bp8⟩,zy,c9,c9,trivial⟩,trivial⟩
  have h1:=tz1 (d5 r1);(iterate 3 refine qy ?_ (hg:=(gff r1)));refine rc rfl rfl rfl rfl rfl rfl ai4 (b09 l (BitVec.ofNat 32 i) p) (⟨CoC.refl _,cci (j0 bos),CoC.refl _,trivial⟩) rfl (gff r1) ?_;refine qy ?_ (hg:=(gff r1))
  refine w_2 ?_;refine a8 _ rfl (fun r2=>?_) (fun r2=>?_)
  · have h2:=d6 (au r1 r2);refine w_6 ?_;exact lpx (i + 1) ⟨⟨⟨_,rfl,bp8⟩,zy,c9,c9,trivial⟩,trivial⟩
  have h2:=d5 (au r1 r2);refine cu ?_;refine a6 (ι:=Nat) ⟨[(0,some _),(1,some _),(5,some _),(6,some _)],[]⟩ ⟨⟨c9,c9,c9,c9,trivial⟩,trivial⟩ (fun a=>⟨[(7,some (vB (zu l p (BitVec.ofNat 32 i) a))),(8,some (vI a))],[]⟩) (fun a=>a <= 32) (fun a=>32 - a) (0) (bkl _) ⟨⟨⟨_,rfl,(cob rfl)⟩,zy,trivial⟩,trivial⟩ ?_;rintro a ha;refine w_6 ?_;refine hcd (fun h3=>?_) (fun h3=>?_)
  ·
   refine w_7 ?_;refine rc rfl rfl rfl rfl rfl rfl vq (a9k (BitVec.ofNat 32 i) a) (⟨cci (j0 bos),CoC.refl _,trivial⟩) rfl rfl ?_;refine qy ?_;refine am rfl rfl (fun r4=>?_) (fun r4=>?_)
   ·
    have h4:=r4;(iterate 6 refine qy ?_ (hg:=(gtt r4)));refine rc rfl rfl rfl rfl rfl rfl ai4 (b09 l (noA (BitVec.ofNat 32 i) a) p) (⟨CoC.refl _,cci (by rw [j0 (n:=i) bos];exact ah6 _ _ rfl),CoC.refl _,trivial⟩) rfl (gtt r4) ?_;refine w_2 ?_;refine a8 _ rfl (fun r5=>?_) (fun r5=>?_)
    · have h5:=bp r4 r5;refine w_8 ?_;exact lpx (a + 1) ⟨⟨⟨_,rfl,(cob (by first | exact (aiv bos bot bot).symm | exact (aew bos bot).symm | exact (adw bot).symm))⟩,zy,c9,c9,c9,c9,trivial⟩,trivial⟩
    have h5:=bp r4 r5;refine w_6 ?_;exact lpx (a + 1) ⟨⟨⟨_,rfl,(cob (by first | exact (aiv bos bot bot).symm | exact (aew bos bot).symm | exact (adw bot).symm))⟩,zy,c9,c9,c9,c9,trivial⟩,trivial⟩
   have h4:=r4;(iterate 7 refine k9 (gft r4) ?_);refine rq rfl rfl rfl rfl rfl ?_ (hp:=r4);refine aq ?_;refine a8 _ rfl (fun e=>by cases e) (fun _=>?_);refine w_6 ?_
   exact lpx (a + 1) ⟨⟨⟨_,rfl,(cob (by first | exact (aiv bos bot bot).symm | exact (aew bos bot).symm | exact (adw bot).symm))⟩,zy,c9,c9,c9,c9,trivial⟩,trivial⟩
  obtain rfl:a = 32:=by omega
  refine w_5 ?_;refine hcb (fun h6=>?_) (fun h6=>?_)
  · refine cu ?_;exact lpx (i + 1) ⟨⟨⟨_,rfl,bp8⟩,zy,c9,c9,trivial⟩,trivial⟩
  refine w_6 ?_;exact lpx (i + 1) ⟨⟨⟨_,rfl,bp8⟩,zy,c9,c9,trivial⟩,trivial⟩
 have hie:i = p.toNat + 1:=by omega
 refine w_6 ?_;exact hx8 rfl rfl rfl (⟨cci (congrArg asI (arp hie)),trivial⟩)
theorem b88:goodFn Tryz.prog 158:=wgx Tryz.func158
theorem av2 (l:List Fd) (p:AS) (hp:p.toNat < 65536):a7 Tryz.prog 158 [pP (fdl l),pA p] (ae [pB (oh l p)]):=by
 refine hpx (nt:=38) Tryz.func158 ?_;refine w_8 ?_;refine qcx ba4 (atw l p hp) ?_;refine w_8 ?_;refine a6 (ι:=Nat) ⟨[(0,some _),(1,some _),(5,some _)],[]⟩ ⟨⟨c9,c9,c9,trivial⟩,trivial⟩ (fun i=>⟨[(6,some (.v (.one (.p (.raw (.int .u32 (i:Int)))))))],[]⟩) (fun i=>i <= p.toNat + 1 /\ ∀ j,j < i -> (decide (sub (BitVec.ofNat 32 j) p) && nj l p (BitVec.ofNat 32 j)) = false) (fun i=>p.toNat + 1 - i) (0) (⟨bkl _,bq⟩) ⟨⟨zy,trivial⟩,trivial⟩ ?_;rintro i ⟨hi,hI⟩;have hsa:asI p = (p.toNat:Int):=rfl;refine w_7 ?_;refine hcd (fun h0=>?_) (fun h0=>?_)
 ·
  refine ce ?_;refine am rfl rfl (fun r1=>?_) (fun r1=>?_)
  ·
   have h1:=tz1 r1;(iterate 3 refine qy ?_ (hg:=(gtt r1)));refine rc rfl rfl rfl rfl rfl rfl ai4 (b09 l (BitVec.ofNat 32 i) p) (⟨CoC.refl _,cci (j0 bos),CoC.refl _,trivial⟩) rfl (gtt r1) ?_;refine qy ?_ (hg:=(gtt r1))
   refine w_2 ?_;refine am rfl rfl (fun r2=>?_) (fun r2=>?_)
   ·
    have h2:=d6 (bp r1 r2);(iterate 2 refine qy ?_ (hg:=(gtt r2)));refine rc rfl rfl rfl rfl rfl rfl a8a (a7z l (BitVec.ofNat 32 i)) (⟨CoC.refl _,cci (j0 bos),trivial⟩) rfl (gtt r2) ?_
    (iterate 7 refine qy ?_ (hg:=(gtt r2)));refine w_2 ?_;refine a8 _ rfl (fun r3=>?_) (fun r3=>?_)
    · have h3:=tz2 (d6 (bp r2 r3));refine w_4 ?_;exact hx8 rfl rfl rfl (⟨ccb (ani (x:=BitVec.ofNat 32 i) ((a78 (i:=i) bos).1 bot) (b30 bot (by rw [<- j0 (n:=i) bos];assumption))).symm,trivial⟩)
    have h3:=tz1 (d5 (bp r2 r3));refine w_6 ?_;refine lpz (i + 1) ⟨⟨zy,c9,c9,c9,trivial⟩,trivial⟩ ?_;exact ⟨by show i + 1 <= _;omega,az hI (by first | exact ahm bos bot | exact a1y (a2p bot) | exact a1y (a4o (by rw [<- j0 (n:=i) bos];assumption)))⟩
   have h2:=d5 (bp r1 r2);(iterate 10 refine k9 (gft r2) ?_);refine rq rfl rfl rfl rfl rfl ?_ (hp:=r2);refine aq ?_;refine a8 _ rfl (fun e=>by cases e) (fun _=>?_);refine w_6 ?_
   refine lpz (i + 1) ⟨⟨zy,c9,c9,c9,trivial⟩,trivial⟩ ?_;exact ⟨by show i + 1 <= _;omega,az hI (by first | exact ahm bos bot | exact a1y (a2p bot) | exact a1y (a4o (by rw [<- j0 (n:=i) bos];assumption)))⟩
  have h1:=tz2 r1;(iterate 5 refine k9 (gft r1) ?_);refine rq rfl rfl rfl rfl rfl ?_ (hp:=r1);refine qy ?_;(iterate 10 refine k9 rfl ?_);refine w_2 ?_;refine a8 _ rfl (fun e=>by cases e) (fun _=>?_);refine w_6 ?_
  refine lpz (i + 1) ⟨⟨zy,c9,c9,c9,trivial⟩,trivial⟩ ?_;exact ⟨by show i + 1 <= _;omega,az hI (by first | exact ahm bos bot | exact a1y (a2p bot) | exact a1y (a4o (by rw [<- j0 (n:=i) bos];assumption)))⟩
 have hie:i = p.toNat + 1:=by omega
 refine w_5 ?_;exact hx8 rfl rfl rfl (⟨ccb (b6w hie hI).symm,trivial⟩)
theorem b51:goodFn Tryz.prog 156:=wgx Tryz.func156
theorem b75 (n:Int) (l:List Fd) (p:AS):a7 Tryz.prog 156 [pI n,pP (fdl l),pA p] (ae [pB (p6 n l p),pI (x8 n l p)]):=by
 refine hpx (nt:=50) Tryz.func156 ?_;refine ce ?_;refine qcx uz (zr n l) ?_;refine w_7 ?_;refine hcn (fun h0=>?_) (fun h0=>?_)
 · refine w_7 ?_;refine ⟨.inr rfl, ?_⟩;have he:=b2z (p:=p) h0;exact f9 rfl rfl (⟨ccb he.2.symm,cci he.1.symm,trivial⟩)
 refine w_3 ?_;have hv:=gc h0;have hsh:=aq7 (s:=p) (n:=n) hv.1 hv.2.1;refine w_6 ?_;refine hcn (fun h1=>?_) (fun h1=>?_)
 · refine w_6 ?_;refine ⟨.inr rfl, ?_⟩;have he:=b3r h0 (fun e=>h1 (hsh.2 e));exact f9 rfl rfl (⟨ccb he.2.symm,cci he.1.symm,trivial⟩)
 refine w_5 ?_;refine qcx b89 (b65 l p) ?_;refine w_4 ?_;have htl:=afe p;refine w_2 ?_;refine qcx ap1 (ath p) ?_;refine w_4 ?_;refine a6 (ι:=Nat) ⟨[(1,some _),(2,some _),(9,some _),(27,some _),(28,some _)],[]⟩ ⟨⟨c9,c9,c9,c9,c9,trivial⟩,trivial⟩ (fun i=>⟨[(29,some (vI i))],[]⟩) (fun i=>i <= (f7 p).length /\ (∀ j,j < i -> nj l p ((f7 p).getD j default) = false)) (fun i=>(f7 p).length - i) (0) (⟨bkl _,bq⟩) ⟨⟨zy,trivial⟩,trivial⟩ ?_;rintro i ⟨hi,hI⟩;refine w_5 ?_;refine hcd (fun h2=>?_) (fun h2=>?_)
 ·
  refine ik ?_;refine qcx t6 (x6 l ((f7 p).getD i default)) ?_;refine ce ?_;refine am rfl rfl (fun r3=>?_) (fun r3=>?_)
  ·
   have h3:=tz2 (d6 r3);(iterate 6 refine qy ?_ (hg:=(gtt r3)));refine w_2 ?_;refine a8 _ rfl (fun r4=>?_) (fun r4=>?_)
   · have h4:=tz2 (d6 (bp r3 r4));refine w_6 ?_;refine ⟨.inr rfl, ?_⟩;have he:=ac9 h0 (hsh.1 h1);have hb:=ani (x3.1 (aa5 (l:=f7 p) (j:=i) bos)) (b30 (bey h3) h4);exact f9 rfl rfl (⟨ccb (by rw [he.2,hb]),cci he.1.symm,trivial⟩)
   have h4:=tz1 (d5 (bp r3 r4));refine w_5 ?_;refine lpz (i + 1) ⟨⟨zy,c9,c9,c9,c9,c9,trivial⟩,trivial⟩ ?_;exact ⟨by show i + 1 <= _;omega,az hI (by first | exact a2p (b2n h3) | exact a4o h4)⟩
  have h3:=tz1 (d5 r3);(iterate 6 refine k9 (gft r3) ?_);refine rq rfl rfl rfl rfl rfl ?_ (hp:=r3);refine aq ?_;refine a8 _ rfl (fun e=>by cases e) (fun _=>?_);refine w_5 ?_
  refine lpz (i + 1) ⟨⟨zy,c9,c9,c9,c9,c9,trivial⟩,trivial⟩ ?_;exact ⟨by show i + 1 <= _;omega,az hI (by first | exact a2p (b2n h3) | exact a4o h4)⟩
 obtain rfl:i = (f7 p).length:=by omega
 refine w_7 ?_;refine ⟨.inr rfl, ?_⟩;have he:=ac9 h0 (hsh.1 h1);have hb:=b16 hI;exact f9 rfl rfl (⟨ccb (by rw [he.2,hb]),cci he.1.symm,trivial⟩)
theorem b7w:goodFn Tryz.prog 107:=wgx Tryz.func107
theorem auu (n:Int) (l:List Fd) (p:AS):a7 Tryz.prog 107 [pI n,pP (fdl l),pA p] (ae [pB (p6 n l p),pI (x8 n l p)]):=by
 refine hpx (nt:=23) Tryz.func107 ?_;refine ce ?_;refine qcx avf (ape n l) ?_;refine w_7 ?_;refine hcn (fun h0=>?_) (fun h0=>?_)
 · refine w_7 ?_;refine ⟨.inr rfl, ?_⟩;have he:=b2z (p:=p) h0;exact f9 rfl rfl (⟨ccb he.2.symm,cci he.1.symm,trivial⟩)
 refine w_3 ?_;have hv:=gc h0;have hfn:=bao hv.1 hv.2.1;refine w_3 ?_;refine qcx ol (oq n) ?_;refine w_3 ?_;refine hcn (fun h1=>?_) (fun h1=>?_)
 · refine w_6 ?_;refine ⟨.inr rfl, ?_⟩;have he:=b3r h0 (fun e=>h1 (jd.2 e));exact f9 rfl rfl (⟨ccb he.2.symm,cci he.1.symm,trivial⟩)
 refine w_2 ?_;have hsp:=jd.1 h1;have hpl:=a0k hsp;have hfe:asI (aa n) = ((aa n).toNat:Int):=rfl;refine w_3 ?_;refine qcx b88 (av2 l p bos) ?_;refine w_4 ?_;refine ⟨.inr rfl, ?_⟩;have he:=ac9 h0 hsp;exact f9 rfl rfl (⟨ccb he.2.symm,cci he.1.symm,trivial⟩)
end
section
section
variable {n:Int} {l:List Fd}
def bdb (n:Int) (l:List Fd) (f:Fd):Bool:=decide (clo l f.lhs ≠ aa n) && decide (f.rhs &&& ~~~nv l (aa n) ≠ 0)
def bjl (n:Int) (l:List Fd) (i:Nat):List Fd:=((a18 n l).take i).filter (bdb n l)
def bji (n:Int) (l:List Fd):List Fd:=(a18 n l).filter (bdb n l)
theorem ain (n:Int) (l:List Fd):(a18 n l).length <= 2048:=by
 unfold a18;split
 · rename_i h
   have h1:=(gc h).2.2.1;have h2:=ab2 l
   have h3:(ajh l).length <= (a29 l).length:=by
    have:∀ (f:Nat) (k:List Fd) (i:Nat),(ug f k i).length <= k.length:=by
     intro f
     induction f with
     | zero=>intro k i;exact bko _
     | succ f ih =>
      intro k i;unfold ug;split
      · rename_i hi
        split
        · exact bky (ih _ _) (by rw [lz hi];omega)
        exact ih _ _
      exact bko _
    exact this _ _ _
   omega
 simp
end
end
section
def bik (l:List Fd) (pr k:AS):Bool:=(List.range 32).all fun a=>!k.getLsbD a || decide (sub (clo l (noA k a)) pr)
def bhl (n:Int) (l:List Fd):Bool:=(b2k n l).all (bik l (orL (b2k n l)))
def bju (n:Int) (l:List Fd):Bool:=decide (bj n l = 0) && bhl n l
section
variable {l:List Fd} {pr k:AS}
def bke (l:List Fd) (pr k r:AS):Prop:=sub r k /\ ∀ a,a < 32 -> k.getLsbD a = true -> r.getLsbD a = true \/ sub (clo l (noA k a)) pr
def bjw (l:List Fd) (pr k:AS) (s:Nat):Prop:=∀ j,j < s -> sub (BitVec.ofNat 32 j) k -> sub (clo l (BitVec.ofNat 32 j)) pr
end
section
variable {n:Int} {l:List Fd}
end
end
section
def mgR (l:List Fd) (s:AS):AS:=(l.filter fun f=>decide (f.lhs = s)).foldl (fun a f=>a ||| f.rhs) 0
def mgF (l:List Fd) (s:AS):Fd:=⟨s,mgR l s⟩
def ad5 (l:List Fd):List Fd:=(ord (l.map Fd.lhs)).map (mgF l)
theorem bfs {l:List Fd} {s:AS} {i:Nat} (hi:i < l.length) (h:(l.getD i default).lhs = s):mgR (l.take (i + 1)) s = mgR (l.take i) s ||| (l.getD i default).rhs:=by
 unfold mgR;rw [ay hi,blz,bm0];simp only [blx,h,decide_true,if_true,bmi,bmr,List.foldl_nil]
theorem bgs {l:List Fd} {s:AS} {i:Nat} (hi:i < l.length) (h:¬ (l.getD i default).lhs = s):mgR (l.take (i + 1)) s = mgR (l.take i) s:=by
 unfold mgR;rw [ay hi,blz,bm0];simp only [blx,h,decide_false,bm2,if_false,bmi,List.foldl_nil]
theorem bii {l:List Fd} {s:AS} {i:Nat} (hi:i < l.length) (h:asI (l.getD i default).lhs = asI s):PV.raw (.int .u32 (aw .or .u32 (asI (mgR (l.take i) s)) (asI (l.getD i default).rhs))) = asC (mgR (l.take (i + 1)) s):=by
 rw [bOr,bfs hi (cg.1 h)];rfl
theorem b0l (l:List Fd):(ad5 l).length <= l.length:=by
 unfold ad5;rw [bl7];exact bky (ln _) (by rw [bl7];exact bko _)
end
section
open Go.Proofs
def bjs (t:AS) (l:List Fd):Prop:=∀ x ∈ l,sub x.rhs t
def im (n:Int) (l:List Fd):List Fd:=ad5 (a18 n l)
theorem aju (n:Int) (l:List Fd):(im n l).length <= 2048:=bky (b0l _) (ain n l)
def pt (f:Fd):AS:=f.lhs ||| f.rhs
section
variable {n:Int} {l:List Fd}
def ni (n:Int) (l:List Fd) (i:Nat):Bool:=((im n l).take i).any fun f=>ld n l (pt f)
theorem a2y {i:Nat} (hi:i < (im n l).length):ni n l (i + 1) = (ni n l i || ld n l (pt ((im n l).getD i default))):=by
 unfold ni;rw [ay hi,List.any_append];simp
theorem aw8 (h:bj n l = 0):ld n l (aa n) = true:=decide_eq_true ⟨h,io _,ec (b0z h (io _)) qt⟩
theorem ba2 (h:bj n l = 0):rkE n l (aa n) = 0:=(bdx h (aw8 h)).2
def a9q (n:Int) (l:List Fd):List AS:=(im n l).map pt
def bem (n:Int) (l:List Fd):List AS:=iz (if ni n l (im n l).length = true then a9q n l else a9q n l ++ [rkS n l (aa n)])
def a6k (n:Int) (l:List Fd):List AS:=if bj n l = 0 then bem n l else []
theorem be0 (h:¬ bj n l = 0):a6k n l = []:=if_neg h
theorem baa (h:bj n l = 0):a6k n l = bem n l:=if_pos h
theorem azd (n:Int) (l:List Fd):(a9q n l).length <= 2048:=by unfold a9q;rw [bl7];exact aju n l
theorem agh (n:Int) (l:List Fd):((im n l).take (im n l).length).map pt = a9q n l:=by rw [bks];rfl
def a5b (n:Int) (l:List Fd):List AS:=if ni n l (im n l).length = true then a9q n l else a9q n l ++ [rkS n l (aa n)]
theorem a2j (h:ni n l (im n l).length = true):a5b n l = ((im n l).take (im n l).length).map pt:=by rw [agh];exact if_pos h
theorem abd (h:ni n l (im n l).length = false):a5b n l = ((im n l).take (im n l).length).map pt ++ [rkS n l (aa n)]:=by rw [agh];exact if_neg (by rw [h];decide)
theorem b2b (n:Int) (l:List Fd):(a5b n l).length <= 4096:=by
 have:=azd n l;unfold a5b;split
 · omega
 rw [bkq,bm7];omega
theorem b3h {i:Nat} (hi:i < (im n l).length) (h:ni n l i = true):true = ni n l (i + 1):=by rw [a2y hi,h];rfl
theorem b3t {i:Nat} (hi:i < (im n l).length) (h:ni n l i = false):ld n l (pt ((im n l).getD i default)) = ni n l (i + 1):=by rw [a2y hi,h];rfl
theorem b32 {i:Nat} (hi:i < (im n l).length):(bif ni n l i then true else ld n l (pt ((im n l).getD i default))) = ni n l (i + 1):=by rw [a2y hi];cases ni n l i <;> rfl
end
end
section
open Go.Proofs
theorem b59:goodFn Tryz.prog 135:=wgx Tryz.func135
theorem baj:goodFn Tryz.prog 71:=wgx Tryz.func71
theorem bb3 (hM:∀ k:List Fd,k.length <= 16777216 -> a7 Tryz.prog 135 [pP (fdl k)] (ae [pP (fdl (ad5 k))])) (n:Int) (l:List Fd):a7 Tryz.prog 71 [pI n,pP (fdl l)] (ae [pP (fdl (im n l)),pI (bj n l)]):=by
 refine hpx (nt:=17) Tryz.func71 ?_;refine w_9 ?_;refine qcx b8h (bfm n l) ?_;refine w_7 ?_;have hml:=ain n l;refine w_2 ?_;refine qcx b59 (hM (a18 n l) bos) ?_;refine w_4 ?_;exact hx8 rfl rfl rfl (CoL.refl _)
theorem aw1:goodFn Tryz.prog 32:=wgx Tryz.func32
theorem an8 (hM:∀ k:List Fd,k.length <= 16777216 -> a7 Tryz.prog 135 [pP (fdl k)] (ae [pP (fdl (ad5 k))])) (n:Int) (l:List Fd):a7 Tryz.prog 32 [pI n,pP (fdl l)] (ae [pP (asl (a6k n l)),pI (bj n l)]):=by
 refine hpx (nt:=66) Tryz.func32 ?_;refine w_9 ?_;refine qcx baj (bb3 hM n l) ?_;refine ef ?_;refine hcn (fun h0=>?_) (fun h0=>?_)
 · refine w_6 ?_;exact hx8 rfl rfl rfl (⟨CoC.one (a3q (be0 h0)),CoC.refl _,trivial⟩)
 refine w_2 ?_;have hv:=gc h0;have hcl:=aju n l;have hsl:=b2b n l;refine ku ?_;refine cj 8 900 true 1 46 (lf sC []) boz rfl (CoP.sl rfl (.inr rfl) (fun h=>h) (fun i j hi _=>absurd hi (bkp i))) (.inr rfl) rfl ?_;refine a6 (ι:=Nat) ⟨[(0,some _),(1,some _),(24,some _),(25,some _)],[]⟩ ⟨⟨c9,c9,c9,c9,trivial⟩,trivial⟩ (fun i=>⟨[(8,some (.v (.one (.ref 900 (((im n l).take i).map pt).length)))),(9,some (vB (ni n l i))),(26,some (vI i))],[(900,some (.arr true 1 46 (((im n l).take i).map pt).length (lf sC (((im n l).take i).map pt))))]⟩) (fun i=>i <= (im n l).length) (fun i=>(im n l).length - i) (0) (bkl _) ⟨⟨zy,⟨_,rfl,(cob rfl)⟩,zy,trivial⟩,⟨u9,trivial⟩⟩ ?_;rintro i hi;have hlen:(((im n l).take i).map pt).length <= i:=by rw [bl7,bku];omega
 refine w_5 ?_;refine hcd (fun h1=>?_) (fun h1=>?_)
 ·
  refine w_7 ?_;refine m9 0 ?_;refine ku ?_;refine m9 1 ?_;refine r9 2 true ?_;refine w_5 ?_;refine am rfl rfl (fun r2=>?_) (fun r2=>?_)
  ·
   have h2:=r2;(iterate 4 refine k9 (gtf r2) ?_);refine rq rfl rfl rfl rfl rfl ?_ (hp:=r2);refine w_6 ?_
   exact lpx (i + 1) ⟨⟨⟨_,rfl,(c7 (tn bos))⟩,⟨_,rfl,(cob (by first | exact b3h (n:=n) (l:=l) (i:=i) bos bot | exact b3t (n:=n) (l:=l) (i:=i) bos bot | exact b32 (n:=n) (l:=l) (i:=i) bos))⟩,zy,c9,c9,c9,c9,trivial⟩,⟨⟨_,rfl,(bz (tn bos) (CoP.of_eq (congrArg (fun z=>PV.raw (.int .u32 z)) (bOr _ _))))⟩,trivial⟩⟩
  have h2:=r2;(iterate 3 refine qy ?_ (hg:=(gff r2)));refine rc rfl rfl rfl rfl rfl rfl ab7 (ah0 n l (pt ((im n l).getD i default))) (⟨CoC.refl _,CoC.refl _,cci (bOr _ _),trivial⟩) rfl (gff r2) ?_;refine w_7 ?_
  exact lpx (i + 1) ⟨⟨⟨_,rfl,(c7 (tn bos))⟩,⟨_,rfl,(cob (by first | exact b3h (n:=n) (l:=l) (i:=i) bos bot | exact b3t (n:=n) (l:=l) (i:=i) bos bot | exact b32 (n:=n) (l:=l) (i:=i) bos))⟩,zy,c9,c9,c9,c9,trivial⟩,⟨⟨_,rfl,(bz (tn bos) (CoP.of_eq (congrArg (fun z=>PV.raw (.int .u32 z)) (bOr _ _))))⟩,trivial⟩⟩
 obtain rfl:i = (im n l).length:=by omega
 refine dp ?_;refine bu (ι:=Unit) ⟨[],[]⟩ ⟨trivial,trivial⟩ (fun _i=>⟨[(8,some (.v (.one (.ref 900 (a5b n l).length))))],[(900,some (.arr true 1 46 (a5b n l).length (lf sC (a5b n l))))]⟩) (fun _i=>True) ?_ ?_
 ·
  refine w_5 ?_;refine hcv (fun h3=>?_) (fun h3=>?_)
  ·
   refine w_5 ?_;refine qcx bat (bc2 n hv.1 hv.2.1) ?_;refine qcx bba (b49 n l (aa n)) ?_;refine ef ?_;refine hcn (fun h4=>?_) (fun h4=>?_)
   · exfalso;exact h4 (ba2 h0)
   refine w_4 ?_;refine m9 3 ?_;refine r9 4 true ?_;refine w_2 ?_;exact jnx () ⟨⟨⟨_,rfl,(by first | exact kn (by rw [a2j bot]) | exact kn (by rw [abd bot,bkq];rfl))⟩,trivial⟩,⟨⟨_,rfl,(by first | exact f5 (a2j bot) (by rw [a2j bot]) | exact bz (abd bot) (CoP.refl _))⟩,trivial⟩⟩
  refine d7 ?_;exact jnx () ⟨⟨⟨_,rfl,(by first | exact kn (by rw [a2j bot]) | exact kn (by rw [abd bot,bkq];rfl))⟩,trivial⟩,⟨⟨_,rfl,(by first | exact f5 (a2j bot) (by rw [a2j bot]) | exact bz (abd bot) (CoP.refl _))⟩,trivial⟩⟩
 rintro _ _;refine cq ?_;refine av 8 rfl rfl rfl ?_;refine w_2 ?_;refine qcx ai9 (a9t (a5b n l) bos) ?_;refine w_3 ?_;exact hx8 rfl rfl rfl (⟨CoC.one (CoP.of_eq (by rw [baa h0];rfl)),cci h0.symm,trivial⟩)
end
section
def Eqv (l k:List Fd):Prop:=∀ s,sy l s <-> sy k s
theorem Eqv.refl (l:List Fd):Eqv l l:=fun s=>Iff.rfl
theorem Eqv.trans {a b c:List Fd} (h:Eqv a b) (k:Eqv b c):Eqv a c:=fun s=>(h s).trans (k s)
theorem Eqv.clo {l k:List Fd} (h:Eqv l k) (s:AS):clo l s = clo k s :=
 ec (a00 ((h _).2 ub) qt) (a00 ((h _).1 ub) qt)
end
section
def bjg (l:List Fd) (ps:List AS) (t:AS):Prop:=∀ p ∈ ps,sub (clo l (t &&& p) &&& p) t
def bgf (l:List Fd) (s p:AS):AS:=s ||| (clo l (s &&& p) &&& p)
def bjb (l:List Fd) (ps:List AS) (s:AS):AS:=ps.foldl (bgf l) s
def PrI (l:List Fd) (ps:List AS) (z s:AS):Prop:=sub z s /\ sub s (a35 l ps z)
def bk0 (n:Int) (l:List Fd) (i:Nat):List AS:=((ax (aa n)).take i).filter fun s=>!dm l s
end
section
def bjd (l:List Fd):Prop:=∀ f ∈ l,∀ i,i < 32 -> f.rhs.getLsbD i = true -> f.lhs.getLsbD i = false
section
variable {n:Int} {l:List Fd}
end
end
section
open Go.Proofs
theorem anj {ps:List AS} {k:AS} (h:k ∈ ps):sub k (orL ps):=ai.2 fun i hi hb=>by
 unfold orL;rw [a1d,bmf];exact .inr (bll.2 ⟨k,h,hb⟩)
section
variable {n:Int} {l:List Fd}
end
end
section
section
variable {n:Int} {l:List Fd}
theorem bbm {L:List AS} {t:AS} (h:∀ x ∈ L,sub x t):sub (orL L) t:=ai.2 fun i hi hb=>by
 unfold orL at hb;rw [a1d,bmf] at hb
 rcases hb with hb | hb
 · simp at hb
 obtain ⟨x,hx,hxb⟩:=bll.1 hb;exact ai.1 (h x hx) i hi hxb
end
end
section
def azf (E:Int -> Int -> Prop) (R:Rw -> Prop) (s:AS):Prop:=∃ r,R r /\ ∀ i:Nat,i < r.length -> dq s (i:Int) = true -> E (r.getD i default) (i:Int)
section
variable {N:Nat} {p m:List Fd} {E:Int -> Int -> Prop} {R:Rw -> Prop}
theorem ayx {s t:AS} (h:sub s t) {i:Nat} (hi:dq s (i:Int) = true):dq t (i:Int) = true:=by
 by_cases hl:i < 32
 · rw [ja hl] at hi ⊢
   exact ai.1 h i hl hi
 rw [yj bos] at hi;cases hi
theorem azf.mono {s t:AS} (h:azf E R t) (hs:sub s t):azf E R s:=by
 obtain ⟨r,h1,h2⟩:=h;exact ⟨r,h1,fun i hi hh=>h2 i hi (ayx hs hh)⟩
end
section
variable {n:Int} {p m:List Fd} {ps:List AS}
end
end
section
def lvE (n:Int) (ps:List AS):Int:=if n < 0 \/ 8 < n then 7 else if 64 < ps.length then 3 else if ps.length = 0 \/ ¬ orL ps = aa n then 1 else 0
section
variable {n:Int} {ps:List AS} {p m:List Fd}
theorem ahd (h:n < 0 \/ 8 < n):lvE n ps = 7:=if_pos h
theorem b3b (h:¬ (n < 0 \/ 8 < n)) (h2:64 < ps.length):lvE n ps = 3:=by unfold lvE;rw [if_neg h,if_pos h2]
theorem ah8 (h:¬ (n < 0 \/ 8 < n)) (h2:¬ 64 < ps.length) (h3:ps.length = 0 \/ ¬ orL ps = aa n):lvE n ps = 1:=by unfold lvE;rw [if_neg h,if_neg h2,if_pos h3]
theorem b3p (h:¬ (n < 0 \/ 8 < n)) (h2:¬ 64 < ps.length) (h3:¬ (ps.length = 0 \/ ¬ orL ps = aa n)):lvE n ps = 0:=by unfold lvE;rw [if_neg h,if_neg h2,if_neg h3]
theorem nr (h:lvE n ps = 0):0 <= n /\ n <= 8 /\ ps.length <= 64 /\ 0 < ps.length /\ orL ps = aa n:=by
 unfold lvE at h;split at h
 · exact absurd h boz
 split at h
 · exact absurd h boz
 split at h
 · exact absurd h boz
 rename_i h1 h2 h3;refine ⟨by omega,by omega,by omega,by omega, ?_⟩;apply Classical.byContradiction;intro e;exact h3 (.inr e)
def lsT (n:Int) (ps:List AS) (p m:List Fd):List St × (Int × List Rw) × Int:=j8 FU n (ar (bm n ps)) p m
def lsC (n:Int) (ps:List AS) (p m:List Fd):Int:=if lvE n ps = 0 then (if c8 n p m = 0 then (lsT n ps p m).2.2 else c8 n p m) else lvE n ps
def lsB (n:Int) (ps:List AS) (p m:List Fd):Bool:=decide (lsC n ps p m = 0) && (lsT n ps p m).2.1.2.any fun r=>decide (r = dc n)
theorem bgh (h:¬ lvE n ps = 0):lsC n ps p m = lvE n ps /\ lsB n ps p m = false:=by
 have e:lsC n ps p m = lvE n ps:=if_neg h;exact ⟨e,by unfold lsB;rw [e,decide_eq_false h];rfl⟩
theorem bgc (h:lvE n ps = 0) (h2:¬ c8 n p m = 0):lsC n ps p m = c8 n p m /\ lsB n ps p m = false:=by
 have e:lsC n ps p m = c8 n p m:=(if_pos h).trans (if_neg h2);exact ⟨e,by unfold lsB;rw [e,decide_eq_false h2];rfl⟩
theorem aat (h:lvE n ps = 0) (h2:c8 n p m = 0):lsC n ps p m = (lsT n ps p m).2.2:=(if_pos h).trans (if_pos h2)
theorem tk (h:lsC n ps p m = 0):lvE n ps = 0 /\ c8 n p m = 0:=by
 unfold lsC at h;split at h
 · rename_i e
   split at h
   · rename_i e2;exact ⟨e,e2⟩
   rename_i e2;exact absurd h e2
 rename_i e;exact absurd h e
theorem a5f (h:lvE n ps = 0) {q:AS} (hq:q ∈ ps):sub q (aa n):=by
 rw [<- (nr h).2.2.2.2];exact anj hq
theorem ahl (h:lvE n ps = 0):gh n ps = (n,ar (bm n ps),0):=by
 obtain ⟨h0,h8,h64,_⟩:=nr h;exact aaj bos bos fun j hj=>(a3u h0 bos).1 (a5f h (dt hj))
def bkh (n:Int) (p:List Fd) (ps:List AS):Bool:=lsB n ps p [] && !ps.any (dm p)
end
end
section
abbrev tbC (a:Int × List Rw):Nat -> PV:=fun j=>[.raw (.int .i64 a.1),rl a.2].getD j .any
def lcR (n:Int) (ps:List AS) (p m:List Fd):(Int × List Rw) × List St × (Int × List Rw) × Int :=
 if lvE n ps = 0 then (if c8 n p m = 0 then ((n,ar (bm n ps)),(lsT n ps p m).1,(lsT n ps p m).2.1,(lsT n ps p m).2.2) else ((0,[]),[],(0,[]),c8 n p m)) else ((0,[]),[],(0,[]),lvE n ps)
section
variable {n:Int} {ps:List AS} {p m:List Fd} {l lend:List Rw}
theorem ber (h:¬ lvE n ps = 0):lcR n ps p m = ((0,[]),[],(0,[]),lvE n ps):=if_neg h
theorem bgq (h:lvE n ps = 0) (h2:¬ c8 n p m = 0):lcR n ps p m = ((0,[]),[],(0,[]),c8 n p m):=(if_pos h).trans (if_neg h2)
theorem as1 (h:lvE n ps = 0) (h2:c8 n p m = 0):lcR n ps p m = ((n,ar (bm n ps)),(lsT n ps p m).1,(lsT n ps p m).2.1,(lsT n ps p m).2.2):=(if_pos h).trans (if_pos h2)
theorem oo:(lcR n ps p m).2.2.2 = lsC n ps p m:=by
 unfold lcR lsC;split
 · split <;> rfl
 rfl
theorem azh (h:(lcR n ps p m).2.2.2 = 0):((lcR n ps p m).2.2.1.2.any fun r=>decide (r = dc n)) = lsB n ps p m:=by
 have hc:=h;rw [oo] at hc;obtain ⟨h1,h2⟩:=tk hc;unfold lsB;rw [decide_eq_true hc,bmt,as1 h1 h2]
theorem b0n (h:¬ (lcR n ps p m).2.2.2 = 0):lsB n ps p m = false:=by
 rw [oo] at h;unfold lsB;rw [decide_eq_false h];rfl
theorem bdl:(bif decide ((lcR n ps p m).2.2.2 = 0) then ((lcR n ps p m).2.2.1.2.any fun r=>decide (r = dc n)) else false) = lsB n ps p m:=by
 by_cases h:(lcR n ps p m).2.2.2 = 0
 · rw [decide_eq_true h,cond_true,azh h]
 rw [decide_eq_false h,cond_false,b0n h]
theorem bhz (h:lcR n ps p m = lcR n ps p m) (h2:(lcR n ps p m).2.2.2 = 0):0 <= n /\ n <= 8:=by
 rw [oo] at h2;obtain ⟨h1,_⟩:=tk h2;exact ⟨(nr h1).1,(nr h1).2.1⟩
theorem aqu:∀ {sts:List St} {l:List Rw} {i:Nat},TrZ n p m lend l sts -> i <= sts.length -> TrZ n p m lend ((trL n p m l sts).getD i default) (sts.drop i)
 | [],l,0,h,_=>h
 | s :: r,l,0,h,_=>h
 | s :: r,l,i + 1,h,hi=>by
  obtain ⟨_,_,l',e,_,h⟩:=h;unfold trL;rw [e];exact aqu (i:=i) h (by simpa using hi)
theorem a89:∀ {sts:List St} {l:List Rw} {i:Nat},i < sts.length -> (trL n p m l sts).getD (i + 1) default = (dx n ((trL n p m l sts).getD i default) p m (sts.getD i default)).2.1
 | [],l,i,hi=>by simp at hi
 | s :: r,l,0,_=>by
  unfold trL
  cases r with
  | nil=>rfl
  | cons s2 r2=>rfl
 | s :: r,l,i + 1,hi=>by
  unfold trL;exact a89 (sts:=r) (i:=i) (by simpa using hi)
section
variable {sts:List St}
theorem ank:(trL n p m l sts).getD 0 default = l:=by cases sts <;> rfl
def j4 (n:Int) (p m:List Fd) (l:List Rw) (sts:List St):List (Int × List Rw):=(trL n p m l sts).map fun t=>(n,t)
theorem z6:(j4 n p m l sts).length = sts.length + 1:=by unfold j4;rw [bl7,a1s]
theorem a6n {i:Nat} (hi:i <= sts.length):(j4 n p m l sts).getD i default = (n,(trL n p m l sts).getD i default):=by
 unfold j4;have:i < (trL n p m l sts).length:=by rw [a1s];omega
 rw [bkk,bl6,bkj this,bkk,bkj this];rfl
theorem afb {i:Nat} (hi:i < sts.length):(j4 n p m l sts).take (i + 1 + 1) = (j4 n p m l sts).take (i + 1) ++ [(n,(dx n ((trL n p m l sts).getD i default) p m (sts.getD i default)).2.1)]:=by
 rw [ay (by rw [z6];omega),a6n bos,a89 hi]
theorem ajf:(j4 n p m l sts).take 1 = [(n,l)]:=by
 unfold j4;cases sts <;> rfl
def rcR (n:Int) (ps:List AS) (p m:List Fd):List St × List (Int × List Rw) × Int :=
 if lsC n ps p m = 0 then ((lsT n ps p m).1,j4 n p m (ar (bm n ps)) (lsT n ps p m).1,0) else ([],[],lsC n ps p m)
theorem aqx {c:Int} (h:lsC n ps p m = c) (h2:¬ c = 0):rcR n ps p m = ([],[],c):=by
 unfold rcR;rw [h,if_neg h2]
theorem a6s (h:lsC n ps p m = 0):rcR n ps p m = ((lsT n ps p m).1,j4 n p m (ar (bm n ps)) (lsT n ps p m).1,0):=if_pos h
theorem ahv (h:lvE n ps = 0) (hb:c8 n p m = 0) (hc:(lsT n ps p m).2.2 = 0):∃ sts lend,lsT n ps p m = (sts,(n,lend),0) /\ TrZ n p m lend (ar (bm n ps)) sts /\ tok n lend = true /\ ((∃ t,t ∈ trL n p m (ar (bm n ps)) sts /\ dc n ∈ t) <-> dc n ∈ lend):=by
 rcases afk (nr h).2.2.1 hb with ⟨e,_⟩ | ⟨sts,lend,e,h1,h2,h3,h4⟩
 · unfold lsT at hc
   rw [e] at hc;exact absurd hc boz
 exact ⟨sts,lend,e,h2,h3,h4⟩
theorem aut {p m:List Fd}:∀ (F:Nat) (n:Int) (l:List Rw) (acc:List St),(ig F n l p m acc).1.length <= acc.length + F:=by
 intro F
 induction F with
 | zero=>intro n l acc;unfold ig;simp
 | succ F ih =>
  intro n l acc;unfold ig;split
  · simp
  rename_i s _;split;rename_i n' l' e _;split
  · have:=ih n' l' (acc ++ [s])
    simp only [bkq,bm7] at this;omega
  simp
theorem adx (h:lvE n ps = 0) (hb:c8 n p m = 0):(lsT n ps p m).1.length <= FU:=by
 obtain ⟨h0,h8,h64,_⟩:=nr h;have hT:=abg (ps:=ps) h0 bos h64;have hck:ckE n (ar (bm n ps)) p m = 0:=(if_pos hT).trans hb;unfold lsT;rw [up hck];have:=aut (p:=p) (m:=m) FU n (ar (bm n ps)) [];simpa using this
def mw (n:Int) (t:List Rw):Bool:=t.any fun r=>decide (r = dc n)
def prX (n:Int) (ps:List AS) (p m:List Fd):Int:=idx (fun a:Int × List Rw=>mw n a.2) (rcR n ps p m).2.1
def prC (n:Int) (ps:List AS) (p m:List Fd):Int:=if (rcR n ps p m).2.2 = 0 then (if prX n ps p m < 0 then 11 else 0) else (rcR n ps p m).2.2
def prS (n:Int) (ps:List AS) (p m:List Fd):List St:=if (rcR n ps p m).2.2 = 0 then (if prX n ps p m < 0 then [] else (rcR n ps p m).1.take (prX n ps p m).toNat) else []
theorem yk:(rcR n ps p m).2.2 = lsC n ps p m:=by
 unfold rcR;split
 · rename_i h;exact h.symm
 rfl
theorem auh:¬ lsC n ps p m = 11:=by
 intro h;unfold lsC at h;split at h
 · rename_i hv
   split at h
   · rename_i hb
     rcases afk (nr hv).2.2.1 hb with ⟨e,_⟩ | ⟨sts,lend,e,_⟩
     · unfold lsT at h;rw [e] at h;exact absurd h boz
     unfold lsT at h;rw [e] at h;exact absurd (show (0:Int) = 11 from h) boz
   unfold c8 bj at h
   (repeat' split at h) <;> omega
 unfold lvE at h
 (repeat' split at h) <;> omega
theorem apt (hc:lsC n ps p m = 0):(0 <= prX n ps p m) <-> lsB n ps p m = true:=by
 obtain ⟨h1,h2⟩:=tk hc;have hc2:(lsT n ps p m).2.2 = 0:=(aat h1 h2).symm.trans hc;obtain ⟨sts,lend,e,_,_,h3⟩:=ahv h1 h2 hc2
 have e1:lsB n ps p m = decide (dc n ∈ lend):=by
  unfold lsB;rw [decide_eq_true hc,bmt,e];exact a5q
 have e2:(rcR n ps p m).2.1 = j4 n p m (ar (bm n ps)) sts:=by rw [a6s hc,e]
 have e3:(j4 n p m (ar (bm n ps)) sts).any (fun a=>mw n a.2) = decide (0 <= prX n ps p m):=by
  unfold prX;rw [e2];exact x5.symm
 rw [e1,decide_eq_true_iff,<- h3,<- decide_eq_true_iff (p:=0 <= prX n ps p m),<- e3,bll];unfold j4 mw;constructor
 · rintro ⟨x,hx,h⟩
   obtain ⟨t,ht,rfl⟩:=blm.1 hx;exact ⟨t,ht,by rw [a5q] at h;exact of_decide_eq_true h⟩
 rintro ⟨t,ht,h⟩;exact ⟨(n,t),blm.2 ⟨t,ht,rfl⟩,by rw [a5q];exact decide_eq_true h⟩
theorem bf3 (h:prC n ps p m = 11):lsB n ps p m = false /\ lsC n ps p m = 0:=by
 unfold prC at h;rw [yk] at h;split at h
 · rename_i hc
   split at h
   · rename_i hx
     refine ⟨?_,hc⟩;rw [bkv];intro e;have:=(apt hc).2 e;omega
   exact absurd h boz
 exact absurd h auh
theorem bgb (h:¬ prC n ps p m = 11):decide (prC n ps p m = 0) = lsB n ps p m /\ prC n ps p m = lsC n ps p m:=by
 unfold prC at h ⊢;rw [yk] at h ⊢;split at h
 · rename_i hc
   split at h
   · exact absurd rfl h
   rename_i hx;rw [if_pos hc,if_neg hx,hc];refine ⟨?_,rfl⟩;have:=(apt hc).1 bos;rw [this];rfl
 rename_i hc;rw [if_neg hc];refine ⟨?_,rfl⟩;unfold lsB;rw [decide_eq_false hc];rfl
end
end
end
section
open Go.Proofs
section
variable {m p:List Fd} {n:Int} {ps:List AS}
theorem awz (h:lvE n ps = 0) (hb:c8 n p m = 0) (hc:(lsT n ps p m).2.2 = 0):TrZ n p m (lsT n ps p m).2.1.2 (ar (bm n ps)) (lsT n ps p m).1:=by
 obtain ⟨sts,lend,e,htr,_⟩:=ahv h hb hc;rw [e];exact htr
theorem bag (h:(rcR n ps p m).2.2 = 0):(rcR n ps p m).2.1.length = (rcR n ps p m).1.length + 1:=by
 rw [yk] at h;rw [a6s h];exact z6
theorem bj2 (h:(rcR n ps p m).2.2 = 0):0 <= n /\ n <= 16 /\ (rcR n ps p m).1.length <= FU:=by
 rw [yk] at h;obtain ⟨h1,h2⟩:=tk h;rw [a6s h];have:=nr h1;exact ⟨this.1,by omega,adx h1 h2⟩
theorem b8f {l:List Rw} {T:List (Int × List Rw)} {e:TypeId} {N:Nat} {f:Nat -> Nat -> PV} (h:T = [(n,l)]) (hN:N = 1) (h0:CoP (f 0 0) (.raw (.int .i64 n))) (h1:CoP (f 0 1) (rl l)):CoO (.arr true 2 e N f) (.arr true 2 e T.length (lf tbC T)):=by
 subst h hN;refine ⟨fun h=>h,rfl,rfl,rfl,fun a j ha hj=>?_⟩
 have ha:a = 0:=by
  have:a < 1:=ha;omega
 subst ha
 match j,hj with
 | 0,_=>exact h0
 | 1,_=>exact h1
theorem akf {n:Nat} {l:List St} {i:Nat} {cl:Bool} (hn:n = (l.take i).length) {f:Nat -> Nat -> PV} (hf:∀ a j,f a j = lf St.c l a j):CoP (.sl n 4 cl f) (stl (l.take i)):=by
 refine CoP.sl hn.symm (.inl rfl) (fun h=>by cases h) fun a j ha hj=>CoP.of_eq ?_;rw [hf];show St.c (l.getD a default) j = St.c ((l.take i).getD a default) j;have:a < i:=by rw [hn,bku] at ha;omega
 rw [bkk,bkk,blp,if_pos this]
theorem b7e (n:Int) (ps:List AS) (h:lvE n ps = 0):a7 Tryz.prog 128 [pI n,pP (asl ps)] (ae [pT n (ar (bm n ps)),pI 0]):=by
 have:=bax n ps;rw [ahl h] at this;exact this
theorem ayj (n:Int) (ps:List AS) (h:lvE n ps = 0):a7 Tryz.prog 130 [pI n,pP (asl ps)] (ae [pT n (ar (bm n ps)),pI 0]):=by
 have:=b60 n ps;rw [ahl h] at this;exact this
theorem b91 (n:Int) (ps:List AS) (p m:List Fd):a7 Tryz.prog 151 [pT n (ar (bm n ps)),pP (fdl p),pP (fdl m)] (ae [pP (stl (lsT n ps p m).1),pT (lsT n ps p m).2.1.1 (lsT n ps p m).2.1.2,pI (lsT n ps p m).2.2]) :=
 be9 FU n (ar (bm n ps)) p m (fun h=>ak5 h) boz
theorem ay4 (n:Int) (ps:List AS) (p m:List Fd):a7 Tryz.prog 132 [pT n (ar (bm n ps)),pP (fdl p),pP (fdl m)] (ae [pP (stl (lsT n ps p m).1),pT (lsT n ps p m).2.1.1 (lsT n ps p m).2.1.2,pI (lsT n ps p m).2.2]) :=
 b67 FU n (ar (bm n ps)) p m (fun h=>ak5 h) boz
theorem avo (n:Int) (l:List Rw) (p m:List Fd) (s:St) (hT:tok n l = true) (hb:c8 n p m = 0) (h:xf l p m s) (he:dx n l p m s = (n,(dx n l p m s).2.1,0)):a7 Tryz.prog 131 [pT n l,pP (fdl p),pP (fdl m),s.pc] (ae [pT n (dx n l p m s).2.1,pI 0]):=by
 have:=age n l p m s ((if_pos hT).trans hb) h;rw [he] at this;exact this
theorem b36 {l lend:List Rw} {sts:List St} {i:Nat} (hi:i < sts.length) (h:TrZ n p m lend l (sts.drop i)):tok n l = true /\ xf l p m (sts.getD i default) /\ dx n l p m (sts.getD i default) = (n,(dx n l p m (sts.getD i default)).2.1,0):=by
 have e:sts.drop i = sts.getD i default :: sts.drop (i + 1):=by
  rw [bno hi,bkk,bkj hi];rfl
 rw [e] at h;obtain ⟨h1,h2,l',h3,h4,h5⟩:=h;rw [h3];exact ⟨h1,h2,rfl⟩
end
end
end Go.Hx

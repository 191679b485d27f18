/- A part of the proof: V30 Cs32 Cs33 Cs34 Cs35 V34 Cs36 Cz1m Cs37 Cs40 Cs42 Ls2 Ls3 Ls5 W0 W1 Ls6 W2a Ch22 X26. -/
import Derived.Test.YtkkenjdfbojdlaaGreatDoorJx29
set_option linter.all false
set_option maxRecDepth 100000
set_option maxHeartbeats 1000000
namespace Go.Hx
section
open Go.Proofs
def bo1 {p:Prop} (h:p:=by first | exact br (asf bnl bnm) | exact br (ar6 bnm) | exact br (ar5 bnl bnm bnm bnm) | exact br (ar0 bnm)):p:=h
def axb (l:List Fd) (p:AS) (hp:p.toNat < 65536):a6 bo6 205 [pP (fdl l),pA p] (a7 [pA (nj l p)]):=by
 refine hpx (nt:=46) Tryz.func205 ?_;refine nx ?_;refine bg (ka 0 (ka 1 kn)) km (fun i=>⟨[(5,some (vA (jb l p i))),(6,some (.v (.one (.p (.raw (.int .u32 (i:Int)))))))],[]⟩) (p.toNat + 1) ⟨⟨⟨_,rfl,(br rfl)⟩,tt⟩,trivial⟩ ?_;rintro i hi;have hsa:asI p = (p.toNat:Int):=rfl;refine w_7 ?_;refine hcd (fun h0=>?_) (fun h0=>?_)
 ·
  refine ct ?_;refine ah rfl rfl (fun r1=>?_) (fun r1=>?_)
  ·
   have h1:=tz2 (cj r1);(iterate 5 refine k9 (gtf r1) ?_);refine rq rfl rfl rfl rfl rfl ?_ (hp:=r1);refine w_8 ?_
   exact lpx (i + 1) ⟨⟨⟨_,rfl,bo1⟩,tt⟩,trivial⟩
  have h1:=tz1 (ck r1);(iterate 3 refine qy ?_ (hg:=(gff r1)));refine rc rfl rfl rfl rfl rfl rfl aic (b0j l (BitVec.ofNat 32 i) p) (⟨CoC.refl _,cci (ip bnl),CoC.refl _,trivial⟩) rfl (gff r1) ?_;refine qy ?_ (hg:=(gff r1))
  refine w_2 ?_;refine ak _ rfl (fun r2=>?_) (fun r2=>?_)
  · have h2:=cj (am r1 r2);refine w_6 ?_;exact lpx (i + 1) ⟨⟨⟨_,rfl,bo1⟩,tt⟩,trivial⟩
  have h2:=ck (am r1 r2);refine ct ?_;refine bg (ka 0 (ka 1 (ka 5 (ka 6 kn)))) km (fun a=>⟨[(7,some (vB (zu l p (BitVec.ofNat 32 i) a))),(8,some (vI a))],[]⟩) 32 ⟨⟨⟨_,rfl,(cob rfl)⟩,tt⟩,trivial⟩ ?_;rintro a ha;refine w_6 ?_;refine hcd (fun h3=>?_) (fun h3=>?_)
  ·
   refine w_7 ?_;refine rc rfl rfl rfl rfl rfl rfl v7 (aa2 (BitVec.ofNat 32 i) a) (⟨cci (ip bnl),CoC.refl _,trivial⟩) rfl rfl ?_;refine qy ?_;refine ah rfl rfl (fun r4=>?_) (fun r4=>?_)
   ·
    have h4:=r4;(iterate 6 refine qy ?_ (hg:=(gtt r4)));refine rc rfl rfl rfl rfl rfl rfl aic (b0j l (noA (BitVec.ofNat 32 i) a) p) (⟨CoC.refl _,cci (by rw [ip (n:=i) bnl];exact ahp _ _ rfl),CoC.refl _,trivial⟩) rfl (gtt r4) ?_;refine w_2 ?_;refine ak _ rfl (fun r5=>?_) (fun r5=>?_)
    · have h5:=bn r4 r5;refine w_8 ?_;exact lpx (a + 1) ⟨⟨⟨_,rfl,(cob (by first | exact (aml bnl bnm bnm).symm | exact (ad6 bnl bnm).symm | exact (adg bnm).symm))⟩,tt⟩,trivial⟩
    have h5:=bn r4 r5;refine w_6 ?_;exact lpx (a + 1) ⟨⟨⟨_,rfl,(cob (by first | exact (aml bnl bnm bnm).symm | exact (ad6 bnl bnm).symm | exact (adg bnm).symm))⟩,tt⟩,trivial⟩
   have h4:=r4;(iterate 7 refine k9 (gft r4) ?_);refine rq rfl rfl rfl rfl rfl ?_ (hp:=r4);refine w_8 ?_
   exact lpx (a + 1) ⟨⟨⟨_,rfl,(cob (by first | exact (aml bnl bnm bnm).symm | exact (ad6 bnl bnm).symm | exact (adg bnm).symm))⟩,tt⟩,trivial⟩
  obtain rfl:a = 32:=by omega
  refine w_5 ?_;refine hcb (fun h6=>?_) (fun h6=>?_)
  · refine ct ?_;exact lpx (i + 1) ⟨⟨⟨_,rfl,bo1⟩,tt⟩,trivial⟩
  refine w_6 ?_;exact lpx (i + 1) ⟨⟨⟨_,rfl,bo1⟩,tt⟩,trivial⟩
 have hie:i = p.toNat + 1:=by omega
 refine v_6 ?_;exact ⟨cci (congrArg asI (asc hie)),trivial⟩
def at8 (l:List Fd) (p:AS) (hp:p.toNat < 65536):a6 bo6 158 [pP (fdl l),pA p] (a7 [pB (qp l p)]):=by
 refine hpx (nt:=38) Tryz.func158 ?_;refine w_8 ?_;refine qcx (wgx Tryz.func205) (axb l p hp) ?_;refine w_8 ?_;refine ae (ι:=Nat) (ka 0 (ka 1 (ka 5 kn))) km (fun i=>⟨[(6,some (.v (.one (.p (.raw (.int .u32 (i:Int)))))))],[]⟩) (fun i=>i <= p.toNat + 1 /\ ∀ j,j < i -> (decide (sub (BitVec.ofNat 32 j) p) && o0 l p (BitVec.ofNat 32 j)) = false) (fun i=>p.toNat + 1 - i) (0) (⟨bji _,bm⟩) kk ?_;rintro i ⟨hi,hI⟩;have hsa:asI p = (p.toNat:Int):=rfl;refine w_7 ?_;refine hcd (fun h0=>?_) (fun h0=>?_)
 ·
  refine c7 ?_;refine ah rfl rfl (fun r1=>?_) (fun r1=>?_)
  ·
   have h1:=tz1 r1;(iterate 3 refine qy ?_ (hg:=(gtt r1)));refine rc rfl rfl rfl rfl rfl rfl aic (b0j l (BitVec.ofNat 32 i) p) (⟨CoC.refl _,cci (ip bnl),CoC.refl _,trivial⟩) rfl (gtt r1) ?_;refine qy ?_ (hg:=(gtt r1))
   refine w_2 ?_;refine ah rfl rfl (fun r2=>?_) (fun r2=>?_)
   ·
    have h2:=cj (bn r1 r2);(iterate 2 refine qy ?_ (hg:=(gtt r2)));refine rc rfl rfl rfl rfl rfl rfl a7c (a7d l (BitVec.ofNat 32 i)) (⟨CoC.refl _,cci (ip bnl),trivial⟩) rfl (gtt r2) ?_
    (iterate 7 refine qy ?_ (hg:=(gtt r2)));refine w_2 ?_;refine ak _ rfl (fun r3=>?_) (fun r3=>?_)
    · have h3:=tz2 (cj (bn r2 r3));refine v_4 ?_;exact ⟨ccb (aqc (x:=BitVec.ofNat 32 i) ((a6y (i:=i) bnl).1 bnm) (b2n bnm (by rw [<- ip (n:=i) bnl];assumption))).symm,trivial⟩
    have h3:=tz1 (ck (bn r2 r3));refine w_6 ?_;refine lpz (i + 1) kk ?_;exact ⟨by show i + 1 <= _;omega,ax hI (by first | exact ake bnl bnm | exact a2a (a5d bnm) | exact a2a (a6e (by rw [<- ip (n:=i) bnl];assumption)))⟩
   have h2:=ck (bn r1 r2);(iterate 10 refine k9 (gft r2) ?_);refine rq rfl rfl rfl rfl rfl ?_ (hp:=r2);refine w_8 ?_;refine lpz (i + 1) kk ?_
   exact ⟨by show i + 1 <= _;omega,ax hI (by first | exact ake bnl bnm | exact a2a (a5d bnm) | exact a2a (a6e (by rw [<- ip (n:=i) bnl];assumption)))⟩
  have h1:=tz2 r1;(iterate 5 refine k9 (gft r1) ?_);refine rq rfl rfl rfl rfl rfl ?_ (hp:=r1);refine qy ?_;(iterate 10 refine k9 rfl ?_);refine w_9 ?_;refine lpz (i + 1) kk ?_
  exact ⟨by show i + 1 <= _;omega,ax hI (by first | exact ake bnl bnm | exact a2a (a5d bnm) | exact a2a (a6e (by rw [<- ip (n:=i) bnl];assumption)))⟩
 have hie:i = p.toNat + 1:=by omega
 refine v_5 ?_;exact ⟨ccb (b7x hie hI).symm,trivial⟩
def b64 (n:Int) (l:List Fd) (p:AS):a6 bo6 156 [pI n,pP (fdl l),pA p] (a7 [pB (qj n l p),pI (xf n l p)]):=by
 refine hpx (nt:=50) Tryz.func156 ?_;refine c7 ?_;refine qcx uy (z8 n l) ?_;refine w_7 ?_;refine hcn (fun h0=>?_) (fun h0=>?_)
 · refine w_6 ?_;refine hrr ?_;have he:=b24 (p:=p) h0;exact f9 rfl rfl (⟨ccb he.2.symm,cci he.1.symm,trivial⟩)
 refine w_3 ?_;have hv:=fv h0;have hsh:=ass (s:=p) (n:=n) hv.1 hv.2.1;refine w_6 ?_;refine hcn (fun h1=>?_) (fun h1=>?_)
 · refine w_5 ?_;refine hrr ?_;have he:=b1u h0 (fun e=>h1 (hsh.2 e));exact f9 rfl rfl (⟨ccb he.2.symm,cci he.1.symm,trivial⟩)
 refine w_5 ?_;refine qcx (wgx Tryz.func203) (b86 l p) ?_;refine w_4 ?_;have htl:=afx p;refine w_2 ?_;refine qcx (wgx Tryz.func204) (ava p) ?_;refine w_4 ?_;refine ae (ι:=Nat) (ka 1 (ka 2 (ka 9 (ka 27 (ka 28 kn))))) km (fun i=>⟨[(29,some (vI i))],[]⟩) (fun i=>i <= (f7 p).length /\ (∀ j,j < i -> o0 l p ((f7 p).getD j default) = false)) (fun i=>(f7 p).length - i) (0) (⟨bji _,bm⟩) kk ?_;rintro i ⟨hi,hI⟩;refine w_5 ?_;refine hcd (fun h2=>?_) (fun h2=>?_)
 ·
  refine j9 ?_;refine qcx t8 (x7 l ((f7 p).getD i default)) ?_;refine c7 ?_;refine ah rfl rfl (fun r3=>?_) (fun r3=>?_)
  ·
   have h3:=tz2 (cj r3);(iterate 6 refine qy ?_ (hg:=(gtt r3)));refine w_2 ?_;refine ak _ rfl (fun r4=>?_) (fun r4=>?_)
   · have h4:=tz2 (cj (bn r3 r4));refine w_5 ?_;refine hrr ?_;have he:=ahd h0 (hsh.1 h1);have hb:=aqc (x3.1 (aa7 (l:=f7 p) (j:=i) bnl)) (b2n (be9 h3) h4);exact f9 rfl rfl (⟨ccb (by rw [he.2,hb]),cci he.1.symm,trivial⟩)
   have h4:=tz1 (ck (bn r3 r4));refine w_5 ?_;refine lpz (i + 1) kk ?_;exact ⟨by show i + 1 <= _;omega,ax hI (by first | exact a5d (b1i h3) | exact a6e h4)⟩
  have h3:=tz1 (ck r3);(iterate 6 refine k9 (gft r3) ?_);refine rq rfl rfl rfl rfl rfl ?_ (hp:=r3);refine w_7 ?_;refine lpz (i + 1) kk ?_
  exact ⟨by show i + 1 <= _;omega,ax hI (by first | exact a5d (b1i h3) | exact a6e h4)⟩
 obtain rfl:i = (f7 p).length:=by omega
 refine w_6 ?_;refine hrr ?_;have he:=ahd h0 (hsh.1 h1);have hb:=axs hI;exact f9 rfl rfl (⟨ccb (by rw [he.2,hb]),cci he.1.symm,trivial⟩)
def awz (n:Int) (l:List Fd) (p:AS):a6 bo6 107 [pI n,pP (fdl l),pA p] (a7 [pB (qj n l p),pI (xf n l p)]):=by
 refine hpx (nt:=23) Tryz.func107 ?_;refine c7 ?_;refine qcx (wgx Tryz.func98) (apv n l) ?_;refine w_7 ?_;refine hcn (fun h0=>?_) (fun h0=>?_)
 · refine w_6 ?_;refine hrr ?_;have he:=b24 (p:=p) h0;exact f9 rfl rfl (⟨ccb he.2.symm,cci he.1.symm,trivial⟩)
 refine w_3 ?_;have hv:=fv h0;have hfn:=b9p hv.1 hv.2.1;refine w_3 ?_;refine qcx ov (oj n) ?_;refine w_3 ?_;refine hcn (fun h1=>?_) (fun h1=>?_)
 · refine w_5 ?_;refine hrr ?_;have he:=b1u h0 (fun e=>h1 (j6.2 e));exact f9 rfl rfl (⟨ccb he.2.symm,cci he.1.symm,trivial⟩)
 refine w_2 ?_;have hsp:=j6.1 h1;have hpl:=a07 hsp;have hfe:asI (a8 n) = ((a8 n).toNat:Int):=rfl;refine w_3 ?_;refine qcx (wgx Tryz.func158) (at8 l p bnl) ?_;refine w_3 ?_;refine hrr ?_;have he:=ahd h0 hsp;exact f9 rfl rfl (⟨ccb he.2.symm,cci he.1.symm,trivial⟩)
end
section
section
variable {n:Int} {l:List Fd}
def b9i (n:Int) (l:List Fd) (f:Fd):Bool:=decide (clo l f.lhs ≠ a8 n) && decide (f.rhs &&& ~~~nj l (a8 n) ≠ 0)
def bi9 (n:Int) (l:List Fd) (i:Nat):List Fd:=((a0u n l).take i).filter (b9i n l)
def bim (n:Int) (l:List Fd):List Fd:=(a0u n l).filter (b9i n l)
def akz (n:Int) (l:List Fd):(a0u n l).length <= 2048:=by
 unfold a0u;split
 · rename_i h
   have h1:=(fv h).2.2.1;have h2:=aby l
   have h3:(aje l).length <= (a2o l).length:=by
    have:∀ (f:Nat) (k:List Fd) (i:Nat),(uh f k i).length <= k.length:=by
     intro f
     induction f with
     | zero=>intro k i;exact bjg _
     | succ f ih =>
      intro k i;unfold uh;split
      · rename_i hi
        split
        · exact bjr (ih _ _) (by rw [mf hi];omega)
        exact ih _ _
      exact bjg _
    exact this _ _ _
   omega
 simp
end
end
section
def bgl (l:List Fd) (pr k:AS):Bool:=(List.range 32).all fun a=>!k.getLsbD a || decide (sub (clo l (noA k a)) pr)
def bhu (n:Int) (l:List Fd):Bool:=(b21 n l).all (bgl l (orL (b21 n l)))
def bit (n:Int) (l:List Fd):Bool:=decide (bh n l = 0) && bhu n l
section
variable {l:List Fd} {pr k:AS}
def bis (l:List Fd) (pr k r:AS):Prop:=sub r k /\ ∀ a,a < 32 -> k.getLsbD a = true -> r.getLsbD a = true \/ sub (clo l (noA k a)) pr
def bio (l:List Fd) (pr k:AS) (s:Nat):Prop:=∀ j,j < s -> sub (BitVec.ofNat 32 j) k -> sub (clo l (BitVec.ofNat 32 j)) pr
end
section
variable {n:Int} {l:List Fd}
end
end
section
def mgR (l:List Fd) (s:AS):AS:=(l.filter fun f=>decide (f.lhs = s)).foldl (fun a f=>a ||| f.rhs) 0
def mgF (l:List Fd) (s:AS):Fd:=⟨s,mgR l s⟩
def aew (l:List Fd):List Fd:=(ord (l.map Fd.lhs)).map (mgF l)
def bfc {l:List Fd} {s:AS} {i:Nat} (hi:i < l.length) (h:(l.getD i default).lhs = s):mgR (l.take (i + 1)) s = mgR (l.take i) s ||| (l.getD i default).rhs:=by
 unfold mgR;rw [au hi,bkq,bki];simp only [bko,h,decide_true,if_true,bl6,blb,List.foldl_nil]
def bfl {l:List Fd} {s:AS} {i:Nat} (hi:i < l.length) (h:¬ (l.getD i default).lhs = s):mgR (l.take (i + 1)) s = mgR (l.take i) s:=by
 unfold mgR;rw [au hi,bkq,bki];simp only [bko,h,decide_false,bkr,if_false,bl6,List.foldl_nil]
def bgn {l:List Fd} {s:AS} {i:Nat} (hi:i < l.length) (h:asI (l.getD i default).lhs = asI s):PV.raw (.int .u32 (al .or .u32 (asI (mgR (l.take i) s)) (asI (l.getD i default).rhs))) = asC (mgR (l.take (i + 1)) s):=by
 rw [bOr,bfc hi (c8.1 h)];rfl
def b13 (l:List Fd):(aew l).length <= l.length:=by
 unfold aew;rw [bk0];exact bjr (lj _) (by rw [bk0];exact bjg _)
end
section
open Go.Proofs
def big (t:AS) (l:List Fd):Prop:=∀ x ∈ l,sub x.rhs t
def it (n:Int) (l:List Fd):List Fd:=aew (a0u n l)
def ai4 (n:Int) (l:List Fd):(it n l).length <= 2048:=bjr (b13 _) (akz n l)
def pt (f:Fd):AS:=f.lhs ||| f.rhs
section
variable {n:Int} {l:List Fd}
def nb (n:Int) (l:List Fd) (i:Nat):Bool:=((it n l).take i).any fun f=>l5 n l (pt f)
def a3q {i:Nat} (hi:i < (it n l).length):nb n l (i + 1) = (nb n l i || l5 n l (pt ((it n l).getD i default))):=by
 unfold nb;rw [au hi,List.any_append];simp
def aw4 (h:bh n l = 0):l5 n l (a8 n) = true:=decide_eq_true ⟨h,im _,ep (b14 h (im _)) ab6⟩
def b5q (h:bh n l = 0):rkE n l (a8 n) = 0:=(bcu h (aw4 h)).2
def a9x (n:Int) (l:List Fd):List AS:=(it n l).map pt
def b9q (n:Int) (l:List Fd):List AS:=ic (if nb n l (it n l).length = true then a9x n l else a9x n l ++ [rkS n l (a8 n)])
def a5k (n:Int) (l:List Fd):List AS:=if bh n l = 0 then b9q n l else []
def bc4 (h:¬ bh n l = 0):a5k n l = []:=if_neg h
def bcz (h:bh n l = 0):a5k n l = b9q n l:=if_pos h
def axj (n:Int) (l:List Fd):(a9x n l).length <= 2048:=by unfold a9x;rw [bk0];exact ai4 n l
def ag5 (n:Int) (l:List Fd):((it n l).take (it n l).length).map pt = a9x n l:=by rw [bjk];rfl
def a5b (n:Int) (l:List Fd):List AS:=if nb n l (it n l).length = true then a9x n l else a9x n l ++ [rkS n l (a8 n)]
def a2l (h:nb n l (it n l).length = true):a5b n l = ((it n l).take (it n l).length).map pt:=by rw [ag5];exact if_pos h
def abl (h:nb n l (it n l).length = false):a5b n l = ((it n l).take (it n l).length).map pt ++ [rkS n l (a8 n)]:=by rw [ag5];exact if_neg (by rw [h];decide)
def b0v (n:Int) (l:List Fd):(a5b n l).length <= 4096:=by
 have:=axj n l;unfold a5b;split
 · omega
 rw [bjj,bkw];omega
def b1w {i:Nat} (hi:i < (it n l).length) (h:nb n l i = true):true = nb n l (i + 1):=by rw [a3q hi,h];rfl
def b1t {i:Nat} (hi:i < (it n l).length) (h:nb n l i = false):l5 n l (pt ((it n l).getD i default)) = nb n l (i + 1):=by rw [a3q hi,h];rfl
def b2c {i:Nat} (hi:i < (it n l).length):(bif nb n l i then true else l5 n l (pt ((it n l).getD i default))) = nb n l (i + 1):=by rw [a3q hi];cases nb n l i <;> rfl
end
end
section
open Go.Proofs
def bck (hM:∀ k:List Fd,k.length <= 16777216 -> a6 bo6 135 [pP (fdl k)] (a7 [pP (fdl (aew k))])) (n:Int) (l:List Fd):a6 bo6 71 [pI n,pP (fdl l)] (a7 [pP (fdl (it n l)),pI (bh n l)]):=by
 refine hpx (nt:=17) Tryz.func71 ?_;refine w_9 ?_;refine qcx (wgx Tryz.func134) (bez n l) ?_;refine w_7 ?_;have hml:=akz n l;refine w_2 ?_;refine qcx (wgx Tryz.func135) (hM (a0u n l) bnl) ?_;refine v_4 ?_;exact CoL.refl _
def ao7 (hM:∀ k:List Fd,k.length <= 16777216 -> a6 bo6 135 [pP (fdl k)] (a7 [pP (fdl (aew k))])) (n:Int) (l:List Fd):a6 bo6 32 [pI n,pP (fdl l)] (a7 [pP (asl (a5k n l)),pI (bh n l)]):=by
 refine hpx (nt:=66) Tryz.func32 ?_;refine w_9 ?_;refine qcx (wgx Tryz.func71) (bck hM n l) ?_;refine fj ?_;refine hcn (fun h0=>?_) (fun h0=>?_)
 · refine v_6 ?_;exact ⟨CoC.one (a38 (bc4 h0)),CoC.refl _,trivial⟩
 refine w_2 ?_;have hv:=fv h0;have hcl:=ai4 n l;have hsl:=b0v n l;refine lb ?_;refine cb 8 900 true 1 46 (lf sC []) bns rfl (CoP.sl rfl (.inr rfl) (fun h=>h) (fun i j hi _=>absurd hi (bjh i))) (.inr rfl) rfl ?_;refine bg (ka 0 (ka 1 (ka 24 (ka 25 kn)))) km (fun i=>⟨[(8,some (.v (.one (.ref 900 (((it n l).take i).map pt).length)))),(9,some (vB (nb n l i))),(26,some (vI i))],[(900,some (.arr true 1 46 (((it n l).take i).map pt).length (lf sC (((it n l).take i).map pt))))]⟩) ((it n l).length) ⟨⟨zy,⟨_,rfl,(cob rfl)⟩,tt⟩,uu⟩ ?_;rintro i hi;have hlen:(((it n l).take i).map pt).length <= i:=by rw [bk0,bjn];omega
 refine w_5 ?_;refine hcd (fun h1=>?_) (fun h1=>?_)
 ·
  refine w_7 ?_;refine m9 0 ?_;refine lb ?_;refine m9 1 ?_;refine r9 2 true ?_;refine w_5 ?_;refine ah rfl rfl (fun r2=>?_) (fun r2=>?_)
  ·
   have h2:=r2;(iterate 4 refine k9 (gtf r2) ?_);refine rq rfl rfl rfl rfl rfl ?_ (hp:=r2);refine w_6 ?_
   exact lpx (i + 1) ⟨⟨⟨_,rfl,(bv (ui bnl))⟩,⟨_,rfl,(cob (by first | exact b1w (n:=n) (l:=l) (i:=i) bnl bnm | exact b1t (n:=n) (l:=l) (i:=i) bnl bnm | exact b2c (n:=n) (l:=l) (i:=i) bnl))⟩,tt⟩,⟨⟨_,rfl,(bt (ui bnl) (CoP.of_eq (congrArg (fun z=>PV.raw (.int .u32 z)) (bOr _ _))))⟩,trivial⟩⟩
  have h2:=r2;(iterate 3 refine qy ?_ (hg:=(gff r2)));refine rc rfl rfl rfl rfl rfl rfl abp (aht n l (pt ((it n l).getD i default))) (⟨CoC.refl _,CoC.refl _,cci (bOr _ _),trivial⟩) rfl (gff r2) ?_;refine w_7 ?_
  exact lpx (i + 1) ⟨⟨⟨_,rfl,(bv (ui bnl))⟩,⟨_,rfl,(cob (by first | exact b1w (n:=n) (l:=l) (i:=i) bnl bnm | exact b1t (n:=n) (l:=l) (i:=i) bnl bnm | exact b2c (n:=n) (l:=l) (i:=i) bnl))⟩,tt⟩,⟨⟨_,rfl,(bt (ui bnl) (CoP.of_eq (congrArg (fun z=>PV.raw (.int .u32 z)) (bOr _ _))))⟩,trivial⟩⟩
 obtain rfl:i = (it n l).length:=by omega
 refine dj ?_;refine kx kn km ⟨[(8,some (.v (.one (.ref 900 (a5b n l).length))))],[(900,some (.arr true 1 46 (a5b n l).length (lf sC (a5b n l))))]⟩ ?_ ?_
 ·
  refine w_5 ?_;refine hcv (fun h3=>?_) (fun h3=>?_)
  ·
   refine w_5 ?_;refine qcx (wgx Tryz.func74) (bbs n hv.1 hv.2.1) ?_;refine qcx (wgx Tryz.func73) (b7a n l (a8 n)) ?_;refine fj ?_;refine hcn (fun h4=>?_) (fun h4=>?_)
   · exfalso;exact h4 (b5q h0)
   refine w_4 ?_;refine m9 3 ?_;refine r9 4 true ?_;refine w_2 ?_;exact ⟨⟨⟨_,rfl,(by first | exact kj (by rw [a2l bnm]) | exact kj (by rw [abl bnm,bjj];rfl))⟩,trivial⟩,⟨⟨_,rfl,(by first | exact ew (a2l bnm) (by rw [a2l bnm]) | exact bt (abl bnm) (CoP.refl _))⟩,trivial⟩⟩
  refine d6 ?_;exact ⟨⟨⟨_,rfl,(by first | exact kj (by rw [a2l bnm]) | exact kj (by rw [abl bnm,bjj];rfl))⟩,trivial⟩,⟨⟨_,rfl,(by first | exact ew (a2l bnm) (by rw [a2l bnm]) | exact bt (abl bnm) (CoP.refl _))⟩,trivial⟩⟩
 refine ce ?_;refine aq 8 rfl rfl rfl ?_;refine w_2 ?_;refine qcx amd (aa9 (a5b n l) bnl) ?_;refine v_3 ?_;exact ⟨CoC.one (CoP.of_eq (by rw [bcz h0];rfl)),cci h0.symm,trivial⟩
end
section
def Eqv (l k:List Fd):Prop:=∀ s,sk l s <-> sk k s
theorem Eqv.refl (l:List Fd):Eqv l l:=fun s=>Iff.rfl
theorem Eqv.trans {a b c:List Fd} (h:Eqv a b) (k:Eqv b c):Eqv a c:=fun s=>(h s).trans (k s)
theorem Eqv.clo {l k:List Fd} (h:Eqv l k) (s:AS):clo l s = clo k s :=
 ep (a4t ((h _).2 a56) ab6) (a4t ((h _).1 a56) ab6)
end
section
def bie (l:List Fd) (ps:List AS) (t:AS):Prop:=∀ p ∈ ps,sub (clo l (t &&& p) &&& p) t
def bf4 (l:List Fd) (s p:AS):AS:=s ||| (clo l (s &&& p) &&& p)
def bi4 (l:List Fd) (ps:List AS) (s:AS):AS:=ps.foldl (bf4 l) s
def PrI (l:List Fd) (ps:List AS) (z s:AS):Prop:=sub z s /\ sub s (a2t l ps z)
def bj0 (n:Int) (l:List Fd) (i:Nat):List AS:=((aw (a8 n)).take i).filter fun s=>!dy l s
end
section
def bi5 (l:List Fd):Prop:=∀ f ∈ l,∀ i,i < 32 -> f.rhs.getLsbD i = true -> f.lhs.getLsbD i = false
section
variable {n:Int} {l:List Fd}
end
end
section
open Go.Proofs
def ap8 {ps:List AS} {k:AS} (h:k ∈ ps):sub k (orL ps):=ar.2 fun i hi hb=>by
 unfold orL;rw [a1x,bl3];exact .inr (bke.2 ⟨k,h,hb⟩)
section
variable {n:Int} {l:List Fd}
end
end
section
section
variable {n:Int} {l:List Fd}
def b99 {L:List AS} {t:AS} (h:∀ x ∈ L,sub x t):sub (orL L) t:=ar.2 fun i hi hb=>by
 unfold orL at hb;rw [a1x,bl3] at hb
 rcases hb with hb | hb
 · simp at hb
 obtain ⟨x,hx,hxb⟩:=bke.1 hb;exact ar.1 (h x hx) i hi hxb
end
end
section
def ay3 (E:Int -> Int -> Prop) (R:Rw -> Prop) (s:AS):Prop:=∃ r,R r /\ ∀ i:Nat,i < r.length -> dl s (i:Int) = true -> E (r.getD i default) (i:Int)
section
variable {N:Nat} {p m:List Fd} {E:Int -> Int -> Prop} {R:Rw -> Prop}
def b03 {s t:AS} (h:sub s t) {i:Nat} (hi:dl s (i:Int) = true):dl t (i:Int) = true:=by
 by_cases hl:i < 32
 · rw [j1 hl] at hi ⊢
   exact ar.1 h i hl hi
 rw [zr bnl] at hi;cases hi
def ay3.mono {s t:AS} (h:ay3 E R t) (hs:sub s t):ay3 E R s:=by
 obtain ⟨r,h1,h2⟩:=h;exact ⟨r,h1,fun i hi hh=>h2 i hi (b03 hs hh)⟩
end
section
variable {n:Int} {p m:List Fd} {ps:List AS}
end
end
section
def lvE (n:Int) (ps:List AS):Int:=if n < 0 \/ 8 < n then 7 else if 64 < ps.length then 3 else if ps.length = 0 \/ ¬ orL ps = a8 n then 1 else 0
section
variable {n:Int} {ps:List AS} {p m:List Fd}
def ahh (h:n < 0 \/ 8 < n):lvE n ps = 7:=if_pos h
def b1y (h:¬ (n < 0 \/ 8 < n)) (h2:64 < ps.length):lvE n ps = 3:=by unfold lvE;rw [if_neg h,if_pos h2]
def ahl (h:¬ (n < 0 \/ 8 < n)) (h2:¬ 64 < ps.length) (h3:ps.length = 0 \/ ¬ orL ps = a8 n):lvE n ps = 1:=by unfold lvE;rw [if_neg h,if_neg h2,if_pos h3]
def b1f (h:¬ (n < 0 \/ 8 < n)) (h2:¬ 64 < ps.length) (h3:¬ (ps.length = 0 \/ ¬ orL ps = a8 n)):lvE n ps = 0:=by unfold lvE;rw [if_neg h,if_neg h2,if_neg h3]
def n3 (h:lvE n ps = 0):0 <= n /\ n <= 8 /\ ps.length <= 64 /\ 0 < ps.length /\ orL ps = a8 n:=by
 unfold lvE at h;split at h
 · exact absurd h bns
 split at h
 · exact absurd h bns
 split at h
 · exact absurd h bns
 rename_i h1 h2 h3;refine ⟨by omega,by omega,by omega,by omega, ?_⟩;apply Classical.byContradiction;intro e;exact h3 (.inr e)
def lsT (n:Int) (ps:List AS) (p m:List Fd):List St × (Int × List Rw) × Int:=iz FU n (av (bj n ps)) p m
def lsC (n:Int) (ps:List AS) (p m:List Fd):Int:=if lvE n ps = 0 then (if be n p m = 0 then (lsT n ps p m).2.2 else be n p m) else lvE n ps
def lsB (n:Int) (ps:List AS) (p m:List Fd):Bool:=decide (lsC n ps p m = 0) && (lsT n ps p m).2.1.2.any fun r=>decide (r = d7 n)
def bdl (h:¬ lvE n ps = 0):lsC n ps p m = lvE n ps /\ lsB n ps p m = false:=by
 have e:lsC n ps p m = lvE n ps:=if_neg h;exact ⟨e,by unfold lsB;rw [e,decide_eq_false h];rfl⟩
def be2 (h:lvE n ps = 0) (h2:¬ be n p m = 0):lsC n ps p m = be n p m /\ lsB n ps p m = false:=by
 have e:lsC n ps p m = be n p m:=(if_pos h).trans (if_neg h2);exact ⟨e,by unfold lsB;rw [e,decide_eq_false h2];rfl⟩
def ahk (h:lvE n ps = 0) (h2:be n p m = 0):lsC n ps p m = (lsT n ps p m).2.2:=(if_pos h).trans (if_pos h2)
def a2k (h:lsC n ps p m = 0):lvE n ps = 0 /\ be n p m = 0:=by
 unfold lsC at h;split at h
 · rename_i e
   split at h
   · rename_i e2;exact ⟨e,e2⟩
   rename_i e2;exact absurd h e2
 rename_i e;exact absurd h e
def a4n (h:lvE n ps = 0) {q:AS} (hq:q ∈ ps):sub q (a8 n):=by
 rw [<- (n3 h).2.2.2.2];exact ap8 hq
def ajq (h:lvE n ps = 0):ge n ps = (n,av (bj n ps),0):=by
 obtain ⟨h0,h8,h64,_⟩:=n3 h;exact a9k bnl bnl fun j hj=>(a43 h0 bnl).1 (a4n h (dn hj))
def biq (n:Int) (p:List Fd) (ps:List AS):Bool:=lsB n ps p [] && !ps.any (dy p)
end
end
section
abbrev tbC (a:Int × List Rw):Nat -> PV:=fun j=>[.raw (.int .i64 a.1),rl a.2].getD j .any
def lcR (n:Int) (ps:List AS) (p m:List Fd):(Int × List Rw) × List St × (Int × List Rw) × Int :=
 if lvE n ps = 0 then (if be n p m = 0 then ((n,av (bj n ps)),(lsT n ps p m).1,(lsT n ps p m).2.1,(lsT n ps p m).2.2) else ((0,[]),[],(0,[]),be n p m)) else ((0,[]),[],(0,[]),lvE n ps)
section
variable {n:Int} {ps:List AS} {p m:List Fd} {l lend:List Rw}
def bei (h:¬ lvE n ps = 0):lcR n ps p m = ((0,[]),[],(0,[]),lvE n ps):=if_neg h
def bfw (h:lvE n ps = 0) (h2:¬ be n p m = 0):lcR n ps p m = ((0,[]),[],(0,[]),be n p m):=(if_pos h).trans (if_neg h2)
def ar7 (h:lvE n ps = 0) (h2:be n p m = 0):lcR n ps p m = ((n,av (bj n ps)),(lsT n ps p m).1,(lsT n ps p m).2.1,(lsT n ps p m).2.2):=(if_pos h).trans (if_pos h2)
def oh:(lcR n ps p m).2.2.2 = lsC n ps p m:=by
 unfold lcR lsC;split
 · split <;> rfl
 rfl
def b00 (h:(lcR n ps p m).2.2.2 = 0):((lcR n ps p m).2.2.1.2.any fun r=>decide (r = d7 n)) = lsB n ps p m:=by
 have hc:=h;rw [oh] at hc;obtain ⟨h1,h2⟩:=a2k hc;unfold lsB;rw [decide_eq_true hc,blm,ar7 h1 h2]
def b0q (h:¬ (lcR n ps p m).2.2.2 = 0):lsB n ps p m = false:=by
 rw [oh] at h;unfold lsB;rw [decide_eq_false h];rfl
def baw:(bif decide ((lcR n ps p m).2.2.2 = 0) then ((lcR n ps p m).2.2.1.2.any fun r=>decide (r = d7 n)) else false) = lsB n ps p m:=by
 by_cases h:(lcR n ps p m).2.2.2 = 0
 · rw [decide_eq_true h,cond_true,b00 h]
 rw [decide_eq_false h,cond_false,b0q h]
def bh8 (h:lcR n ps p m = lcR n ps p m) (h2:(lcR n ps p m).2.2.2 = 0):0 <= n /\ n <= 8:=by
 rw [oh] at h2;obtain ⟨h1,_⟩:=a2k h2;exact ⟨(n3 h1).1,(n3 h1).2.1⟩
def as6:∀ {sts:List St} {l:List Rw} {i:Nat},TrZ n p m lend l sts -> i <= sts.length -> TrZ n p m lend ((trL n p m l sts).getD i default) (sts.drop i)
 | [],l,0,h,_=>h
 | s :: r,l,0,h,_=>h
 | s :: r,l,i + 1,h,hi=>by
  obtain ⟨_,_,l',e,_,h⟩:=h;unfold trL;rw [e];exact as6 (i:=i) h (by simpa using hi)
def a85:∀ {sts:List St} {l:List Rw} {i:Nat},i < sts.length -> (trL n p m l sts).getD (i + 1) default = (du n ((trL n p m l sts).getD i default) p m (sts.getD i default)).2.1
 | [],l,i,hi=>by simp at hi
 | s :: r,l,0,_=>by
  unfold trL
  cases r with
  | nil=>rfl
  | cons s2 r2=>rfl
 | s :: r,l,i + 1,hi=>by
  unfold trL;exact a85 (sts:=r) (i:=i) (by simpa using hi)
section
variable {sts:List St}
def apr:(trL n p m l sts).getD 0 default = l:=by cases sts <;> rfl
def jw (n:Int) (p m:List Fd) (l:List Rw) (sts:List St):List (Int × List Rw):=(trL n p m l sts).map fun t=>(n,t)
def zp:(jw n p m l sts).length = sts.length + 1:=by unfold jw;rw [bk0,a2n]
def a88 {i:Nat} (hi:i <= sts.length):(jw n p m l sts).getD i default = (n,(trL n p m l sts).getD i default):=by
 unfold jw;have:i < (trL n p m l sts).length:=by rw [a2n];omega
 rw [bjd,bjz,bjc this,bjd,bjc this];rfl
def afk {i:Nat} (hi:i < sts.length):(jw n p m l sts).take (i + 1 + 1) = (jw n p m l sts).take (i + 1) ++ [(n,(du n ((trL n p m l sts).getD i default) p m (sts.getD i default)).2.1)]:=by
 rw [au (by rw [zp];omega),a88 bnl,a85 hi]
def am1:(jw n p m l sts).take 1 = [(n,l)]:=by
 unfold jw;cases sts <;> rfl
def rcR (n:Int) (ps:List AS) (p m:List Fd):List St × List (Int × List Rw) × Int :=
 if lsC n ps p m = 0 then ((lsT n ps p m).1,jw n p m (av (bj n ps)) (lsT n ps p m).1,0) else ([],[],lsC n ps p m)
def asm {c:Int} (h:lsC n ps p m = c) (h2:¬ c = 0):rcR n ps p m = ([],[],c):=by
 unfold rcR;rw [h,if_neg h2]
def ac4 (h:lsC n ps p m = 0):rcR n ps p m = ((lsT n ps p m).1,jw n p m (av (bj n ps)) (lsT n ps p m).1,0):=if_pos h
def atu (h:lvE n ps = 0) (hb:be n p m = 0) (hc:(lsT n ps p m).2.2 = 0):∃ sts lend,lsT n ps p m = (sts,(n,lend),0) /\ TrZ n p m lend (av (bj n ps)) sts /\ tok n lend = true /\ ((∃ t,t ∈ trL n p m (av (bj n ps)) sts /\ d7 n ∈ t) <-> d7 n ∈ lend):=by
 rcases avh (n3 h).2.2.1 hb with ⟨e,_⟩ | ⟨sts,lend,e,h1,h2,h3,h4⟩
 · unfold lsT at hc
   rw [e] at hc;exact absurd hc bns
 exact ⟨sts,lend,e,h2,h3,h4⟩
def au2 {p m:List Fd}:∀ (F:Nat) (n:Int) (l:List Rw) (acc:List St),(ig F n l p m acc).1.length <= acc.length + F:=by
 intro F
 induction F with
 | zero=>intro n l acc;unfold ig;simp
 | succ F ih =>
  intro n l acc;unfold ig;split
  · simp
  rename_i s _;split;rename_i n' l' e _;split
  · have:=ih n' l' (acc ++ [s])
    simp only [bjj,bkw] at this;omega
  simp
def adt (h:lvE n ps = 0) (hb:be n p m = 0):(lsT n ps p m).1.length <= FU:=by
 obtain ⟨h0,h8,h64,_⟩:=n3 h;have hT:=abh (ps:=ps) h0 bnl h64;have hck:ckE n (av (bj n ps)) p m = 0:=(if_pos hT).trans hb;unfold lsT;rw [uq hck];have:=au2 (p:=p) (m:=m) FU n (av (bj n ps)) [];simpa using this
def jt (n:Int) (t:List Rw):Bool:=t.any fun r=>decide (r = d7 n)
def prX (n:Int) (ps:List AS) (p m:List Fd):Int:=idx (fun a:Int × List Rw=>jt n a.2) (rcR n ps p m).2.1
def prC (n:Int) (ps:List AS) (p m:List Fd):Int:=if (rcR n ps p m).2.2 = 0 then (if prX n ps p m < 0 then 11 else 0) else (rcR n ps p m).2.2
def prS (n:Int) (ps:List AS) (p m:List Fd):List St:=if (rcR n ps p m).2.2 = 0 then (if prX n ps p m < 0 then [] else (rcR n ps p m).1.take (prX n ps p m).toNat) else []
def a9z:(rcR n ps p m).2.2 = lsC n ps p m:=by
 unfold rcR;split
 · rename_i h;exact h.symm
 rfl
end
end
end
section
open Go.Proofs
section
variable {m p:List Fd} {n:Int} {ps:List AS}
def axd (h:lvE n ps = 0) (hb:be n p m = 0) (hc:(lsT n ps p m).2.2 = 0):TrZ n p m (lsT n ps p m).2.1.2 (av (bj n ps)) (lsT n ps p m).1:=by
 obtain ⟨sts,lend,e,htr,_⟩:=atu h hb hc;rw [e];exact htr
def bad (h:(rcR n ps p m).2.2 = 0):(rcR n ps p m).2.1.length = (rcR n ps p m).1.length + 1:=by
 rw [a9z] at h;rw [ac4 h];exact zp
def bh7 (h:(rcR n ps p m).2.2 = 0):0 <= n /\ n <= 16 /\ (rcR n ps p m).1.length <= FU:=by
 rw [a9z] at h;obtain ⟨h1,h2⟩:=a2k h;rw [ac4 h];have:=n3 h1;exact ⟨this.1,by omega,adt h1 h2⟩
def b3s {l:List Rw} {T:List (Int × List Rw)} {e:TypeId} {N:Nat} {f:Nat -> Nat -> PV} (h:T = [(n,l)]) (hN:N = 1) (h0:CoP (f 0 0) (.raw (.int .i64 n))) (h1:CoP (f 0 1) (rl l)):CoO (.arr true 2 e N f) (.arr true 2 e T.length (lf tbC T)):=by
 subst h hN;refine ⟨fun h=>h,rfl,rfl,rfl,fun a j ha hj=>?_⟩
 have ha:a = 0:=by
  have:a < 1:=ha;omega
 subst ha
 match j,hj with
 | 0,_=>exact h0
 | 1,_=>exact h1
def ai3 {n:Nat} {l:List St} {i:Nat} {cl:Bool} (hn:n = (l.take i).length) {f:Nat -> Nat -> PV} (hf:∀ a j,f a j = lf St.c l a j):CoP (.sl n 4 cl f) (stl (l.take i)):=by
 refine CoP.sl hn.symm (.inl rfl) (fun h=>by cases h) fun a j ha hj=>CoP.of_eq ?_;rw [hf];show St.c (l.getD a default) j = St.c ((l.take i).getD a default) j;have:a < i:=by rw [hn,bjn] at ha;omega
 rw [bjd,bjd,bkb,if_pos this]
def ap5 (n:Int) (ps:List AS) (h:lvE n ps = 0):a6 bo6 128 [pI n,pP (asl ps)] (a7 [pT n (av (bj n ps)),pI 0]):=by
 have:=bah n ps;rw [ajq h] at this;exact this
def aj7 (n:Int) (ps:List AS) (h:lvE n ps = 0):a6 bo6 130 [pI n,pP (asl ps)] (a7 [pT n (av (bj n ps)),pI 0]):=by
 have:=b2z n ps;rw [ajq h] at this;exact this
def b60 (n:Int) (ps:List AS) (p m:List Fd):a6 bo6 151 [pT n (av (bj n ps)),pP (fdl p),pP (fdl m)] (a7 [pP (stl (lsT n ps p m).1),pT (lsT n ps p m).2.1.1 (lsT n ps p m).2.1.2,pI (lsT n ps p m).2.2]) :=
 b9j FU n (av (bj n ps)) p m (fun h=>alo h) bns
def b09 (n:Int) (ps:List AS) (p m:List Fd):a6 bo6 132 [pT n (av (bj n ps)),pP (fdl p),pP (fdl m)] (a7 [pP (stl (lsT n ps p m).1),pT (lsT n ps p m).2.1.1 (lsT n ps p m).2.1.2,pI (lsT n ps p m).2.2]) :=
 b5r FU n (av (bj n ps)) p m (fun h=>alo h) bns
def avo (n:Int) (l:List Rw) (p m:List Fd) (s:St) (hT:tok n l = true) (hb:be n p m = 0) (h:xg l p m s) (he:du n l p m s = (n,(du n l p m s).2.1,0)):a6 bo6 131 [pT n l,pP (fdl p),pP (fdl m),s.pc] (a7 [pT n (du n l p m s).2.1,pI 0]):=by
 have:=agf n l p m s ((if_pos hT).trans hb) h;rw [he] at this;exact this
def b1x {l lend:List Rw} {sts:List St} {i:Nat} (hi:i < sts.length) (h:TrZ n p m lend l (sts.drop i)):tok n l = true /\ xg l p m (sts.getD i default) /\ du n l p m (sts.getD i default) = (n,(du n l p m (sts.getD i default)).2.1,0):=by
 have e:sts.drop i = sts.getD i default :: sts.drop (i + 1):=by
  rw [bmh hi,bjd,bjc hi];rfl
 rw [e] at h;obtain ⟨h1,h2,l',h3,h4,h5⟩:=h;rw [h3];exact ⟨h1,h2,rfl⟩
end
end
section
open Go.Proofs
def b9y (ps:List AS):a6 bo6 112 [pP (asl ps)] (a7 [pA (orL ps)]):=by
 refine hpx (nt:=17) Tryz.func112 ?_;refine c7 ?_;refine c6 0 rfl fun hn=>?_;refine w_6 ?_;refine bg (ka 6 (ka 7 kn)) km (fun i=>⟨[(3,some (vA (orL (ps.take i)))),(8,some (vI i))],[]⟩) ps.length ⟨⟨⟨_,rfl,(CoR.refl _)⟩,tt⟩,trivial⟩ ?_;rintro i hi;refine w_5 ?_;refine hcd (fun h0=>?_) (fun h0=>?_)
 · refine a0w ?_;exact lpx (i + 1) ⟨⟨⟨_,rfl,(br (by rw [bOr,yl bnl];rfl))⟩,tt⟩,trivial⟩
 obtain rfl:i = ps.length:=by omega
 refine v_6 ?_;exact ⟨cci (by rw [bjk]),trivial⟩
def aax:goodFn bo6 52:=wgx Tryz.func52
def bnu {p:Prop} (h:p:=by (repeat' apply And.intro) <;> first | trivial | exact bje rfl | rfl):p:=h
def a6p (n:Int) (ps:List AS):a6 bo6 52 [pI n,pP (asl ps)] (a7 [pI (lvE n ps)]):=by
 refine hpx (nt:=28) Tryz.func52 ?_;refine ct ?_;refine ah rfl rfl (fun r0=>?_) (fun r0=>?_)
 ·
  have h0:=tz1 r0;(iterate 2 refine k9 (gtf r0) ?_);refine rq rfl rfl rfl rfl rfl ?_ (hp:=r0);refine w_7 ?_
  exact hx8 rfl rfl rfl (⟨cci (ahh bnl).symm,trivial⟩)
 have h0:=tz2 r0;(iterate 2 refine qy ?_ (hg:=(gff r0)));refine w_3 ?_;refine ak _ rfl (fun r1=>?_) (fun r1=>?_)
 · have h1:=tz1 (am r0 r1);refine v_4 ?_;exact ⟨cci (ahh bnl).symm,trivial⟩
 have h1:=tz2 (am r0 r1);have hz0:0 <= n:=by omega
 have hz1:n <= 16:=by omega
 refine w_7 ?_;refine hcd (fun h2=>?_) (fun h2=>?_)
 · refine v_4 ?_;exact ⟨cci (b1y bnl bnl).symm,trivial⟩
 refine w_6 ?_;refine ah rfl rfl (fun r3=>?_) (fun r3=>?_)
 ·
  have h3:=tz1 r3;(iterate 6 refine k9 (gtf r3) ?_);refine rq rfl rfl rfl rfl rfl ?_ (hp:=r3);refine w_8 ?_
  exact hx8 rfl rfl rfl (⟨cci (ahl bnl bnl (by first | exact .inl bnl | exact .inr (fun e=>absurd (show asI (orL ps) = IntKind.wrap .u32 (1 * 2 ^ (min n.toNat 32)) - 1 by rw [tn hz0 hz1,e]) bnm))).symm,trivial⟩)
 have h3:=tz2 r3;refine qy ?_ (hg:=(gff r3));refine qcx (wgx Tryz.func112) (b9y ps) ?_ (hg:=(gff r3));(iterate 2 refine qy ?_ (hg:=(gff r3)));refine rq rfl rfl rfl rfl (gff r3) ?_ (hp:=⟨yr hz0 hz1,x5 hz0 hz1⟩);refine qy ?_ (hg:=(gff r3));refine w_4 ?_;refine ak _ rfl (fun r4=>?_) (fun r4=>?_)
 · have h4:=tz2 (cj (am r3 r4));refine v_4 ?_;exact ⟨cci (ahl bnl bnl (by first | exact .inl bnl | exact .inr (fun e=>absurd (show asI (orL ps) = IntKind.wrap .u32 (1 * 2 ^ (min n.toNat 32)) - 1 by rw [tn hz0 hz1,e]) bnm))).symm,trivial⟩
 have h4:=tz1 (ck (am r3 r4));refine w_6 ?_;refine ⟨.inr rfl, ?_⟩
 exact ⟨_,_,_,_,rfl,bnu,rfl,bnu,⟨cci (b1f bnl bnl (fun e=>by
  rcases e with e | e
  · omega
  exact e (c8.1 ((by assumption:asI (orL ps) = IntKind.wrap .u32 (1 * 2 ^ (min n.toNat 32)) - 1).trans (tn hz0 hz1))))).symm,trivial⟩⟩
def ao0 (n:Int) (ps:List AS) (p m:List Fd):a6 bo6 100 [pI n,pP (asl ps),pP (fdl p),pP (fdl m)] (a7 [pT (lcR n ps p m).1.1 (lcR n ps p m).1.2,pP (stl (lcR n ps p m).2.1),pT (lcR n ps p m).2.2.1.1 (lcR n ps p m).2.2.1.2,pI (lcR n ps p m).2.2.2]):=by
 refine hpx (nt:=58) Tryz.func100 ?_;refine sx7 ?_;refine m9 0 ?_;refine qy ?_;refine m9 1 ?_;refine w_7 ?_;refine qcx aax (a6p n ps) ?_;refine w_7 ?_;refine hcn (fun h0=>?_) (fun h0=>?_)
 · refine c7 ?_;refine hrr ?_;have he:=bei (p:=p) (m:=m) (by assumption:¬ lvE n ps = 0);exact f9 rfl rfl (by rw [he];exact ⟨CoC.agg ⟨CoP.refl _,b9,trivial⟩,CoC.one (CoP.sl rfl (.inr rfl) (fun _=>rfl) (fun i j hi _=>absurd hi (bjh i))),CoC.agg ⟨CoP.refl _,b9,trivial⟩,CoC.refl _,trivial⟩)
 have hv:lvE n ps = 0:=by assumption
 refine w_7 ?_;refine qcx wu (sv n p m) ?_;refine w_7 ?_;refine hcn (fun h1=>?_) (fun h1=>?_)
 · refine c7 ?_;refine hrr ?_;have he:=bfw hv (by assumption:¬ be n p m = 0);exact f9 rfl rfl (by rw [he];exact ⟨CoC.agg ⟨CoP.refl _,b9,trivial⟩,CoC.one (CoP.sl rfl (.inr rfl) (fun _=>rfl) (fun i j hi _=>absurd hi (bjh i))),CoC.agg ⟨CoP.refl _,b9,trivial⟩,CoC.refl _,trivial⟩)
 have hb:be n p m = 0:=by assumption
 refine w_5 ?_;refine qcx (wgx Tryz.func128) (ap5 n ps hv) ?_;refine w_3 ?_;refine m9 2 ?_;refine sh ?_;refine qcx (wgx Tryz.func151) (b60 n ps p m) ?_;refine w_4 ?_;refine m9 3 ?_;refine sh ?_;refine hrr ?_;have he:=ar7 hv hb;exact f9 rfl rfl (by rw [he];exact CoL.refl _)
def aef:goodFn bo6 102:=wgx Tryz.func102
def aff (n:Int) (h0:0 <= n) (h1:n <= 16):a6 bo6 102 [pI n] (a7 [pZ (d7 n)]):=by
 refine hpx (nt:=18) Tryz.func102 ?_;refine w_7 ?_;refine m9 0 ?_;refine c7 ?_;refine bg (ka 3 (ka 8 kn)) km (fun k=>⟨[(9,some (vI k))],[(0,some (.arr true 1 3 n.toNat (lf zC (stT n 0 (jr 32) k))))]⟩) n.toNat ⟨tt,⟨⟨_,rfl,(ajo rfl (fun _=>rfl))⟩,trivial⟩⟩ ?_;rintro k hk;refine w_5 ?_;refine hcd (fun h0=>?_) (fun h0=>?_)
 · refine a0w ?_;exact lpx (k + 1) ⟨tt,⟨⟨_,rfl,(b98 (ax0 bnl) rfl bnl)⟩,trivial⟩⟩
 refine w_2 ?_;refine aq 3 rfl rfl rfl ?_;refine v_4 ?_;exact ⟨ax8 h1 bnl,trivial⟩
def bhz (n:Int) (ps:List AS) (p m:List Fd):a6 bo6 45 [pI n,pP (asl ps),pP (fdl p),pP (fdl m)] (a7 [pB (lsB n ps p m),pI (lsC n ps p m)]):=by
 refine hpx (nt:=33) Tryz.func45 ?_;refine ct ?_;refine qcx (wgx Tryz.func100) (ao0 n ps p m) ?_;refine w_5 ?_;refine m9 0 ?_;refine m9 1 ?_;refine c7 ?_;refine ah rfl rfl (fun r0=>?_) (fun r0=>?_)
 ·
  have h0:=tz1 r0;have hz:=bh8 (n:=n) (ps:=ps) (p:=p) (m:=m) rfl h0;(iterate 2 refine qy ?_ (hg:=(gtt r0)));refine qcx aef (aff n hz.1 bnl) ?_ (hg:=(gtt r0));refine qcx a7g (ahf (lcR n ps p m).2.2.1.1 (lcR n ps p m).2.2.1.2 (d7 n)) ?_ (hg:=(gtt r0))
  refine v_6 ?_;exact ⟨ccb (by first | exact baw | exact b00 (n:=n) (ps:=ps) (p:=p) (m:=m) bnm | exact (b0q (n:=n) (ps:=ps) (p:=p) (m:=m) bnm).symm),cci oh,trivial⟩
 have h0:=tz2 r0;(iterate 4 refine k9 (gft r0) ?_);refine rq rfl rfl rfl rfl rfl ?_ (hp:=r0);refine w_5 ?_
 exact hx8 rfl rfl rfl (⟨ccb (by first | exact baw | exact b00 (n:=n) (ps:=ps) (p:=p) (m:=m) bnm | exact (b0q (n:=n) (ps:=ps) (p:=p) (m:=m) bnm).symm),cci oh,trivial⟩)
def akc:goodFn bo6 62:=wgx Tryz.func62
def a98 (n:Int) (ps:List AS):a6 bo6 62 [pI n,pP (asl ps)] (a7 [pI (lvE n ps)]):=by
 refine hpx (nt:=37) Tryz.func62 ?_;refine c7 ?_;refine ah rfl rfl (fun r0=>?_) (fun r0=>?_)
 ·
  have h0:=tz1 r0;(iterate 2 refine k9 (gtf r0) ?_);refine rq rfl rfl rfl rfl rfl ?_ (hp:=r0);refine w_6 ?_
  exact hx8 rfl rfl rfl (⟨cci (ahh bnl).symm,trivial⟩)
 have h0:=tz2 r0;(iterate 2 refine qy ?_ (hg:=(gff r0)));refine w_2 ?_;refine ak _ rfl (fun r1=>?_) (fun r1=>?_)
 · have h1:=tz1 (am r0 r1);refine v_4 ?_;exact ⟨cci (ahh bnl).symm,trivial⟩
 have h1:=tz2 (am r0 r1);refine w_8 ?_;refine hcd (fun h2=>?_) (fun h2=>?_)
 · refine v_4 ?_;exact ⟨cci (b1y bnl bnl).symm,trivial⟩
 refine ct ?_;refine bg (ka 0 (ka 1 kn)) km (fun i=>⟨[(5,some (vA (orL (ps.take i)))),(6,some (vI i))],[]⟩) ps.length ⟨⟨⟨_,rfl,(CoR.refl _)⟩,tt⟩,trivial⟩ ?_;rintro i hi;refine w_8 ?_;refine hcd (fun h3=>?_) (fun h3=>?_)
 · refine zc ?_;exact lpx (i + 1) ⟨⟨⟨_,rfl,(br (by rw [bOr,yl bnl];rfl))⟩,tt⟩,trivial⟩
 obtain rfl:i = ps.length:=by omega
 rw [show ps.take ps.length = ps from bjk];refine w_8 ?_;refine ah rfl rfl (fun r4=>?_) (fun r4=>?_)
 ·
  have h4:=tz1 r4;(iterate 4 refine k9 (gtf r4) ?_);refine rq rfl rfl rfl rfl rfl ?_ (hp:=r4);refine w_6 ?_
  exact hx8 rfl rfl rfl (⟨cci (ahl bnl bnl (by first | exact .inl bnl | exact .inr (fun e=>absurd (show asI (orL ps) = asI (a8 n) by rw [e]) bnm))).symm,trivial⟩)
 have h4:=tz2 r4;(iterate 2 refine qy ?_ (hg:=(gff r4)));refine qcx ov (oj n) ?_ (hg:=(gff r4));refine qy ?_ (hg:=(gff r4));refine w_2 ?_;refine ak _ rfl (fun r5=>?_) (fun r5=>?_)
 · have h5:=tz2 (cj (am r4 r5));refine v_4 ?_;exact ⟨cci (ahl bnl bnl (by first | exact .inl bnl | exact .inr (fun e=>absurd (show asI (orL ps) = asI (a8 n) by rw [e]) bnm))).symm,trivial⟩
 have h5:=tz1 (ck (am r4 r5));refine w_6 ?_;refine ⟨.inr rfl, ?_⟩
 exact ⟨_,_,_,_,rfl,bnu,rfl,bnu,⟨cci (b1f bnl bnl (fun e=>by
  rcases e with e | e
  · omega
  exact e (c8.1 bnm))).symm,trivial⟩⟩
def b71 (n:Int) (ps:List AS) (p m:List Fd):a6 bo6 68 [pI n,pP (asl ps),pP (fdl p),pP (fdl m)] (a7 [pP (stl (rcR n ps p m).1),pP (psl 2 tbC (rcR n ps p m).2.1),pI (rcR n ps p m).2.2]):=by
 refine hpx (nt:=77) Tryz.func68 ?_;refine ct ?_;refine qcx akc (a98 n ps) ?_;refine w_7 ?_;refine hcn (fun h0=>?_) (fun h0=>?_)
 · refine w_7 ?_;refine hrr ?_;have he:=asm (n:=n) (ps:=ps) (p:=p) (m:=m) (bdl bnm).1 bnm;exact f9 rfl rfl (by rw [he];exact ⟨CoC.one (CoP.sl rfl (.inr rfl) (fun _=>rfl) (fun i j hi _=>absurd hi (bjh i))),CoC.one (CoP.sl rfl (.inr rfl) (fun _=>rfl) (fun i j hi _=>absurd hi (bjh i))),CoC.refl _,trivial⟩)
 have hv:lvE n ps = 0:=by assumption
 refine w_7 ?_;refine qcx a2m (vo n p m) ?_;refine w_7 ?_;refine hcn (fun h1=>?_) (fun h1=>?_)
 · refine w_7 ?_;refine hrr ?_;have he:=asm (n:=n) (ps:=ps) (p:=p) (m:=m) (be2 hv bnm).1 bnm;exact f9 rfl rfl (by rw [he];exact ⟨CoC.one (CoP.sl rfl (.inr rfl) (fun _=>rfl) (fun i j hi _=>absurd hi (bjh i))),CoC.one (CoP.sl rfl (.inr rfl) (fun _=>rfl) (fun i j hi _=>absurd hi (bjh i))),CoC.refl _,trivial⟩)
 have hb:be n p m = 0:=by assumption
 refine w_5 ?_;refine qcx (wgx Tryz.func130) (aj7 n ps hv) ?_;refine w_3 ?_;refine m9 0 ?_;refine sh ?_;refine qcx (wgx Tryz.func132) (b09 n ps p m) ?_;refine w_4 ?_;refine m9 1 ?_;refine c7 ?_;refine hcn (fun h2=>?_) (fun h2=>?_)
 · refine w_7 ?_;refine hrr ?_;have he:=asm (n:=n) (ps:=ps) (p:=p) (m:=m) (ahk hv hb) bnm;exact f9 rfl rfl (by rw [he];exact ⟨CoC.one (CoP.sl rfl (.inr rfl) (fun _=>rfl) (fun i j hi _=>absurd hi (bjh i))),CoC.one (CoP.sl rfl (.inr rfl) (fun _=>rfl) (fun i j hi _=>absurd hi (bjh i))),CoC.refl _,trivial⟩)
 have hc:(lsT n ps p m).2.2 = 0:=by assumption
 have htr:=axd hv hb hc;have hfew:(lsT n ps p m).1.length <= 1300000:=adt (p:=p) (m:=m) hv hb;have hls:lsC n ps p m = 0:=(ahk hv hb).trans hc;refine w_4 ?_;refine m9 2 ?_;refine w_8 ?_;refine bg (ka 2 (ka 3 (ka 13 (ka 15 kn)))) km (fun i=>⟨[(17,some (.v (.one (.ref 2 ((jw n p m (av (bj n ps)) (lsT n ps p m).1).take (i + 1)).length)))),(18,some (vI i))],[(0,some (.box [.p (.raw (.int .i64 n)), .p (rl ((trL n p m (av (bj n ps)) (lsT n ps p m).1).getD i default))])),(2,some (.arr true 2 111 ((jw n p m (av (bj n ps)) (lsT n ps p m).1).take (i + 1)).length (lf tbC ((jw n p m (av (bj n ps)) (lsT n ps p m).1).take (i + 1)))))]⟩) ((lsT n ps p m).1.length) ⟨⟨⟨_,rfl,(kj (by rw [am1];rfl))⟩,tt⟩,⟨⟨_,rfl,(by rw [apr];exact CoO.refl _)⟩,⟨_,rfl,(b3s am1 rfl (CoP.refl _) (CoP.refl _))⟩,trivial⟩⟩ ?_;rintro i hi;have hlen:((jw n p m (av (bj n ps)) (lsT n ps p m).1).take (i + 1)).length <= i + 1:=by rw [bjn];omega
 refine w_8 ?_;refine hcd (fun h3=>?_) (fun h3=>?_)
 · obtain ⟨hx1,hx2,hx3⟩:=b1x bnl (as6 htr (i:=i) bnl);refine fj ?_;refine qcx aex (avo n ((trL n p m (av (bj n ps)) (lsT n ps p m).1).getD i default) p m ((lsT n ps p m).1.getD i default) hx1 hb hx2 hx3) ?_;refine w_9 ?_;refine m9 3 ?_;refine r9 4 true ?_;refine w_7 ?_;exact lpx (i + 1) ⟨⟨⟨_,rfl,(bv (afk bnl))⟩,tt⟩,⟨⟨_,rfl,(by rw [a85 bnl];exact CoO.refl _)⟩,⟨_,rfl,(p9 (afk bnl) (CoP.refl _) (CoP.refl _))⟩,trivial⟩⟩
 obtain rfl:i = (lsT n ps p m).1.length:=by omega
 refine w_2 ?_;refine aq 17 rfl rfl rfl ?_;refine w_7 ?_;refine hrr ?_;have he:=ac4 hls;exact f9 rfl rfl (by rw [he];exact ⟨CoC.refl _,(by rw [List.take_of_length_le (by rw [zp];omega)];exact CoC.refl _),CoC.refl _,trivial⟩)
def b35 (n:Int) (ps:List AS) (p m:List Fd):a6 bo6 28 [pI n,pP (asl ps),pP (fdl p),pP (fdl m)] (a7 [pP (stl (prS n ps p m)),pI (prC n ps p m)]):=by
 refine hpx (nt:=42) Tryz.func28 ?_;refine ct ?_;refine qcx (wgx Tryz.func68) (b71 n ps p m) ?_;refine nx ?_;refine hcn (fun h0=>?_) (fun h0=>?_)
 ·
  refine w_6 ?_;refine hrr ?_;have hn:¬ (rcR n ps p m).2.2 = 0:=by assumption
  have e1:prS n ps p m = []:=if_neg hn;have e2:prC n ps p m = (rcR n ps p m).2.2:=if_neg hn;exact f9 rfl rfl (by rw [e1,e2];exact ⟨CoC.one (CoP.sl rfl (.inr rfl) (fun _=>rfl) (fun i j hi _=>absurd hi (bjh i))),CoC.refl _,trivial⟩)
 have hc:(rcR n ps p m).2.2 = 0:=by assumption
 obtain ⟨hz0,hz1,hfew0⟩:=bh7 hc;have hfew:(rcR n ps p m).1.length <= 1300000:=hfew0;have hln:=bad hc;refine w_7 ?_;refine ae (ι:=Nat) (ka 0 (ka 10 (ka 11 kn))) km (fun i=>⟨[(13,some (vI i))],[]⟩) (fun i=>i <= (rcR n ps p m).2.1.length /\ (∀ j,j < i -> jt n ((rcR n ps p m).2.1.getD j default).2 = false)) (fun i=>(rcR n ps p m).2.1.length - i) (0) (⟨bji _,fun j hj=>absurd hj (bjh j)⟩) kk ?_;rintro i ⟨hi,hI⟩;refine w_8 ?_;refine hcd (fun h1=>?_) (fun h1=>?_)
 ·
  refine c7 ?_;refine qcx (wgx Tryz.func70) (aw8 n hz1) ?_;refine qcx ab4 (ad4 ((rcR n ps p m).2.1.getD i default).1 ((rcR n ps p m).2.1.getD i default).2 (d7 n)) ?_;refine w_2 ?_;refine hcb (fun h2=>?_) (fun h2=>?_)
  ·
   have hx:prX n ps p m = (i:Int):=re (p:=(fun a:Int × List Rw=>jt n a.2)) (i:=i) bnl hI bnm;refine w_8 ?_;refine hrr ?_
   have e1:prS n ps p m = (rcR n ps p m).1.take i:=by
    unfold prS;rw [if_pos hc,if_neg bnl,hx];rfl
   have e2:prC n ps p m = 0:=by
    unfold prC;rw [if_pos hc,if_neg bnl]
   exact f9 rfl rfl (by rw [e1,e2];exact ⟨CoC.one (ai3 (by rw [bjn];dsimp only [dx,b8];omega) (fun a j=>by first | rfl | (simp;rfl))),CoC.refl _,trivial⟩)
  refine w_6 ?_;refine lpz (i + 1) kk ?_;refine ⟨by omega,fun j hj=>?_⟩;by_cases e:j = i
  · rw [e];assumption
  exact hI j bnl
 have hx:prX n ps p m < 0:=by
  have:prX n ps p m = -1:=qx (p:=(fun a:Int × List Rw=>jt n a.2)) fun j hj=>hI j bnl;omega
 refine w_6 ?_;refine hrr ?_
 have e1:prS n ps p m = []:=by
  unfold prS;rw [if_pos hc,if_pos hx]
 have e2:prC n ps p m = 11:=by
  unfold prC;rw [if_pos hc,if_pos hx]
 exact f9 rfl rfl (by rw [e1,e2];exact ⟨CoC.one (CoP.sl rfl (.inr rfl) (fun _=>rfl) (fun i j hi _=>absurd hi (bjh i))),CoC.refl _,trivial⟩)
end
section
inductive Lf (l:List Fd):AS -> AS -> Prop
 | leaf {s:AS}:dy l s = false -> Lf l s s
 | left {s q:AS}:dy l s = true -> Lf l (spA l s) q -> Lf l s q
 | right {s q:AS}:dy l s = true -> Lf l (spB l s) q -> Lf l s q
def bbw (l:List Fd):Nat -> AS -> List AS
 | 0,s=>[s]
 | k + 1,s=>if dy l s = true then bbw l k (spA l s) ++ bbw l k (spB l s) else [s]
end
section
open Go.Proofs
def u8A (b:BitVec 8):AS:=b.setWidth 32
abbrev u8C:BitVec 8 -> Nat -> PV:=fun b _=>.raw (.int .u8 (b.toNat:Int))
end
section
structure Rcp where
 n:BitVec 8
 f:List Dp
 m:List Dp
 p:List (BitVec 8)
deriving Inhabited
def Rcp.num (d:Rcp) (k:Nat):Int:=1 + ((d.n.toNat % k:Nat):Int)
abbrev Rcp.pc (d:Rcp):PC:=.agg [.raw (.int .u8 (d.n.toNat:Int)),dpl d.f,dpl d.m,psl 1 u8C d.p]
def u8S (n:Int) (b:BitVec 8):AS:=b.setWidth 32 &&& a8 n
def as7 {a b c:Nat}:(bif bif decide ((a:Int) <= 4) then decide ((b:Int) <= 4) else false then decide ((c:Int) <= 3) else false) = decide (a <= 4 /\ b <= 4 /\ c <= 3):=by
 rw [blh,decide_eq_true_iff];by_cases h1:(a:Int) <= 4
 · by_cases h2:(b:Int) <= 4
   · rw [decide_eq_true h1,decide_eq_true h2,cond_true,cond_true,decide_eq_true_iff];omega
   rw [decide_eq_true h1,decide_eq_false h2,cond_true,cond_false];exact ⟨(fun h=>by cases h),(fun h=>by omega)⟩
 rw [decide_eq_false h1,cond_false,cond_false];exact ⟨(fun h=>by cases h),(fun h=>by omega)⟩
end
section
open Go.Proofs
def bg1 (d:Rcp) (hf:d.f.length <= 16777216) (hm:d.m.length <= 16777216) (hp:d.p.length <= 16777216):a6 bo6 29 [d.pc,pI 4] (a7 [pI (d.num 4),pP (fdl (d.f.map (Dp.fd (d.num 4)))),pP (fdl (d.m.map (Dp.fd (d.num 4)))),pP (asl (d.p.map (u8S (d.num 4)))),pB (decide (d.f.length <= 4 /\ d.m.length <= 4 /\ d.p.length <= 3))]):=by
 refine hpx (nt:=118) Tryz.func29 ?_;refine sx7 ?_;refine m9 0 ?_;refine a0w ?_;refine qcx ov (oj (d.num 4)) ?_;refine fj ?_;refine cb 11 900 true 2 48 (lf Fd.c []) bns rfl (CoP.sl rfl (.inr rfl) (fun h=>h) (fun i j hi _=>absurd hi (bjh i))) (.inr rfl) rfl ?_;refine bg (ka 2 (ka 9 (ka 10 kn))) (kb 0 km) (fun i=>⟨[(11,some (.v (.one (.ref 900 ((d.f.take i).map (Dp.fd (d.num 4))).length)))),(12,some (vI i))],[(900,some (.arr true 2 48 ((d.f.take i).map (Dp.fd (d.num 4))).length (lf Fd.c ((d.f.take i).map (Dp.fd (d.num 4))))))]⟩) d.f.length kk ?_;rintro i hi;have hlen:((d.f.take i).map (Dp.fd (d.num 4))).length <= i:=by rw [bk0,bjn];omega
 refine w_9 ?_;refine hcd (fun h0=>?_) (fun h0=>?_)
 · refine bd7 ?_;refine m9 1 ?_;refine r9 2 true ?_;refine w_8 ?_;exact lpx (i + 1) ⟨⟨⟨_,rfl,(bv (ui bnl))⟩,tt⟩,⟨⟨_,rfl,(p9 (ui bnl) (CoP.of_eq (congrArg (fun z=>PV.raw (.int .u32 z)) (a5p _ _))) (CoP.of_eq (congrArg (fun z=>PV.raw (.int .u32 z)) (a5p _ _))))⟩,uu⟩⟩
 obtain rfl:i = d.f.length:=by omega
 refine w_2 ?_;refine aq 11 rfl rfl rfl ?_;refine w_9 ?_;refine cb 13 901 true 2 49 (lf Fd.c []) bns rfl (CoP.sl rfl (.inr rfl) (fun h=>h) (fun i j hi _=>absurd hi (bjh i))) (.inr rfl) rfl ?_;refine bg (ka 2 (ka 9 (ka 10 (ka 11 kn)))) (kb 0 km) (fun i=>⟨[(13,some (.v (.one (.ref 901 ((d.m.take i).map (Dp.fd (d.num 4))).length)))),(14,some (vI i))],[(901,some (.arr true 2 49 ((d.m.take i).map (Dp.fd (d.num 4))).length (lf Fd.c ((d.m.take i).map (Dp.fd (d.num 4))))))]⟩) d.m.length kk ?_;rintro i hi;have hlen:((d.m.take i).map (Dp.fd (d.num 4))).length <= i:=by rw [bk0,bjn];omega
 refine w_9 ?_;refine hcd (fun h1=>?_) (fun h1=>?_)
 · refine bd7 ?_;refine m9 3 ?_;refine r9 4 true ?_;refine w_8 ?_;exact lpx (i + 1) ⟨⟨⟨_,rfl,(bv (ui bnl))⟩,tt⟩,⟨⟨_,rfl,(p9 (ui bnl) (CoP.of_eq (congrArg (fun z=>PV.raw (.int .u32 z)) (a5p _ _))) (CoP.of_eq (congrArg (fun z=>PV.raw (.int .u32 z)) (a5p _ _))))⟩,uu⟩⟩
 obtain rfl:i = d.m.length:=by omega
 refine w_2 ?_;refine aq 13 rfl rfl rfl ?_;refine w_9 ?_;refine cb 15 902 true 1 46 (lf sC []) bns rfl (CoP.sl rfl (.inr rfl) (fun h=>h) (fun i j hi _=>absurd hi (bjh i))) (.inr rfl) rfl ?_;refine bg (ka 2 (ka 9 (ka 10 (ka 11 (ka 13 kn))))) (kb 0 km) (fun i=>⟨[(15,some (.v (.one (.ref 902 ((d.p.take i).map (u8S (d.num 4))).length)))),(16,some (vI i))],[(902,some (.arr true 1 46 ((d.p.take i).map (u8S (d.num 4))).length (lf sC ((d.p.take i).map (u8S (d.num 4))))))]⟩) d.p.length kk ?_;rintro i hi;have hlen:((d.p.take i).map (u8S (d.num 4))).length <= i:=by rw [bk0,bjn];omega
 refine w_9 ?_;refine hcd (fun h2=>?_) (fun h2=>?_)
 · refine j9 ?_;refine m9 5 ?_;refine r9 6 true ?_;refine w_7 ?_;exact lpx (i + 1) ⟨⟨⟨_,rfl,(bv (ui bnl))⟩,tt⟩,⟨⟨_,rfl,(bt (ui bnl) (CoP.of_eq (congrArg (fun z=>PV.raw (.int .u32 z)) (a5p _ _))))⟩,uu⟩⟩
 obtain rfl:i = d.p.length:=by omega
 refine w_2 ?_;refine aq 15 rfl rfl rfl ?_;refine w_9 ?_;refine ah rfl rfl (fun r3=>?_) (fun r3=>?_)
 ·
  have h3:=tz1 r3;(iterate 3 refine qy ?_ (hg:=(gtt r3)));refine w_2 ?_;refine ah rfl rfl (fun r4=>?_) (fun r4=>?_)
  ·
   have h4:=tz1 (bn r3 r4);(iterate 3 refine qy ?_ (hg:=(gtt r4)));refine w_7 ?_
   exact hx8 rfl rfl rfl (⟨CoC.refl _,(by rw [bjk];exact CoC.refl _),(by rw [bjk];exact CoC.refl _),(by rw [bjk];exact CoC.refl _),ccb (by first | (simp only [bk0,bjk];exact as7) | exact (decide_eq_false bnl).symm),trivial⟩)
  have h4:=tz2 (bn r3 r4);(iterate 3 refine k9 (gft r4) ?_);refine rq rfl rfl rfl rfl rfl ?_ (hp:=r4);refine w_6 ?_
  exact hx8 rfl rfl rfl (⟨CoC.refl _,(by rw [bjk];exact CoC.refl _),(by rw [bjk];exact CoC.refl _),(by rw [bjk];exact CoC.refl _),ccb (by first | (simp only [bk0,bjk];exact as7) | exact (decide_eq_false bnl).symm),trivial⟩)
 have h3:=tz2 r3;(iterate 3 refine k9 (gft r3) ?_);refine rq rfl rfl rfl rfl rfl ?_ (hp:=r3);refine qy ?_;(iterate 3 refine k9 rfl ?_);refine w_7 ?_
 exact hx8 rfl rfl rfl (⟨CoC.refl _,(by rw [bjk];exact CoC.refl _),(by rw [bjk];exact CoC.refl _),(by rw [bjk];exact CoC.refl _),ccb (by first | (simp only [bk0,bjk];exact as7) | exact (decide_eq_false bnl).symm),trivial⟩)
end
end Go.Hx

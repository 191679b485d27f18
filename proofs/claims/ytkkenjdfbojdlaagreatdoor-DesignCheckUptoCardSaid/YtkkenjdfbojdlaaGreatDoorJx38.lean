/- A part of the proof: Dw6 Dw4 Ds6 Dw7 Dw10 Dw12 Ds14. -/
import Derived.Test.YtkkenjdfbojdlaaGreatDoorJx37
set_option linter.all false
set_option maxRecDepth 100000
set_option maxHeartbeats 1000000
namespace Go.Hx
section
open Go.Proofs
def b8d (n:Int) (l m:List Fd) (p:AS):a6 bo6 104 [.agg [.raw (.int .i64 n),fdl l,fdl m],pA p] (a7 [pB (thB n l p)]):=by
 refine hpx (nt:=21) Tryz.func104 ?_;refine sx7 ?_;refine m9 0 ?_;refine w_9 ?_;refine qcx (wgx Tryz.func156) (b64 n l p) ?_;refine c7 ?_;refine ah rfl rfl (fun r0=>?_) (fun r0=>?_)
 ·
  have h0:=r0;(iterate 2 refine qy ?_ (hg:=(gtt r0)));refine w_3 ?_
  exact hx8 rfl rfl rfl (⟨ccb (by unfold thB;first | rfl | simp_all),trivial⟩)
 have h0:=r0;(iterate 2 refine k9 (gft r0) ?_);refine rq rfl rfl rfl rfl rfl ?_ (hp:=r0);refine w_2 ?_
 exact hx8 rfl rfl rfl (⟨ccb (by unfold thB;first | rfl | simp_all),trivial⟩)
def b6v (n:Int) (l m:List Fd) (p:AS):a6 bo6 105 [.agg [.raw (.int .i64 n),fdl l,fdl m],pA p] (a7 [pB (byB l p)]):=by
 refine hpx (nt:=22) Tryz.func105 ?_;refine sx7 ?_;refine m9 0 ?_;refine w_7 ?_;refine qcx (wgx Tryz.func157) (bgc l p) ?_;refine w_4 ?_;refine m9 1 ?_;refine w_9 ?_;refine ah rfl rfl (fun r0=>?_) (fun r0=>?_)
 ·
  have h0:=cj r0;(iterate 2 refine qy ?_ (hg:=(gtt r0)));refine w_3 ?_
  exact hx8 rfl rfl rfl (⟨ccb (by unfold byB;first | rfl | simp_all),trivial⟩)
 have h0:=ck r0;(iterate 2 refine k9 (gft r0) ?_);refine rq rfl rfl rfl rfl rfl ?_ (hp:=r0);refine w_2 ?_
 exact hx8 rfl rfl rfl (⟨ccb (by unfold byB;first | rfl | simp_all),trivial⟩)
def az7 (n:Int) (l m:List Fd) (p:AS):a6 bo6 106 [.agg [.raw (.int .i64 n),fdl l,fdl m],pA p] (a7 [pB (foB n l m p)]):=by
 refine hpx (nt:=26) Tryz.func106 ?_;refine sx7 ?_;refine m9 0 ?_;refine ct ?_;refine qcx (wgx Tryz.func80) (beu n l m p) ?_;refine w_4 ?_;refine m9 1 ?_;refine w_9 ?_;refine ah rfl rfl (fun r0=>?_) (fun r0=>?_)
 ·
  have h0:=cj r0;(iterate 2 refine qy ?_ (hg:=(gtt r0)));refine w_3 ?_
  exact hx8 rfl rfl rfl (⟨ccb (by unfold foB;first | rfl | simp_all),trivial⟩)
 have h0:=ck r0;(iterate 2 refine k9 (gft r0) ?_);refine rq rfl rfl rfl rfl rfl ?_ (hp:=r0);refine w_2 ?_
 exact hx8 rfl rfl rfl (⟨ccb (by unfold foB;first | rfl | simp_all),trivial⟩)
def b3u (p:AS) (g k:Nat) (fr:Nat -> PV) (V:AS -> Bool) (hg:goodFn bo6 g) (hV:∀ p,a6 bo6 g [.agg (pvN fr k 0),pA p] (a7 [pB (V p)])):a6 bo6 155 [pA p,pP (bx (.bnd g k fr))] (a7 [pB (!V p)]):=by
 refine hpx (nt:=8) Tryz.func155 ?_;refine w_8 ?_;refine rc rfl rfl rfl rfl rfl rfl hg (hV p) (CoL.refl _) rfl rfl ?_;refine v_3 ?_;exact CoL.refl _
def b3b {ps:List AS} {V:AS -> Bool}:(!ps.any fun p=>!V p) = ps.all V:=by rw [<- List.not_all_eq_any_not,Bool.not_not]
def adp:goodFn bo6 103:=wgx Tryz.func103
def ajx (ps:List AS) (g k:Nat) (fr:Nat -> PV) (V:AS -> Bool) (hg:goodFn bo6 g) (hV:∀ p,a6 bo6 g [.agg (pvN fr k 0),pA p] (a7 [pB (V p)])):a6 bo6 103 [pP (asl ps),pP (.bnd g k fr)] (a7 [pB (ps.all V)]):=by
 refine hpx (nt:=9) Tryz.func103 ?_;refine sx7 ?_;refine m9 0 ?_;refine w_3 ?_;refine cw 3 rfl rfl rfl ?_;refine w_3 ?_;refine qcx ae7 (asr ps 155 1 (fun i=>[bx (.bnd g k fr)].getD i .any) (fun p=>!V p) (wgx Tryz.func155) (fun p=>b3u p g k fr V hg hV)) ?_;refine v_3 ?_;exact ⟨ccb b3b,trivial⟩
def b1g (n:Int) (l m:List Fd) (ps:List AS) (hl:l.length <= 16777216):a6 bo6 46 [.agg [.raw (.int .i64 n),fdl l,fdl m],pP (asl ps)] (a7 [pI (tl n l m ps)]):=by
 refine hpx (nt:=31) Tryz.func46 ?_;refine sx7 ?_;refine m9 0 ?_;refine w_6 ?_;refine kx (ka 1 (ka 2 kn)) (kb 0 km) ⟨[(5,some (vI (j4 (o3 l ps) false false false)))],[]⟩ ?_ ?_
 ·
  refine w_5 ?_;refine qcx aks (az2 l ps hl) ?_;refine c5 ?_;refine hcb (fun h0=>?_) (fun h0=>?_)
  · have hA:=h0;refine w_5 ?_;exact ⟨⟨⟨_,rfl,(coi (by first | exact atp hA | (rw [hA];done) | (rw [hA];rfl)))⟩,tt⟩,uu⟩
  have hA:=h0;refine d6 ?_;exact ⟨⟨⟨_,rfl,(coi (by first | exact atp hA | (rw [hA];done) | (rw [hA];rfl)))⟩,tt⟩,uu⟩
 refine kx (ka 1 (ka 2 kn)) (kb 0 km) ⟨[(5,some (vI (j4 (o3 l ps) (ps.all (thB n l)) false false)))],[]⟩ ?_ ?_
 ·
  refine w_5 ?_;refine qcx adp (ajx ps 104 3 (fun i=>([PV.raw (.int .i64 n),fdl l,fdl m]:List PV).getD i .any) (thB n l) (wgx Tryz.func104) (fun p=>b8d n l m p)) ?_;refine c5 ?_;refine hcb (fun h1=>?_) (fun h1=>?_)
  · have hB:=h1;refine w_5 ?_;exact ⟨⟨⟨_,rfl,(coi (by first | exact awk hB | (rw [hB];done) | (rw [hB];rfl)))⟩,tt⟩,uu⟩
  have hB:=h1;refine d6 ?_;exact ⟨⟨⟨_,rfl,(coi (by first | exact awk hB | (rw [hB];done) | (rw [hB];rfl)))⟩,tt⟩,uu⟩
 refine kx (ka 1 (ka 2 kn)) (kb 0 km) ⟨[(5,some (vI (j4 (o3 l ps) (ps.all (thB n l)) (ps.all (byB l)) false)))],[]⟩ ?_ ?_
 ·
  refine w_5 ?_;refine qcx adp (ajx ps 105 3 (fun i=>([PV.raw (.int .i64 n),fdl l,fdl m]:List PV).getD i .any) (byB l) (wgx Tryz.func105) (fun p=>b6v n l m p)) ?_;refine c5 ?_;refine hcb (fun h2=>?_) (fun h2=>?_)
  · have hC:=h2;refine w_5 ?_;exact ⟨⟨⟨_,rfl,(coi (by first | exact aut hC | (rw [hC];done) | (rw [hC];rfl)))⟩,tt⟩,uu⟩
  have hC:=h2;refine d6 ?_;exact ⟨⟨⟨_,rfl,(coi (by first | exact aut hC | (rw [hC];done) | (rw [hC];rfl)))⟩,tt⟩,uu⟩
 refine kx kn km ⟨[(5,some (vI (j4 (o3 l ps) (ps.all (thB n l)) (ps.all (byB l)) (ps.all (foB n l m)))))],[]⟩ ?_ ?_
 ·
  refine w_5 ?_;refine qcx adp (ajx ps 106 3 (fun i=>([PV.raw (.int .i64 n),fdl l,fdl m]:List PV).getD i .any) (foB n l m) (wgx Tryz.func106) (fun p=>az7 n l m p)) ?_;refine c5 ?_;refine hcb (fun h3=>?_) (fun h3=>?_)
  · have hD:=h3;refine w_5 ?_;exact ⟨⟨⟨_,rfl,(coi (by first | exact awe hD | (rw [hD];done) | (rw [hD];rfl)))⟩,trivial⟩,trivial⟩
  have hD:=h3;refine d6 ?_;exact ⟨⟨⟨_,rfl,(coi (by first | exact awe hD | (rw [hD];done) | (rw [hD];rfl)))⟩,trivial⟩,trivial⟩
 refine v_5 ?_;exact CoL.refl _
def b8m (n:Int) (l m:List Fd) (ps:List AS):a6 bo6 18 [pI n,pP (fdl l),pP (fdl m),pP (asl ps)] (a7 [pI (x9 n l m ps),pI (lsC n ps l m)]):=by
 refine hpx (nt:=34) Tryz.func18 ?_;refine ct ?_;refine qcx (wgx Tryz.func45) (bhz n ps l m) ?_;refine fj ?_;refine hcn (fun h0=>?_) (fun h0=>?_)
 · have hr:=bev (l:=l) (m:=m) (ps:=ps) (n:=n) h0;refine v_6 ?_;exact ⟨cci hr.symm,CoC.refl _,trivial⟩
 have hls:lsC n ps l m = 0:=by assumption
 have hl:l.length <= 16777216:=by have:=(ji (a2k hls).2).2.2.1;omega
 refine w_8 ?_;refine qcx (wgx Tryz.func46) (b1g n l m ps hl) ?_;refine w_2 ?_;refine kx kn km ⟨[(12,some (vI (x9 n l m ps)))],[]⟩ ?_ ?_
 ·
  refine w_4 ?_;refine hcb (fun h1=>?_) (fun h1=>?_)
  · have hr:=bet hls h1;refine w_5 ?_;exact ⟨⟨⟨_,rfl,(coi hr.symm)⟩,trivial⟩,trivial⟩
  have hr:=bek hls h1;refine d6 ?_;exact ⟨⟨⟨_,rfl,(coi hr.symm)⟩,trivial⟩,trivial⟩
 refine v_6 ?_;exact ⟨CoC.refl _,cci hls.symm,trivial⟩
def b1e (n:Int) (l m:List Fd) (ps:List AS):a6 bo6 35 [pI n,pP (fdl l),pP (fdl m),pP (asl ps)] (a7 [dsn (fuD n l m ps),pI (lsC n ps l m)]):=by
 refine hpx (nt:=45) Tryz.func35 ?_;refine sx7 ?_;refine m9 0 ?_;refine w_8 ?_;refine qcx (wgx Tryz.func18) (b8m n l m ps) ?_;refine fj ?_;refine hcn (fun h0=>?_) (fun h0=>?_)
 · have hr:=bhd (l:=l) (m:=m) (ps:=ps) (n:=n) h0;refine v_7 ?_;exact by rw [hr];exact ⟨CoC.agg ⟨coN,CoP.refl _,coN,trivial⟩,CoC.refl _,trivial⟩
 have hls:lsC n ps l m = 0:=by assumption
 have hodd:=b5t hls;refine w_6 ?_;refine m9 1 ?_;refine w_9 ?_;refine hcn (fun h1=>?_) (fun h1=>?_)
 ·
  have hb:lsB n ps l m = true:=by
   cases hq:lsB n ps l m with
   | true=>rfl
   | false=>rw [hq] at hodd;exact absurd (a15 hodd) h1
  have hp0:=be8 hls hb;have hr:=bg8 hls hb;refine w_6 ?_;refine qcx (wgx Tryz.func81) (b8e n ps l m) ?_;refine fj ?_;refine hcn (fun h2=>?_) (fun h2=>?_)
  · exfalso;exact h2 hp0
  refine v_7 ?_;exact by rw [hr,hls];first | exact CoL.refl _ | exact ⟨CoC.agg ⟨CoP.refl _,CoP.refl _,coN,trivial⟩,CoC.refl _,trivial⟩
 have hb:lsB n ps l m = false:=by
  cases hq:lsB n ps l m with
  | false=>rfl
  | true=>rw [hq] at hodd;have hx:=a3t hodd;simp_all
 have hr:=bge hls hb;refine v_7 ?_;exact by rw [hr,hls];first | exact CoL.refl _ | exact ⟨CoC.agg ⟨CoP.refl _,CoP.refl _,coN,trivial⟩,CoC.refl _,trivial⟩
def bdg (n:Int) (l m:List Fd):a6 bo6 31 [pI n,pP (fdl l),pP (fdl m)] (a7 [pI (ux n l m)]):=by
 refine hpx (nt:=17) Tryz.func31 ?_;refine c7 ?_;refine ah rfl rfl (fun r0=>?_) (fun r0=>?_)
 ·
  have h0:=tz1 r0;have hk:=b22 (l:=l) (m:=m) (n:=n) (.inl h0);(iterate 2 refine k9 (gtf r0) ?_);refine rq rfl rfl rfl rfl rfl ?_ (hp:=r0);refine w_6 ?_
  exact hx8 rfl rfl rfl (⟨cci hk.symm,trivial⟩)
 have h0:=tz2 r0;(iterate 2 refine qy ?_ (hg:=(gff r0)));refine w_2 ?_;refine ak _ rfl (fun r1=>?_) (fun r1=>?_)
 · have h1:=tz1 (am r0 r1);have hk:=b22 (l:=l) (m:=m) (n:=n) (.inr h1);refine v_4 ?_;exact ⟨cci hk.symm,trivial⟩
 have h1:=tz2 (am r0 r1);have hk:ux n l m = be n l m:=bfv bnl;refine w_6 ?_;refine qcx wu (sv n l m) ?_;refine v_2 ?_;exact ⟨cci hk.symm,trivial⟩
def ag9 (n:Int) (l m:List Fd) (f:Int) (h5:¬ f = 5):a6 bo6 12 [pI n,pP (fdl l),pP (fdl m),pI f] (a7 [dsn (goD n l m (md n l m f)),pI (goE n l m (md n l m f))]):=by
 refine hpx (nt:=58) Tryz.func12 ?_;refine sx7 ?_;refine m9 0 ?_;refine w_8 ?_;refine qcx (wgx Tryz.func31) (bdg n l m) ?_;refine w_7 ?_;refine hcn (fun h0=>?_) (fun h0=>?_)
 · have hr:=bat (q:=md n l m f) h0;refine v_7 ?_;exact by rw [hr.1,hr.2];exact ⟨CoC.agg ⟨coN,CoP.refl _,coN,trivial⟩,CoC.refl _,trivial⟩
 have hk:ux n l m = 0:=by assumption
 refine w_9 ?_;refine kx (ka 0 (ka 1 (ka 2 (ka 8 kn)))) (kb 0 km) ⟨[(11,some (.v (.one (.p (asl (md n l m f).1))))),(12,some (vI (md n l m f).2))],[]⟩ ?_ ?_
 ·
  refine c7 ?_;refine hcd (fun h1=>?_) (fun h1=>?_)
  · have hf3:f = 3:=h1;have hpp:=bhx (n:=n) (l:=l) (m:=m) hf3;refine w_3 ?_;refine qcx (wgx Tryz.func32) (ao7 awb n l) ?_;refine w_6 ?_;exact ⟨⟨⟨_,rfl,(by rw [hpp];first | exact CoR.refl _ | exact coN)⟩,⟨_,rfl,(by rw [hpp];exact CoR.refl _)⟩,tt⟩,uu⟩
  have hf3:¬ f = 3:=h1;refine w_5 ?_;refine hcd (fun h2=>?_) (fun h2=>?_)
  · have hf4:f = 4:=h2;have hpp:=bgv (n:=n) (l:=l) (m:=m) hf3 hf4;refine w_3 ?_;refine qcx (wgx Tryz.func33) (bhc n l) ?_;refine w_6 ?_;exact ⟨⟨⟨_,rfl,(by rw [hpp];first | exact CoR.refl _ | exact coN)⟩,⟨_,rfl,(by rw [hpp];exact CoR.refl _)⟩,tt⟩,uu⟩
  have hf4:¬ f = 4:=h2;refine w_5 ?_;refine hcd (fun h3=>?_) (fun h3=>?_)
  · exfalso;exact h5 h3
  have hpp:=bhg (n:=n) (l:=l) (m:=m) hf3 hf4 h3;refine w_3 ?_;exact ⟨⟨⟨_,rfl,(by rw [hpp];first | exact CoR.refl _ | exact coN)⟩,⟨_,rfl,(by rw [hpp];exact CoR.refl _)⟩,tt⟩,uu⟩
 refine w_6 ?_;refine hcn (fun h4=>?_) (fun h4=>?_)
 · have hr:=b9d (q:=md n l m f) hk h4;refine v_7 ?_;exact by rw [hr.1,hr.2];exact ⟨CoC.agg ⟨coN,CoP.refl _,coN,trivial⟩,CoC.refl _,trivial⟩
 have hr:=baz (q:=md n l m f) hk bnm;refine w_7 ?_;refine qcx (wgx Tryz.func35) (b1e n l m (md n l m f).1) ?_;refine v_5 ?_;exact by rw [hr.1,hr.2];exact CoL.refl _
def bec (n:Int) (l m:List Fd):a6 bo6 15 [pI n,pP (fdl l),pP (fdl m)] (a7 [dsn (goD n l m (oe n l)),pI (goE n l m (oe n l))]):=by
 refine hpx (nt:=50) Tryz.func15 ?_;refine sx7 ?_;refine m9 0 ?_;refine w_8 ?_;refine qcx (wgx Tryz.func31) (bdg n l m) ?_;refine w_7 ?_;refine hcn (fun h0=>?_) (fun h0=>?_)
 · have hr:=bat (q:=oe n l) h0;refine v_7 ?_;exact by rw [hr.1,hr.2];exact ⟨CoC.agg ⟨coN,CoP.refl _,coN,trivial⟩,CoC.refl _,trivial⟩
 have hk:ux n l m = 0:=by assumption
 refine w_5 ?_;refine qcx (wgx Tryz.func42) (be7 n l) ?_;refine w_8 ?_;refine kx (ka 0 (ka 1 (ka 2 (ka 6 kn)))) (kb 0 km) ⟨[(9,some (.v (.one (.p (asl (oe n l).1))))),(11,some (vI (oe n l).2))],[]⟩ ?_ ?_
 ·
  refine w_5 ?_;refine ah rfl rfl (fun r1=>?_) (fun r1=>?_)
  ·
   have h1:=tz1 r1;(iterate 2 refine qy ?_ (hg:=(gtt r1)));refine w_2 ?_;refine ak _ rfl (fun r2=>?_) (fun r2=>?_)
   · have h2:=cj (bn r1 r2);have hpp:=bi1 (n:=n) (l:=l) bnm bnx;refine w_3 ?_;refine qcx (wgx Tryz.func32) (ao7 awb n l) ?_;refine w_6 ?_;exact ⟨⟨⟨_,rfl,(by rw [hpp];exact CoR.refl _)⟩,⟨_,rfl,(by rw [hpp];exact CoR.refl _)⟩,tt⟩,uu⟩
   have h2:=ck (bn r1 r2);have hpp:=bg4 (n:=n) (l:=l) bnm bnx;refine d6 ?_;exact ⟨⟨⟨_,rfl,(by rw [hpp];exact CoR.refl _)⟩,⟨_,rfl,(by rw [hpp];exact CoR.refl _)⟩,tt⟩,uu⟩
  have h1:=tz2 r1;have hpp:=bhq (n:=n) (l:=l) h1;(iterate 2 refine k9 (gft r1) ?_);refine rq rfl rfl rfl rfl rfl ?_ (hp:=r1);refine w_3 ?_
  exact ⟨⟨⟨_,rfl,(by rw [hpp];exact CoR.refl _)⟩,⟨_,rfl,(by rw [hpp];exact CoR.refl _)⟩,tt⟩,uu⟩
 refine w_6 ?_;refine hcn (fun h3=>?_) (fun h3=>?_)
 · have hr:=b9d (q:=oe n l) hk h3;refine v_7 ?_;exact by rw [hr.1,hr.2];exact ⟨CoC.agg ⟨coN,CoP.refl _,coN,trivial⟩,CoC.refl _,trivial⟩
 have hr:=baz (q:=oe n l) hk bnm;refine w_7 ?_;refine qcx (wgx Tryz.func35) (b1e n l m (oe n l).1) ?_;refine v_5 ?_;exact by rw [hr.1,hr.2];exact CoL.refl _
end
section
open Go.Proofs
def b59 (ns:List Bs) (l m:List Fd) (ps:List AS) (c:Int) (sts:PV) (hsz:∀ b ∈ ns,b.size <= 1000):a6 bo6 23 [pP (bsl ns),pP (fdl l),pP (fdl m), .agg [asl ps, .raw (.int .i64 c),sts]] (a7 [pS (ae0 ns l m ps c),pI (ua ns l m ps)]):=by
 refine hpx (nt:=128) Tryz.func23 ?_;refine sx7 ?_;refine m9 0 ?_;refine m9 1 ?_;refine w_7 ?_;refine qcx (wgx Tryz.func51) (b3z ns (fun b hb=>bjr (hsz b hb) bns)) ?_;refine ct ?_;refine hcn (fun h0=>?_) (fun h0=>?_)
 · refine w_6 ?_;refine hrr ?_;have hr:=bav (l:=l) (m:=m) (ps:=ps) (c:=c) h0;exact f9 rfl rfl (⟨CoC.one (CoP.of_eq (by rw [hr.2];rfl)),cci hr.1.symm,trivial⟩)
 refine j9 ?_;refine qcx aax (a6p ns.length ps) ?_;refine w_7 ?_;refine hcn (fun h1=>?_) (fun h1=>?_)
 · refine w_6 ?_;refine hrr ?_;have hr:=b91 (l:=l) (m:=m) (c:=c) h0 h1;exact f9 rfl rfl (⟨CoC.one (CoP.of_eq (by rw [hr.2];rfl)),cci hr.1.symm,trivial⟩)
 refine w_7 ?_;refine qcx wu (sv ns.length l m) ?_;refine w_7 ?_;refine hcn (fun h2=>?_) (fun h2=>?_)
 · refine w_6 ?_;refine hrr ?_;have hr:=bbk (c:=c) h0 h1 h2;exact f9 rfl rfl (⟨CoC.one (CoP.of_eq (by rw [hr.2];rfl)),cci hr.1.symm,trivial⟩)
 refine w_2 ?_;refine cw 4 rfl rfl rfl ?_;refine cw 7 rfl rfl rfl ?_;have he:mh ns = 0:=h0;have hv:lvE ns.length ps = 0:=h1;have hb:be ns.length l m = 0:=h2;obtain ⟨hn0,hn8,h64,_,_⟩:=n3 hv;obtain ⟨_,_,hl64,hall,_,_⟩:=ji hb;have hx:=bfa hsz;have hP:∀ i,(fu ns l ps i).length <= 134400000000:=fun i=>aqo hsz (fun p hp=>ahw hv hp) h64
 have hin:∀ f ∈ l,sub f.lhs (a8 ns.length) /\ sub f.rhs (a8 ns.length):=fun f hf=>by
  have:=(b87 hn0 bnl).1 (bkk.1 hall f hf);exact ⟨gr yh this,gr a34 this⟩
 have hmem:∀ s,sub s (a8 ns.length) -> ∀ i ∈ aj s,i < ns.length:=fun s hs i hi=>b4z bnl hs hi;refine w_6 ?_;refine m9 2 ?_;refine c7 ?_;refine bg (ka 1 (ka 7 (ka 15 (ka 16 (ka 51 (ka 52 kn)))))) km (fun i=>⟨[(53,some (vI i))],[(2,some (bd false (fu ns l ps i)))]⟩) ps.length ⟨tt,⟨⟨_,rfl,⟨fun h=>(by cases h),rfl,rfl,rfl⟩⟩,trivial⟩⟩ ?_;rintro i hi;refine w_5 ?_;refine hcd (fun h3=>?_) (fun h3=>?_)
 ·
  have hil:i < ps.length:=by omega
  have hmp:(ps.getD i default) ∈ ps:=dn hil;have hps:sub (ps.getD i default) (a8 ns.length):=a4n hv hmp;refine j9 ?_;refine qcx ac1 (ahb (ps.getD i default) ns (hmem _ hps) hsz) ?_;refine rq rfl rfl rfl rfl rfl ?_ (hp:=(by have h2:=hx (ps.getD i default);show 5 + _ <= _;omega));refine rq rfl rfl rfl rfl rfl ?_ (hp:=(by have h2:=hx (ps.getD i default);rw [szA];show 5 + _ + 5 <= _;omega));refine fc9 qn (qo 2 false (fu ns l ps i) ((⟨#[112,97,114,116,32]⟩ ++ txT ns (ps.getD i default)) ++ ⟨#[32,107,101,121,115]⟩) (by have h1:=hP i;have h2:=hx (ps.getD i default);rw [szA,szA];show _ + (5 + _ + 5) <= _;omega)) uu ?_;refine w_6 ?_;refine qcx (wgx Tryz.func58) (cPk l (ps.getD i default)) ?_;refine w_4 ?_;refine bg (ka 1 (ka 7 (ka 15 (ka 16 (ka 51 (ka 52 (ka 53 (ka 65 (ka 66 kn))))))))) km (fun k=>⟨[(67,some (vI k))],[(2,some (bd false (((fu ns l ps i) ++ tw ns (ps.getD i default)) ++ ni ns (pkL l (ps.getD i default)) k)))]⟩) ((pkL l (ps.getD i default)).length) ⟨tt,⟨⟨_,rfl,(CoO.of_eq (by rw [b45]))⟩,trivial⟩⟩ ?_;rintro k hk;refine w_5 ?_;refine hcd (fun h4=>?_) (fun h4=>?_)
  ·
   have hkk:k < (pkL l (ps.getD i default)).length:=by omega
   have hkey:sub ((pkL l (ps.getD i default)).getD k default) (a8 ns.length):=gr (ba9 (dn hkk)) hps;have hpl:=acl (l:=l) (ahw hv hmp);refine fj ?_;refine qcx ac1 (ahb ((pkL l (ps.getD i default)).getD k default) ns (hmem _ hkey) hsz) ?_;refine rq rfl rfl rfl rfl rfl ?_ (hp:=(by have h2:=hx ((pkL l (ps.getD i default)).getD k default);show 1 + _ <= _;omega));refine fc9 qn (qo 2 false (((fu ns l ps i) ++ tw ns (ps.getD i default)) ++ ni ns (pkL l (ps.getD i default)) k) (⟨#[32]⟩ ++ txT ns ((pkL l (ps.getD i default)).getD k default)) (by have h1:=hP i;have h2:=hx ((pkL l (ps.getD i default)).getD k default);have h3:=a59 hsz (ps.getD i default);have h4:=a5l (i:=k) (ks:=(pkL l (ps.getD i default))) hsz;have h5:=acl (l:=l) (ahw hv hmp);rw [szA,bjj,bjj];show _ + (1 + _) <= _;omega)) uu ?_;refine w_5 ?_;exact lpx (k + 1) ⟨tt,⟨⟨_,rfl,(CoO.of_eq (by rw [bce hkk]))⟩,trivial⟩⟩
  obtain rfl:k = (pkL l (ps.getD i default)).length:=by omega
  refine w_2 ?_;refine fc9 qn (qo 2 false (((fu ns l ps i) ++ tw ns (ps.getD i default)) ++ ni ns (pkL l (ps.getD i default)) (pkL l (ps.getD i default)).length) ⟨#[10]⟩ (by have h1:=hP i;have h3:=a59 hsz (ps.getD i default);have h4:=a5l (i:=(pkL l (ps.getD i default)).length) (ks:=(pkL l (ps.getD i default))) hsz;have h5:=acl (l:=l) (ahw hv hmp);rw [bjj,bjj];show _ + 1 <= _;omega)) uu ?_;refine w_5 ?_;exact lpx (i + 1) ⟨tt,⟨⟨_,rfl,(CoO.of_eq (by rw [b6s hil]))⟩,trivial⟩⟩
 obtain rfl:i = ps.length:=by omega
 refine w_7 ?_;refine qcx (wgx Tryz.func59) (b23 l ps bnl) ?_;refine w_4 ?_;have hL:∀ j,(j3 ns l (bw l ps l.length) j).length <= 4102400:=fun j=>arl hsz (bjr alw hl64);refine bg (ka 1 (ka 7 (ka 15 (ka 16 (ka 82 (ka 83 kn)))))) km (fun j=>⟨[(84,some (vI j))],[(2,some (bd false ((fu ns l ps ps.length) ++ j3 ns l (bw l ps l.length) j)))]⟩) ((bw l ps l.length).length) ⟨tt,⟨⟨_,rfl,(CoO.of_eq (by rw [show j3 ns l (bw l ps l.length) 0 = [] from rfl,bkd]))⟩,trivial⟩⟩ ?_;rintro j hj;refine w_5 ?_;refine hcd (fun h5=>?_) (fun h5=>?_)
 ·
  have hjl:j < (bw l ps l.length).length:=by omega
  have hj2:=b5c hjl;have hls:=bjr (alw (l:=l) (ps:=ps)) hl64;have hf:=hin (l.getD ((bw l ps l.length).getD j default) default) (dn hj2);refine j9 ?_;refine rq rfl rfl rfl rfl rfl ?_ (hp:=⟨rfl,blq _,Int.ofNat_lt.2 hj2⟩);refine w_2 ?_;refine qcx ac1 (ahb (l.getD ((bw l ps l.length).getD j default) default).lhs ns (hmem _ hf.1) hsz) ?_;refine rq rfl rfl rfl rfl rfl ?_ (hp:=(by have h2:=hx (l.getD ((bw l ps l.length).getD j default) default).lhs;show 5 + _ <= _;omega));refine rq rfl rfl rfl rfl rfl ?_ (hp:=(by have h2:=hx (l.getD ((bw l ps l.length).getD j default) default).lhs;rw [szA];show 5 + _ + 4 <= _;omega));refine w_3 ?_;refine rq rfl rfl rfl rfl rfl ?_ (hp:=⟨rfl,blq _,Int.ofNat_lt.2 hj2⟩);refine w_2 ?_;refine qcx ac1 (ahb (l.getD ((bw l ps l.length).getD j default) default).rhs ns (hmem _ hf.2) hsz) ?_;refine rq rfl rfl rfl rfl rfl ?_ (hp:=(by have h2:=hx (l.getD ((bw l ps l.length).getD j default) default).lhs;have h3:=hx (l.getD ((bw l ps l.length).getD j default) default).rhs;rw [szA,szA];show 5 + _ + 4 + _ <= _;omega));refine rq rfl rfl rfl rfl rfl ?_ (hp:=(by have h2:=hx (l.getD ((bw l ps l.length).getD j default) default).lhs;have h3:=hx (l.getD ((bw l ps l.length).getD j default) default).rhs;rw [szA,szA,szA];show 5 + _ + 4 + _ + 1 <= _;omega));refine fc9 qn (qo 2 false ((fu ns l ps ps.length) ++ j3 ns l (bw l ps l.length) j) ((((⟨#[108,111,115,116,32]⟩ ++ txT ns (l.getD ((bw l ps l.length).getD j default) default).lhs) ++ ⟨#[32,45,62,32]⟩) ++ txT ns (l.getD ((bw l ps l.length).getD j default) default).rhs) ++ ⟨#[10]⟩) (by have h1:=hP ps.length;have h2:=hx (l.getD ((bw l ps l.length).getD j default) default).lhs;have h3:=hx (l.getD ((bw l ps l.length).getD j default) default).rhs;have h4:=hL j;rw [szA,szA,szA,szA,bjj];show _ + (5 + _ + 4 + _ + 1) <= _;omega)) uu ?_;refine w_6 ?_;exact lpx (j + 1) ⟨tt,⟨⟨_,rfl,(CoO.of_eq (by rw [b6c hjl _ rfl]))⟩,trivial⟩⟩
 obtain rfl:j = (bw l ps l.length).length:=by omega
 refine w_3 ?_;refine fc9 qn (qo 2 false ((fu ns l ps ps.length) ++ j3 ns l (bw l ps l.length) (bw l ps l.length).length) ⟨#[99,108,97,105,109,115]⟩ (by have h1:=hP ps.length;have h4:=hL (bw l ps l.length).length;rw [bjj];show _ + 6 <= _;omega)) uu ?_;refine w_4 ?_;refine m9 3 ?_;refine w_4 ?_;refine aq 109 rfl rfl rfl ?_;refine ae (ι:=Nat) (ka 7 (ka 16 (ka 110 kn))) km (fun i=>⟨[(109,some (.v (.one (.p (bsl jj))))),(111,some (vI i))],[(2,some (bd false ((((fu ns l ps ps.length) ++ j3 ns l (bw l ps l.length) (bw l ps l.length).length) ++ [99,108,97,105,109,115]) ++ ij c i)))]⟩) (fun i=>i <= 5) (fun i=>5 - i) (0) bnl ⟨⟨⟨_,rfl,(show CoP _ _ from CoP.sl rfl (.inl rfl) (fun h=>by cases h) fun i j hi hj=>by have hj:j < 1:=hj;obtain rfl:j = 0:=bnl;exact CoP.of_eq (b0y (f:=fun a b=>(jj.map fun b=>kr (.string b)).getD (a * 1 + b) .any) hi rfl rfl rfl rfl rfl))⟩,tt⟩,⟨⟨_,rfl,(CoO.of_eq (by rw [show ij c 0 = [] from rfl,bkd]))⟩,trivial⟩⟩ ?_;rintro i hi;refine w_5 ?_;refine hcd (fun h6=>?_) (fun h6=>?_)
 ·
  have hi5:i < 5:=by have:(i:Int) < 5:=h6;omega
  refine alx ?_;refine hcd (fun h7=>?_) (fun h7=>?_)
  ·
   have hbit:aay c i = true:=decide_eq_true h7;refine w_2 ?_;refine rq rfl rfl rfl rfl rfl ?_ (hp:=(by have h6:=ak8 hi5;show 1 + (jj.getD i default).size <= _;omega));refine fc9 qn (qo 2 false ((((fu ns l ps ps.length) ++ j3 ns l (bw l ps l.length) (bw l ps l.length).length) ++ [99,108,97,105,109,115]) ++ ij c i) (⟨#[32]⟩ ++ jj.getD i default) (by have h1:=hP ps.length;have h4:=hL (bw l ps l.length).length;have h5:=a92 (c:=c) (i:=i) bnl;have h6:=ak8 hi5;rw [szA,bjj,bjj,bjj];show _ + 6 + _ + (1 + _) <= _;omega)) uu ?_;refine w_5 ?_
   first | (refine ⟨i + 1, ?_, ?_, ?_⟩
            · show i + 1 <= _;omega
            · first | omega | (dsimp only;omega)
            exact ⟨tt,⟨⟨_,rfl,(CoO.of_eq (by rw [awr hbit]))⟩,trivial⟩⟩)
         | (refine ⟨i + 1, ?_, ?_, ?_⟩
            · show i + 1 <= _;omega
            · first | omega | (dsimp only;omega)
            exact ⟨tt,⟨⟨_,rfl,(CoO.of_eq (by rw [<- av5 hbit]))⟩,trivial⟩⟩)
  have hbit:aay c i = false:=decide_eq_false h7;refine w_5 ?_
  first | (refine ⟨i + 1, ?_, ?_, ?_⟩
           · show i + 1 <= _;omega
           · first | omega | (dsimp only;omega)
           exact ⟨tt,⟨⟨_,rfl,(CoO.of_eq (by rw [awr hbit]))⟩,trivial⟩⟩)
        | (refine ⟨i + 1, ?_, ?_, ?_⟩
           · show i + 1 <= _;omega
           · first | omega | (dsimp only;omega)
           exact ⟨tt,⟨⟨_,rfl,(CoO.of_eq (by rw [<- av5 hbit]))⟩,trivial⟩⟩)
 obtain rfl:i = 5:=by have:¬ (i:Int) < 5:=h6;omega
 refine w_3 ?_;refine fc9 qn (qo 2 false ((((fu ns l ps ps.length) ++ j3 ns l (bw l ps l.length) (bw l ps l.length).length) ++ [99,108,97,105,109,115]) ++ ij c 5) ⟨#[10]⟩ (by have h1:=hP ps.length;have h4:=hL (bw l ps l.length).length;have h5:=a92 (c:=c) (i:=5) bnl;rw [bjj,bjj,bjj];show _ + 6 + _ + 1 <= _;omega)) uu ?_;refine w_3 ?_;refine fc9 au8 (b1l 2 false (alu ns l ps c) (by unfold alu;exact List.append_ne_nil_of_right_ne_nil _ bnp)) uu ?_;refine w_3 ?_;refine hrr ?_;have hr:=bcb (c:=c) he hv hb;exact f9 rfl rfl (⟨CoC.one (CoP.of_eq (by rw [hr.2];rfl)),cci hr.1.symm,trivial⟩)
end
section
section
variable {n:Int} {l m:List Fd} {q:List Fd} {i:Nat}
def evT (q:List Fd) (i:Nat):List Fd:=((List.range i).filter fun k=>decide (((k:Nat):Int) % 2 = 0)).map fun k=>q.getD k default
def odT (q:List Fd) (i:Nat):List Fd:=((List.range i).filter fun k=>!decide (((k:Nat):Int) % 2 = 0)).map fun k=>q.getD k default
end
abbrev exC:List Fd:=[⟨1,2⟩,⟨2,4⟩]
abbrev exA:List Fd:=[⟨3,4⟩,⟨4,1⟩]
abbrev exN:List Bs:=[⟨#[97]⟩,⟨#[98]⟩,⟨#[99]⟩]
def bfy:(goD 3 exC [] (md 3 exC [] 3)).1 = [3,6] /\ (goD 3 exC [] (md 3 exC [] 3)).2.1 = 31 /\ goE 3 exC [] (md 3 exC [] 3) = 0:=by decide +kernel
def be0:(goD 3 exA [] (md 3 exA [] 4)).1 = [5,6] /\ (goD 3 exA [] (md 3 exA [] 4)).2.1 = 29 /\ goE 3 exA [] (md 3 exA [] 4) = 0:=by decide +kernel
def be4:(goD 3 exA [] (oe 3 exA)).1 = [7] /\ (goD 3 exA [] (oe 3 exA)).2.1 = 7 /\ goE 3 exA [] (oe 3 exA) = 0:=by decide +kernel
abbrev ayo:List UInt8:=[112,97,114,116,32,97,44,98,32,107,101,121,115,32,97,10,112,97,114,116,32,98,44,99,32,107,101,121,115,32,98,10,99,108,97,105,109,115,32]
abbrev b0x:List UInt8:=[108,111,115,115,108,101,115,115,32,112,114,101,115,101,114,118,105,110,103,32,116,104,105,114,100,32,98,111,121,99,101,32,102,111,117,114,116,104,10]
def bdn:ua exN exC [] [3,6] = 0 /\ alu exN exC [3,6] 31 = List.append ayo b0x:=by
 constructor <;> decide +kernel
end
section
open Go.Proofs
def bco (a:List AS):a6 bo6 30 [pP (asl a),pP (asl a)] (a7 [pB true]):=by
 have h:=bgg a a;rw [decide_eq_true rfl] at h;exact h
def bc5:a6 bo6 12 [pI 3,pP (fdl exC),pP (fdl []),pI 3] (a7 [dsn ([3,6],31,(goD 3 exC [] (md 3 exC [] 3)).2.2),pI 0]):=by
 have h:=ag9 3 exC [] 3 bns;obtain ⟨h1,h2,h3⟩:=bfy;rw [h3] at h;unfold dsn at h ⊢;rw [h1,h2] at h;exact h
def bcc:a6 bo6 12 [pI 3,pP (fdl exA),pP (fdl []),pI 4] (a7 [dsn ([5,6],29,(goD 3 exA [] (md 3 exA [] 4)).2.2),pI 0]):=by
 have h:=ag9 3 exA [] 4 bns;obtain ⟨h1,h2,h3⟩:=be0;rw [h3] at h;unfold dsn at h ⊢;rw [h1,h2] at h;exact h
def bbr:a6 bo6 15 [pI 3,pP (fdl exA),pP (fdl [])] (a7 [dsn ([7],7,(goD 3 exA [] (oe 3 exA)).2.2),pI 0]):=by
 have h:=bec 3 exA [];obtain ⟨h1,h2,h3⟩:=be4;rw [h3] at h;unfold dsn at h ⊢;rw [h1,h2] at h;exact h
def bej (sts:PV):a6 bo6 23 [pP (bsl exN),pP (fdl exC),pP (fdl []), .agg [asl [3,6], .raw (.int .i64 31),sts]] (a7 [pS ⟨(List.append ayo b0x).toArray⟩,pI 0]):=by
 have h:=b59 exN exC [] [3,6] 31 sts bns;obtain ⟨h1,h2⟩:=bdn;rw [h1,show ae0 exN exC [] [3,6] 31 = ⟨(List.append ayo b0x).toArray⟩ from (if_pos h1).trans (congrArg bOf h2)] at h;exact h
def aiw:goodFn bo6 11:=wgx Tryz.func11
def a9g  : a6 bo6 11 [] (a7 [pB true]):=by
 refine hpx (nt:=84) Tryz.func11 ?_;refine w_8 ?_;refine m9 0 ?_;refine w_6 ?_;refine m9 1 ?_;refine w_3 ?_;refine aq 1 rfl rfl rfl ?_;refine aq 2 rfl rfl rfl ?_;refine w_2 ?_;refine rc rfl rfl rfl rfl rfl rfl (wgx Tryz.func12) (bc5) (⟨CoC.refl _,(CoC.one (CoP.sl rfl (.inl rfl) (fun h=>(by cases h)) fun i j hi hj=>CoP.of_eq (by have hi:i < 2:=hi;have hj:j < 2:=hj;rcases (show i = 0 \/ i = 1 by omega) with rfl | rfl <;> rcases (show j = 0 \/ j = 1 by omega) with rfl | rfl <;> rfl))),CoC.one coN,CoC.refl _,trivial⟩) rfl rfl ?_;refine w_3 ?_;refine m9 2 ?_;refine w_5 ?_;refine m9 3 ?_;refine w_2 ?_;refine rc rfl rfl rfl rfl rfl rfl (wgx Tryz.func23) (bej _) (⟨(CoC.one (CoP.sl rfl (.inl rfl) (fun h=>(by cases h)) fun i j hi hj=>CoP.of_eq (by have hi:i < 3:=hi;have hj:j < 1:=hj;obtain rfl:j = 0:=bnl;rcases (show i = 0 \/ i = 1 \/ i = 2 by omega) with rfl | rfl | rfl <;> rfl))),(CoC.one (CoP.sl rfl (.inl rfl) (fun h=>(by cases h)) fun i j hi hj=>CoP.of_eq (by have hi:i < 2:=hi;have hj:j < 2:=hj;rcases (show i = 0 \/ i = 1 by omega) with rfl | rfl <;> rcases (show j = 0 \/ j = 1 by omega) with rfl | rfl <;> rfl))),CoC.one coN,CoC.refl _,trivial⟩) rfl rfl ?_;refine w_9 ?_;refine rc rfl rfl rfl rfl rfl rfl (wgx Tryz.func12) (bcc) (⟨CoC.refl _,(CoC.one (CoP.sl rfl (.inl rfl) (fun h=>(by cases h)) fun i j hi hj=>CoP.of_eq (by have hi:i < 2:=hi;have hj:j < 2:=hj;rcases (show i = 0 \/ i = 1 by omega) with rfl | rfl <;> rcases (show j = 0 \/ j = 1 by omega) with rfl | rfl <;> rfl))),CoC.one coN,CoC.refl _,trivial⟩) rfl rfl ?_;refine w_3 ?_;refine m9 4 ?_;refine w_6 ?_;refine rc rfl rfl rfl rfl rfl rfl (wgx Tryz.func15) (bbr) (⟨CoC.refl _,(CoC.one (CoP.sl rfl (.inl rfl) (fun h=>(by cases h)) fun i j hi hj=>CoP.of_eq (by have hi:i < 2:=hi;have hj:j < 2:=hj;rcases (show i = 0 \/ i = 1 by omega) with rfl | rfl <;> rcases (show j = 0 \/ j = 1 by omega) with rfl | rfl <;> rfl))),CoC.one coN,trivial⟩) rfl rfl ?_
 refine w_3 ?_;refine m9 5 ?_;refine fj ?_;(iterate 2 refine rq rfl rfl rfl rfl (gtt (da rfl rfl)) ?_);refine w_2 ?_;(iterate 2 refine rq rfl rfl rfl rfl (gtt (da (da rfl rfl) rfl)) ?_);refine w_2 ?_;(iterate 3 refine rq rfl rfl rfl rfl (gtt (da (da (da rfl rfl) rfl) rfl)) ?_);refine w_2 ?_;(iterate 2 refine rq rfl rfl rfl rfl (gtt (da (da (da (da rfl rfl) rfl) rfl) rfl)) ?_);refine w_2 ?_
 refine ah rfl rfl (fun r0=>?_) (fun r0=>?_)
 ·
  have h0:=tz1 (bn (da (da (da (da rfl rfl) rfl) rfl) rfl) r0);(iterate 2 refine qy ?_ (hg:=(gtt r0)));refine rm 6 rfl rfl rfl rfl rfl (gtt r0) ?_
  refine rc rfl rfl rfl rfl rfl rfl (wgx Tryz.func30) (bco [5,6]) (⟨CoC.refl _,(CoC.one (CoP.sl rfl (.inl rfl) (fun h=>(by cases h)) fun i j hi hj=>CoP.of_eq (by have hi:i < 2:=hi;have hj:j < 1:=hj;obtain rfl:j = 0:=bnl;rcases (show i = 0 \/ i = 1 by omega) with rfl | rfl <;> rfl))),trivial⟩) rfl (gtt r0) ?_;refine w_2 ?_;(iterate 3 refine rq rfl rfl rfl rfl (gtt (da r0 rfl)) ?_);refine w_2 ?_;(iterate 2 refine rq rfl rfl rfl rfl (gtt (da (da r0 rfl) rfl)) ?_);refine rm 7 rfl rfl rfl rfl rfl (gtt (da (da r0 rfl) rfl)) ?_;refine rc rfl rfl rfl rfl rfl rfl (wgx Tryz.func30) (bco [7]) (⟨CoC.refl _,(CoC.one (CoP.sl rfl (.inl rfl) (fun h=>(by cases h)) fun i j hi hj=>CoP.of_eq (by have hi:i < 1:=hi;have hj:j < 1:=hj;obtain rfl:j = 0:=bnl;obtain rfl:i = 0:=bnl;rfl))),trivial⟩) rfl (gtt (da (da r0 rfl) rfl)) ?_;refine w_2 ?_;(iterate 3 refine rq rfl rfl rfl rfl (gtt (da (da (da r0 rfl) rfl) rfl)) ?_);refine v_3 ?_;exact CoL.refl _
 have h0:=tz2 (bn (da (da (da (da rfl rfl) rfl) rfl) rfl) r0);exfalso
 first | exact h0 rfl | exact h0 trivial | cases h0
end
section
open Go.Proofs
def bee (d:Rcp) (hf:d.f.length <= 16777216) (hm:d.m.length <= 16777216) (hp:d.p.length <= 16777216):a6 bo6 10 [d.pc] (a7 [pI (d.num 4),pP (fdl (d.fs 4)),pP (fdl (d.ms 4)),pP (asl (d.ps 4)),pB (okR d)]):=by
 refine hpx (nt:=30) Tryz.func10 ?_;refine sx7 ?_;refine m9 0 ?_;refine w_9 ?_;refine qcx (wgx Tryz.func29) (bg1 d hf hm hp) ?_;refine alx ?_;refine ah rfl rfl (fun r0=>?_) (fun r0=>?_)
 ·
  have h0:=r0;(iterate 3 refine qy ?_ (hg:=(gtt r0)));refine w_7 ?_
  exact hx8 rfl rfl rfl (⟨CoC.refl _,CoC.refl _,CoC.refl _,CoC.refl _,ccb (by unfold okR;first | (simp_all;done) | (rw [‹decide _ = false›];rfl) | (simp_all;omega)),trivial⟩)
 have h0:=r0;(iterate 3 refine k9 (gft r0) ?_);refine rq rfl rfl rfl rfl rfl ?_ (hp:=r0);refine w_6 ?_
 exact hx8 rfl rfl rfl (⟨CoC.refl _,CoC.refl _,CoC.refl _,CoC.refl _,ccb (by unfold okR;first | (simp_all;done) | (rw [‹decide _ = false›];rfl) | (simp_all;omega)),trivial⟩)
end
section
open Go.Proofs
def b9g (n:Int) (l m:List Fd) (ps:List AS) (hn:n <= 16) (hp:∀ q ∈ ps,sub q (a8 n)):a6 bo6 48 [pI n,pP (fdl l),pP (fdl m),pP (asl ps)] (a7 [pI (fmI n l m ps)]):=by
 refine hpx (nt:=59) Tryz.func48 ?_;refine w_5 ?_;refine c6 3 rfl fun hlen=>?_;refine w_9 ?_;refine bg (ka 0 (ka 1 (ka 2 (ka 3 kn)))) km (fun i=>⟨[(9,some (vI (fmI n l m (ps.take i)))),(10,some (vI i))],[]⟩) ps.length kk ?_;rintro i hi;refine w_8 ?_;refine hcd (fun h0=>?_) (fun h0=>?_)
 ·
  have hil:i < ps.length:=by omega
  refine d6 ?_;refine kx (ka 0 (ka 1 (ka 2 (ka 3 (ka 10 kn))))) km ⟨[(9,some (vI (fmI n l m (ps.take (i + 1)))))],[]⟩ ?_ ?_
  ·
   refine a3j ?_;refine kx (ka 0 (ka 1 (ka 2 (ka 3 (ka 10 kn))))) km ⟨[(9,some (vI (fm1 n l m ps i)))],[]⟩ ?_ ?_
   ·
    refine w_8 ?_;refine qcx (wgx Tryz.func107) (awz n l (ps.getD i default)) ?_;refine ct ?_;refine hcv (fun h1=>?_) (fun h1=>?_)
    · have hx:=bf9 (m:=m) hil h1;refine w_5 ?_;exact ⟨⟨⟨_,rfl,(coi hx)⟩,tt⟩,trivial⟩
    have hx:=bdx (m:=m) hil h1;refine d6 ?_;exact ⟨⟨⟨_,rfl,(coi hx)⟩,tt⟩,trivial⟩
   refine kx (ka 0 (ka 1 (ka 2 (ka 3 (ka 10 kn))))) km ⟨[(9,some (vI (fm2 n l m ps i)))],[]⟩ ?_ ?_
   ·
    refine w_7 ?_;refine qcx (wgx Tryz.func108) (bb8 l (ps.getD i default)) ?_;refine w_2 ?_;refine hcv (fun h2=>?_) (fun h2=>?_)
    · have hx:=bdt (n:=n) (m:=m) hil (by simpa using h2);refine w_5 ?_;exact ⟨⟨⟨_,rfl,(coi hx)⟩,tt⟩,trivial⟩
    have hx:=bf5 (n:=n) (m:=m) hil (by simpa using h2);refine d6 ?_;exact ⟨⟨⟨_,rfl,(coi hx)⟩,tt⟩,trivial⟩
   refine w_9 ?_;refine qcx (wgx Tryz.func109) (b58 n l m (ps.getD i default) hn (hp _ (dn hil))) ?_;refine w_3 ?_;refine m9 0 ?_;refine w_7 ?_;refine hcb (fun h3=>?_) (fun h3=>?_)
   · have hx:=bfs hil h3;refine w_5 ?_;exact ⟨⟨⟨_,rfl,(coi hx)⟩,tt⟩,trivial⟩
   have hx:=bf1 hil h3;refine d6 ?_;exact ⟨⟨⟨_,rfl,(coi hx)⟩,tt⟩,trivial⟩
  refine w_5 ?_;exact lpx (i + 1) kk
 obtain rfl:i = ps.length:=by omega
 refine v_6 ?_;exact ⟨cci (by rw [bjk]),trivial⟩
def aC (q:List AS) (_:Nat):PV:=asl q
end
section
abbrev SI:=Bool × Int × Int × Int
abbrev SI.c (s:SI):Nat -> PV:=fun j=>[.raw (.bool s.1), .raw (.int .i64 s.2.1), .raw (.int .i64 s.2.2.1), .raw (.int .i64 s.2.2.2)].getD j .any
abbrev sil (l:List SI):PV:=psl 4 SI.c l
def ay6 (s:St):SI:=(s.1,(s.2.1:Int),(s.2.2.1:Int),(s.2.2.2:Int))
def b1a {q:List St}:CoP (stl q) (sil (q.map ay6)):=CoP.sl bnp (.inl rfl) (fun h=>h) fun i j hi hj=>CoP.of_eq (by
 have hi:i < q.length:=hi;simp only [lf,bjd,bjz,bjc hi]
 rfl)
abbrev bcg (ps:List AS) (c:Int) (l:List SI):PC:=.agg [asl ps, .raw (.int .i64 c),sil l]
section
variable {n c:Int} {l m:List Fd} {ps:List AS} {q:List SI} {i:Nat}
def ru1 (l m:List Fd) (t:Int × List Rw × Int) (s:SI):Int × List Rw × Int:=if t.2.2 = 0 then df t.1 t.2.1 l m s.1 s.2.1 s.2.2.1 s.2.2.2 else t
def ruL (n:Int) (ps:List AS) (l m:List Fd) (q:List SI):Int × List Rw × Int:=q.foldl (ru1 l m) (n,tb0 n ps,0)
def b29 (hi:i < q.length) (he:(ruL n ps l m (q.take i)).2.2 = 0) :
 ruL n ps l m (q.take (i + 1)) = df (ruL n ps l m (q.take i)).1 (ruL n ps l m (q.take i)).2.1 l m (q.getD i default).1 (q.getD i default).2.1 (q.getD i default).2.2.1 (q.getD i default).2.2.2:=by
 unfold ruL at he ⊢;rw [au hi,bki];exact if_pos he
def b2l {t:Int × List Rw × Int} (h:¬ t.2.2 = 0):∀ q:List SI,q.foldl (ru1 l m) t = t
 | []=>rfl
 | s :: q=>by
  rw [blb,show ru1 l m t s = t from if_neg h];exact b2l h q
def bbm (h:¬ (ruL n ps l m (q.take i)).2.2 = 0):ruL n ps l m (q.take i) = ruL n ps l m q:=by
 have e:q = q.take i ++ q.drop i:=(bmf i q).symm
 have:ruL n ps l m q = (q.drop i).foldl (ru1 l m) (ruL n ps l m (q.take i)):=by
  unfold ruL;rw [<- bki,<- e]
 rw [this,b2l h]
def qg (n:Int) (ps:List AS) (l m:List Fd) (q:List SI):Bool:=if lvE n ps = 0 /\ be n l m = 0 then decide ((ruL n ps l m q).2.2 = 0) && jt n (ruL n ps l m q).2.1 else false
def b15 (h:¬ lvE n ps = 0):qg n ps l m q = false:=if_neg fun e=>h e.1
def b1r (h:¬ be n l m = 0):qg n ps l m q = false:=if_neg fun e=>h e.2
def b17 (hv:lvE n ps = 0) (hb:be n l m = 0) (hi:ruL n ps l m (q.take i) = ruL n ps l m q) (h:(ruL n ps l m (q.take i)).2.2 = 0):qg n ps l m q = jt n (ruL n ps l m (q.take i)).2.1:=by
 unfold qg;rw [if_pos ⟨hv,hb⟩,<- hi,decide_eq_true h];rfl
def aru (hv:lvE n ps = 0) (hb:be n l m = 0) (hi:ruL n ps l m (q.take i) = ruL n ps l m q) (h:¬ (ruL n ps l m (q.take i)).2.2 = 0):qg n ps l m q = false:=by
 unfold qg;rw [if_pos ⟨hv,hb⟩,<- hi,decide_eq_false h];rfl
def bfh (hv:lvE n ps = 0) (hb:be n l m = 0) (h:¬ (ruL n ps l m (q.take i)).2.2 = 0):qg n ps l m q = false:=aru hv hb (bbm h) h
def a2x (n:Int) (l m:List Fd) (ps:List AS) (c:Int) (q:List SI):Bool :=
 if lvE n ps = 0 /\ be n l m = 0 /\ 0 <= c /\ c <= 31 then (if al .andNot .i64 (al .andNot .i64 c 1) (tl n l m ps) = 0 then (bif decide (al .and .i64 c 1 = 0) then true else qg n ps l m q) else false) else false
def a0g (h:¬ (lvE n ps = 0 /\ be n l m = 0 /\ 0 <= c /\ c <= 31)):a2x n l m ps c q = false:=if_neg h
def beb (h:lvE n ps = 0 /\ be n l m = 0 /\ 0 <= c /\ c <= 31) (h2:¬ al .andNot .i64 (al .andNot .i64 c 1) (tl n l m ps) = 0):a2x n l m ps c q = false:=by
 unfold a2x;rw [if_pos h,if_neg h2]
def bdp (h:lvE n ps = 0 /\ be n l m = 0 /\ 0 <= c /\ c <= 31) (h2:al .andNot .i64 (al .andNot .i64 c 1) (tl n l m ps) = 0):a2x n l m ps c q = (bif decide (al .and .i64 c 1 = 0) then true else qg n ps l m q):=by
 unfold a2x;rw [if_pos h,if_pos h2]
def a3d (n:Int) (l m:List Fd) (ps:List AS):Int:=if o3 l ps = true then al .or .i64 (fmI n l m ps) 2 else fmI n l m ps
def aeu (n:Int) (l m:List Fd) (ps:List AS) (c:Int) (q:List SI):Int:=if ¬ al .and .i64 c 1 = 0 /\ qg n ps l m q = true then al .or .i64 (a3d n l m ps) 1 else a3d n l m ps
def bc0 (h:((bw l ps l.length).length:Int) = 0):al .or .i64 (fmI n l m ps) 2 = a3d n l m ps:=(if_pos (a9i.symm.trans (decide_eq_true h))).symm
def bby (h:¬ ((bw l ps l.length).length:Int) = 0):fmI n l m ps = a3d n l m ps:=(if_neg (by rw [a9i.symm.trans (decide_eq_false h)];exact bmg)).symm
def ba0 (h:¬ al .and .i64 c 1 = 0) (h2:qg n ps l m q = true):al .or .i64 (a3d n l m ps) 1 = aeu n l m ps c q:=(if_pos ⟨h,h2⟩).symm
def bda (h2:qg n ps l m q = false):a3d n l m ps = aeu n l m ps c q:=(if_neg (by rw [h2];exact fun e=>bmg e.2)).symm
def bd0 (h:al .and .i64 c 1 = 0):a3d n l m ps = aeu n l m ps c q:=(if_neg (fun e=>e.1 h)).symm
def b5a:∀ c:Fin 32,∀ a b d e f:Bool,decide (al .andNot .i64 (c.val:Int) (if ¬ al .and .i64 (c.val:Int) 1 = 0 /\ f = true then al .or .i64 (if a = true then al .or .i64 (j4 false b d e) 2 else j4 false b d e) 1 else (if a = true then al .or .i64 (j4 false b d e) 2 else j4 false b d e)) = 0) =
 (if al .andNot .i64 (al .andNot .i64 (c.val:Int) 1) (j4 a b d e) = 0 then (bif decide (al .and .i64 (c.val:Int) 1 = 0) then true else f) else false):=by decide +kernel
def b5p (h:lvE n ps = 0 /\ be n l m = 0 /\ 0 <= c /\ c <= 31):decide (al .andNot .i64 c (aeu n l m ps c q) = 0) = a2x n l m ps c q:=by
 obtain ⟨h1,h2,h3,h4⟩:=h;rw [show a2x n l m ps c q = (if al .andNot .i64 (al .andNot .i64 c 1) (tl n l m ps) = 0 then (bif decide (al .and .i64 c 1 = 0) then true else qg n ps l m q) else false) from if_pos ⟨h1,h2,h3,h4⟩];unfold aeu a3d;rw [b7g ⟨h1,h2⟩];unfold tl;generalize o3 l ps = A;generalize ps.all (thB n l) = B;generalize ps.all (byB l) = C;generalize ps.all (foB n l m) = D;generalize qg n ps l m q = F;obtain ⟨k,rfl⟩:=Int.eq_ofNat_of_zero_le h3;exact b5a ⟨k,by omega⟩ A B C D F
end
end
end Go.Hx

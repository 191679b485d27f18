/- A part of the proof: Dw6 Dw4 Ds6 Dw7 Dw10 Dw12 Ds12 Y13 Bz11 Dw13. -/
import Derived.Test.YtkkenjdfbojdlaaGreatDoorKx40
set_option linter.all false
set_option maxRecDepth 100000
set_option maxHeartbeats 1000000
namespace Go.Hx
section
open Go.Proofs
def ba1 (n:Int) (l m:List Fd) (p:AS):a6 br6 104 [.agg [.raw (.int .i64 n),fdl l,fdl m],pA p] (a8 [pB (thB n l p)]):=by
 refine hpx (nt:=21) Tryz.func104 ?_;refine sx7 ?_;refine m9 0 ?_;refine w_9 ?_;refine qcx (wgx Tryz.func156) (b6h n l p) ?_;refine c5 ?_;refine ah rfl rfl (fun r0=>?_) (fun r0=>?_)
 ·
  have h0:=r0;(iterate 2 refine qy ?_ (hg:=(gtt r0)));refine w_3 ?_
  exact hx8 rfl rfl rfl (⟨ccb (by unfold thB;first | rfl | simp_all),trivial⟩)
 have h0:=r0;(iterate 2 refine k9 (gft r0) ?_);refine rq rfl rfl rfl rfl rfl ?_ (hp:=r0);refine w_2 ?_
 exact hx8 rfl rfl rfl (⟨ccb (by unfold thB;first | rfl | simp_all),trivial⟩)
def b6t (n:Int) (l m:List Fd) (p:AS):a6 br6 105 [.agg [.raw (.int .i64 n),fdl l,fdl m],pA p] (a8 [pB (byB l p)]):=by
 refine hpx (nt:=22) Tryz.func105 ?_;refine sx7 ?_;refine m9 0 ?_;refine w_7 ?_;refine qcx (wgx Tryz.func157) (bk4 l p) ?_;refine w_4 ?_;refine m9 1 ?_;refine w_9 ?_;refine ah rfl rfl (fun r0=>?_) (fun r0=>?_)
 ·
  have h0:=cu r0;(iterate 2 refine qy ?_ (hg:=(gtt r0)));refine w_3 ?_
  exact hx8 rfl rfl rfl (⟨ccb (by unfold byB;first | rfl | simp_all),trivial⟩)
 have h0:=ct r0;(iterate 2 refine k9 (gft r0) ?_);refine rq rfl rfl rfl rfl rfl ?_ (hp:=r0);refine w_2 ?_
 exact hx8 rfl rfl rfl (⟨ccb (by unfold byB;first | rfl | simp_all),trivial⟩)
def azu (n:Int) (l m:List Fd) (p:AS):a6 br6 106 [.agg [.raw (.int .i64 n),fdl l,fdl m],pA p] (a8 [pB (foB n l m p)]):=by
 refine hpx (nt:=26) Tryz.func106 ?_;refine sx7 ?_;refine m9 0 ?_;refine cq ?_;refine qcx (wgx Tryz.func80) (bj9 n l m p) ?_;refine w_4 ?_;refine m9 1 ?_;refine w_9 ?_;refine ah rfl rfl (fun r0=>?_) (fun r0=>?_)
 ·
  have h0:=cu r0;(iterate 2 refine qy ?_ (hg:=(gtt r0)));refine w_3 ?_
  exact hx8 rfl rfl rfl (⟨ccb (by unfold foB;first | rfl | simp_all),trivial⟩)
 have h0:=ct r0;(iterate 2 refine k9 (gft r0) ?_);refine rq rfl rfl rfl rfl rfl ?_ (hp:=r0);refine w_2 ?_
 exact hx8 rfl rfl rfl (⟨ccb (by unfold foB;first | rfl | simp_all),trivial⟩)
def baa (p:AS) (g k:Nat) (fr:Nat -> PV) (V:AS -> Bool) (hg:goodFn br6 g) (hV:∀ p,a6 br6 g [.agg (pvN fr k 0),pA p] (a8 [pB (V p)])):a6 br6 155 [pA p,pP (bx (.bnd g k fr))] (a8 [pB (!V p)]):=by
 refine hpx (nt:=8) Tryz.func155 ?_;refine w_8 ?_;refine rc rfl rfl rfl rfl rfl rfl hg (hV p) (CoL.refl _) rfl rfl ?_;refine v_3 ?_;exact CoL.refl _
def ba3 {ps:List AS} {V:AS -> Bool}:(!ps.any fun p=>!V p) = ps.all V:=by rw [<- List.not_all_eq_any_not,Bool.not_not]
def afe:goodFn br6 103:=wgx Tryz.func103
def anu (ps:List AS) (g k:Nat) (fr:Nat -> PV) (V:AS -> Bool) (hg:goodFn br6 g) (hV:∀ p,a6 br6 g [.agg (pvN fr k 0),pA p] (a8 [pB (V p)])):a6 br6 103 [pP (asl ps),pP (.bnd g k fr)] (a8 [pB (ps.all V)]):=by
 refine hpx (nt:=9) Tryz.func103 ?_;refine sx7 ?_;refine m9 0 ?_;refine w_3 ?_;refine cz 3 rfl rfl rfl ?_;refine w_3 ?_;refine qcx agi (asq ps 155 1 (fun i=>[bx (.bnd g k fr)].getD i .any) (fun p=>!V p) (wgx Tryz.func155) (fun p=>baa p g k fr V hg hV)) ?_;refine v_3 ?_;exact ⟨ccb ba3,trivial⟩
def bho (n:Int) (l m:List Fd) (ps:List AS) (hl:l.length <= 16777216):a6 br6 46 [.agg [.raw (.int .i64 n),fdl l,fdl m],pP (asl ps)] (a8 [pI (a16 n l m ps)]):=by
 refine hpx (nt:=31) Tryz.func46 ?_;refine sx7 ?_;refine m9 0 ?_;refine w_6 ?_;refine jx (ka 1 (ka 2 kn)) (kb 0 km) ⟨[(5,some (vI (ly (k6 l ps) false false false)))],[]⟩ ?_ ?_
 ·
  refine w_5 ?_;refine qcx an3 (b28 l ps hl) ?_;refine bz ?_;refine hcb (fun h0=>?_) (fun h0=>?_)
  · have hA:=h0;refine w_5 ?_;exact ⟨⟨⟨_,rfl,(coi (by first | exact axx hA | (rw [hA];done) | (rw [hA];rfl)))⟩,tt⟩,uu⟩
  have hA:=h0;refine ck ?_;exact ⟨⟨⟨_,rfl,(coi (by first | exact axx hA | (rw [hA];done) | (rw [hA];rfl)))⟩,tt⟩,uu⟩
 refine jx (ka 1 (ka 2 kn)) (kb 0 km) ⟨[(5,some (vI (ly (k6 l ps) (ps.all (thB n l)) false false)))],[]⟩ ?_ ?_
 ·
  refine w_5 ?_;refine qcx afe (anu ps 104 3 (fun i=>([PV.raw (.int .i64 n),fdl l,fdl m]:List PV).getD i .any) (thB n l) (wgx Tryz.func104) (fun p=>ba1 n l m p)) ?_;refine bz ?_;refine hcb (fun h1=>?_) (fun h1=>?_)
  · have hB:=h1;refine w_5 ?_;exact ⟨⟨⟨_,rfl,(coi (by first | exact awk hB | (rw [hB];done) | (rw [hB];rfl)))⟩,tt⟩,uu⟩
  have hB:=h1;refine ck ?_;exact ⟨⟨⟨_,rfl,(coi (by first | exact awk hB | (rw [hB];done) | (rw [hB];rfl)))⟩,tt⟩,uu⟩
 refine jx (ka 1 (ka 2 kn)) (kb 0 km) ⟨[(5,some (vI (ly (k6 l ps) (ps.all (thB n l)) (ps.all (byB l)) false)))],[]⟩ ?_ ?_
 ·
  refine w_5 ?_;refine qcx afe (anu ps 105 3 (fun i=>([PV.raw (.int .i64 n),fdl l,fdl m]:List PV).getD i .any) (byB l) (wgx Tryz.func105) (fun p=>b6t n l m p)) ?_;refine bz ?_;refine hcb (fun h2=>?_) (fun h2=>?_)
  · have hC:=h2;refine w_5 ?_;exact ⟨⟨⟨_,rfl,(coi (by first | exact avz hC | (rw [hC];done) | (rw [hC];rfl)))⟩,tt⟩,uu⟩
  have hC:=h2;refine ck ?_;exact ⟨⟨⟨_,rfl,(coi (by first | exact avz hC | (rw [hC];done) | (rw [hC];rfl)))⟩,tt⟩,uu⟩
 refine jx kn km ⟨[(5,some (vI (ly (k6 l ps) (ps.all (thB n l)) (ps.all (byB l)) (ps.all (foB n l m)))))],[]⟩ ?_ ?_
 ·
  refine w_5 ?_;refine qcx afe (anu ps 106 3 (fun i=>([PV.raw (.int .i64 n),fdl l,fdl m]:List PV).getD i .any) (foB n l m) (wgx Tryz.func106) (fun p=>azu n l m p)) ?_;refine bz ?_;refine hcb (fun h3=>?_) (fun h3=>?_)
  · have hD:=h3;refine w_5 ?_;exact ⟨⟨⟨_,rfl,(coi (by first | exact axt hD | (rw [hD];done) | (rw [hD];rfl)))⟩,trivial⟩,trivial⟩
  have hD:=h3;refine ck ?_;exact ⟨⟨⟨_,rfl,(coi (by first | exact axt hD | (rw [hD];done) | (rw [hD];rfl)))⟩,trivial⟩,trivial⟩
 refine v_5 ?_;exact CoL.refl _
def b73 (n:Int) (l m:List Fd) (ps:List AS):a6 br6 18 [pI n,pP (fdl l),pP (fdl m),pP (asl ps)] (a8 [pI (pf n l m ps),pI (lsC n ps l m)]):=by
 refine hpx (nt:=34) Tryz.func18 ?_;refine cq ?_;refine qcx (wgx Tryz.func45) (bks n ps l m) ?_;refine dy ?_;refine hcn (fun h0=>?_) (fun h0=>?_)
 · have hr:=b4l (l:=l) (m:=m) (ps:=ps) (n:=n) h0;refine v_6 ?_;exact ⟨cci hr.symm,CoC.refl _,trivial⟩
 have hls:lsC n ps l m = 0:=by assumption
 have hl:l.length <= 16777216:=by have:=(kz (pl hls).2).2.2.1;omega
 refine w_8 ?_;refine qcx (wgx Tryz.func46) (bho n l m ps hl) ?_;refine w_2 ?_;refine jx kn km ⟨[(12,some (vI (pf n l m ps)))],[]⟩ ?_ ?_
 ·
  refine w_4 ?_;refine hcb (fun h1=>?_) (fun h1=>?_)
  · have hr:=bgv hls h1;refine w_5 ?_;exact ⟨⟨⟨_,rfl,(coi hr.symm)⟩,trivial⟩,trivial⟩
  have hr:=bib hls h1;refine ck ?_;exact ⟨⟨⟨_,rfl,(coi hr.symm)⟩,trivial⟩,trivial⟩
 refine v_6 ?_;exact ⟨CoC.refl _,cci hls.symm,trivial⟩
def b4y (n:Int) (l m:List Fd) (ps:List AS):a6 br6 35 [pI n,pP (fdl l),pP (fdl m),pP (asl ps)] (a8 [dsn (fuD n l m ps),pI (lsC n ps l m)]):=by
 refine hpx (nt:=45) Tryz.func35 ?_;refine sx7 ?_;refine m9 0 ?_;refine w_8 ?_;refine qcx (wgx Tryz.func18) (b73 n l m ps) ?_;refine dy ?_;refine hcn (fun h0=>?_) (fun h0=>?_)
 · have hr:=bg3 (l:=l) (m:=m) (ps:=ps) (n:=n) h0;refine v_7 ?_;exact by rw [hr];exact ⟨CoC.agg ⟨coN,CoP.refl _,coN,trivial⟩,CoC.refl _,trivial⟩
 have hls:lsC n ps l m = 0:=by assumption
 have hodd:=aqw hls;refine w_6 ?_;refine m9 1 ?_;refine w_9 ?_;refine hcn (fun h1=>?_) (fun h1=>?_)
 ·
  have hb:lsB n ps l m = true:=by
   cases hq:lsB n ps l m with
   | true=>rfl
   | false=>rw [hq] at hodd;exact absurd (a0i hodd) h1
  have hp0:=bi0 hls hb;have hr:=beb hls hb;refine w_6 ?_;refine qcx (wgx Tryz.func81) (bai n ps l m) ?_;refine dy ?_;refine hcn (fun h2=>?_) (fun h2=>?_)
  · exfalso;exact h2 hp0
  refine v_7 ?_;exact by rw [hr,hls];first | exact CoL.refl _ | exact ⟨CoC.agg ⟨CoP.refl _,CoP.refl _,coN,trivial⟩,CoC.refl _,trivial⟩
 have hb:lsB n ps l m = false:=by
  cases hq:lsB n ps l m with
  | false=>rfl
  | true=>rw [hq] at hodd;have hx:=a1w hodd;simp_all
 have hr:=bft hls hb;refine v_7 ?_;exact by rw [hr,hls];first | exact CoL.refl _ | exact ⟨CoC.agg ⟨CoP.refl _,CoP.refl _,coN,trivial⟩,CoC.refl _,trivial⟩
def bcl (n:Int) (l m:List Fd):a6 br6 31 [pI n,pP (fdl l),pP (fdl m)] (a8 [pI (o5 n l m)]):=by
 refine hpx (nt:=17) Tryz.func31 ?_;refine c5 ?_;refine ah rfl rfl (fun r0=>?_) (fun r0=>?_)
 ·
  have h0:=tz1 r0;have hk:=aj6 (l:=l) (m:=m) (n:=n) (.inl h0);(iterate 2 refine k9 (gtf r0) ?_);refine rq rfl rfl rfl rfl rfl ?_ (hp:=r0);refine w_6 ?_
  exact hx8 rfl rfl rfl (⟨cci hk.symm,trivial⟩)
 have h0:=tz2 r0;(iterate 2 refine qy ?_ (hg:=(gff r0)));refine w_2 ?_;refine ak _ rfl (fun r1=>?_) (fun r1=>?_)
 · have h1:=tz1 (au r0 r1);have hk:=aj6 (l:=l) (m:=m) (n:=n) (.inr h1);refine v_4 ?_;exact ⟨cci hk.symm,trivial⟩
 have h1:=tz2 (au r0 r1);have hk:o5 n l m = bt n l m:=b3r bqi;refine w_6 ?_;refine qcx a2k (zj n l m) ?_;refine v_2 ?_;exact ⟨cci hk.symm,trivial⟩
def bb4 (n:Int) (l m:List Fd):a6 br6 17 [pI n,pP (fdl l),pP (fdl m)] (a8 [pI (o5 n l m)]):=by
 refine hpx (nt:=17) Tryz.func17 ?_;refine c5 ?_;refine ah rfl rfl (fun r0=>?_) (fun r0=>?_)
 ·
  have h0:=tz1 r0;have hk:=aj6 (l:=l) (m:=m) (n:=n) (.inl h0);(iterate 2 refine k9 (gtf r0) ?_);refine rq rfl rfl rfl rfl rfl ?_ (hp:=r0);refine w_6 ?_
  exact hx8 rfl rfl rfl (⟨cci hk.symm,trivial⟩)
 have h0:=tz2 r0;(iterate 2 refine qy ?_ (hg:=(gff r0)));refine w_2 ?_;refine ak _ rfl (fun r1=>?_) (fun r1=>?_)
 · have h1:=tz1 (au r0 r1);have hk:=aj6 (l:=l) (m:=m) (n:=n) (.inr h1);refine v_4 ?_;exact ⟨cci hk.symm,trivial⟩
 have h1:=tz2 (au r0 r1);have hk:o5 n l m = bt n l m:=b3r bqi;refine w_6 ?_;refine qcx a67 (a0b n l m) ?_;refine v_2 ?_;exact ⟨cci hk.symm,trivial⟩
def ahv (n:Int) (l m:List Fd) (f:Int) (h5:¬ f = 5):a6 br6 12 [pI n,pP (fdl l),pP (fdl m),pI f] (a8 [dsn (goD n l m (mt n l m f)),pI (goE n l m (mt n l m f))]):=by
 refine hpx (nt:=58) Tryz.func12 ?_;refine sx7 ?_;refine m9 0 ?_;refine w_8 ?_;refine qcx (wgx Tryz.func31) (bcl n l m) ?_;refine w_7 ?_;refine hcn (fun h0=>?_) (fun h0=>?_)
 · have hr:=azq (q:=mt n l m f) h0;refine v_7 ?_;exact by rw [hr.1,hr.2];exact ⟨CoC.agg ⟨coN,CoP.refl _,coN,trivial⟩,CoC.refl _,trivial⟩
 have hk:o5 n l m = 0:=by assumption
 refine w_9 ?_;refine jx (ka 0 (ka 1 (ka 2 (ka 8 kn)))) (kb 0 km) ⟨[(11,some (.v (.one (.p (asl (mt n l m f).1))))),(12,some (vI (mt n l m f).2))],[]⟩ ?_ ?_
 ·
  refine c5 ?_;refine hcd (fun h1=>?_) (fun h1=>?_)
  · have hf3:f = 3:=h1;have hpp:=bjj (n:=n) (l:=l) (m:=m) hf3;refine w_3 ?_;refine qcx (wgx Tryz.func32) (aqm azd n l) ?_;refine w_6 ?_;exact ⟨⟨⟨_,rfl,(by rw [hpp];first | exact CoR.refl _ | exact coN)⟩,⟨_,rfl,(by rw [hpp];exact CoR.refl _)⟩,tt⟩,uu⟩
  have hf3:¬ f = 3:=h1;refine w_5 ?_;refine hcd (fun h2=>?_) (fun h2=>?_)
  · have hf4:f = 4:=h2;have hpp:=bjw (n:=n) (l:=l) (m:=m) hf3 hf4;refine w_3 ?_;refine qcx (wgx Tryz.func33) (bkz n l) ?_;refine w_6 ?_;exact ⟨⟨⟨_,rfl,(by rw [hpp];first | exact CoR.refl _ | exact coN)⟩,⟨_,rfl,(by rw [hpp];exact CoR.refl _)⟩,tt⟩,uu⟩
  have hf4:¬ f = 4:=h2;refine w_5 ?_;refine hcd (fun h3=>?_) (fun h3=>?_)
  · exfalso;exact h5 h3
  have hpp:=bk5 (n:=n) (l:=l) (m:=m) hf3 hf4 h3;refine w_3 ?_;exact ⟨⟨⟨_,rfl,(by rw [hpp];first | exact CoR.refl _ | exact coN)⟩,⟨_,rfl,(by rw [hpp];exact CoR.refl _)⟩,tt⟩,uu⟩
 refine w_6 ?_;refine hcn (fun h4=>?_) (fun h4=>?_)
 · have hr:=bc7 (q:=mt n l m f) hk h4;refine v_7 ?_;exact by rw [hr.1,hr.2];exact ⟨CoC.agg ⟨coN,CoP.refl _,coN,trivial⟩,CoC.refl _,trivial⟩
 have hr:=b1c (q:=mt n l m f) hk bqj;refine w_7 ?_;refine qcx (wgx Tryz.func35) (b4y n l m (mt n l m f).1) ?_;refine v_5 ?_;exact by rw [hr.1,hr.2];exact CoL.refl _
def b49 (n:Int) (l m:List Fd):a6 br6 15 [pI n,pP (fdl l),pP (fdl m)] (a8 [dsn (goD n l m (jo n l)),pI (goE n l m (jo n l))]):=by
 refine hpx (nt:=50) Tryz.func15 ?_;refine sx7 ?_;refine m9 0 ?_;refine w_8 ?_;refine qcx (wgx Tryz.func31) (bcl n l m) ?_;refine w_7 ?_;refine hcn (fun h0=>?_) (fun h0=>?_)
 · have hr:=azq (q:=jo n l) h0;refine v_7 ?_;exact by rw [hr.1,hr.2];exact ⟨CoC.agg ⟨coN,CoP.refl _,coN,trivial⟩,CoC.refl _,trivial⟩
 have hk:o5 n l m = 0:=by assumption
 refine w_5 ?_;refine qcx (wgx Tryz.func42) (bim n l) ?_;refine w_8 ?_;refine jx (ka 0 (ka 1 (ka 2 (ka 6 kn)))) (kb 0 km) ⟨[(9,some (.v (.one (.p (asl (jo n l).1))))),(11,some (vI (jo n l).2))],[]⟩ ?_ ?_
 ·
  refine w_5 ?_;refine ah rfl rfl (fun r1=>?_) (fun r1=>?_)
  ·
   have h1:=tz1 r1;(iterate 2 refine qy ?_ (hg:=(gtt r1)));refine w_2 ?_;refine ak _ rfl (fun r2=>?_) (fun r2=>?_)
   · have h2:=cu (br r1 r2);have hpp:=bed (n:=n) (l:=l) bqj bqs;refine w_3 ?_;refine qcx (wgx Tryz.func32) (aqm azd n l) ?_;refine w_6 ?_;exact ⟨⟨⟨_,rfl,(by rw [hpp];exact CoR.refl _)⟩,⟨_,rfl,(by rw [hpp];exact CoR.refl _)⟩,tt⟩,uu⟩
   have h2:=ct (br r1 r2);have hpp:=bcp (n:=n) (l:=l) bqj bqs;refine ck ?_;exact ⟨⟨⟨_,rfl,(by rw [hpp];exact CoR.refl _)⟩,⟨_,rfl,(by rw [hpp];exact CoR.refl _)⟩,tt⟩,uu⟩
  have h1:=tz2 r1;have hpp:=bkb (n:=n) (l:=l) h1;(iterate 2 refine k9 (gft r1) ?_);refine rq rfl rfl rfl rfl rfl ?_ (hp:=r1);refine w_3 ?_
  exact ⟨⟨⟨_,rfl,(by rw [hpp];exact CoR.refl _)⟩,⟨_,rfl,(by rw [hpp];exact CoR.refl _)⟩,tt⟩,uu⟩
 refine w_6 ?_;refine hcn (fun h3=>?_) (fun h3=>?_)
 · have hr:=bc7 (q:=jo n l) hk h3;refine v_7 ?_;exact by rw [hr.1,hr.2];exact ⟨CoC.agg ⟨coN,CoP.refl _,coN,trivial⟩,CoC.refl _,trivial⟩
 have hr:=b1c (q:=jo n l) hk bqj;refine w_7 ?_;refine qcx (wgx Tryz.func35) (b4y n l m (jo n l).1) ?_;refine v_5 ?_;exact by rw [hr.1,hr.2];exact CoL.refl _
end
section
open Go.Proofs
def b5m (ns:List Bs) (l m:List Fd) (ps:List AS) (c:Int) (sts:PV) (hsz:∀ b ∈ ns,b.size <= 1000):a6 br6 23 [pP (bsl ns),pP (fdl l),pP (fdl m), .agg [asl ps, .raw (.int .i64 c),sts]] (a8 [pS (agr ns l m ps c),pI (vc ns l m ps)]):=by
 refine hpx (nt:=128) Tryz.func23 ?_;refine sx7 ?_;refine m9 0 ?_;refine m9 1 ?_;refine w_7 ?_;refine qcx (wgx Tryz.func51) (b7d ns (fun b hb=>bmo (hsz b hb) bqo)) ?_;refine cq ?_;refine hcn (fun h0=>?_) (fun h0=>?_)
 · refine w_6 ?_;refine hrr ?_;have hr:=bfm (l:=l) (m:=m) (ps:=ps) (c:=c) h0;exact f9 rfl rfl (⟨CoC.one (CoP.of_eq (by rw [hr.2];rfl)),cci hr.1.symm,trivial⟩)
 refine ja ?_;refine qcx (wgx Tryz.func52) (arf ns.length ps) ?_;refine w_7 ?_;refine hcn (fun h1=>?_) (fun h1=>?_)
 · refine w_6 ?_;refine hrr ?_;have hr:=bdz (l:=l) (m:=m) (c:=c) h0 h1;exact f9 rfl rfl (⟨CoC.one (CoP.of_eq (by rw [hr.2];rfl)),cci hr.1.symm,trivial⟩)
 refine w_7 ?_;refine qcx a2k (zj ns.length l m) ?_;refine w_7 ?_;refine hcn (fun h2=>?_) (fun h2=>?_)
 · refine w_6 ?_;refine hrr ?_;have hr:=bg0 (c:=c) h0 h1 h2;exact f9 rfl rfl (⟨CoC.one (CoP.of_eq (by rw [hr.2];rfl)),cci hr.1.symm,trivial⟩)
 refine w_2 ?_;refine cz 4 rfl rfl rfl ?_;refine cz 7 rfl rfl rfl ?_;have he:n4 ns = 0:=h0;have hv:lvE ns.length ps = 0:=h1;have hb:bt ns.length l m = 0:=h2;obtain ⟨hn0,hn8,h64,_,_⟩:=oe hv;obtain ⟨_,_,hl64,hall,_,_⟩:=kz hb;have hx:=bhy hsz;have hP:∀ i,(gq ns l ps i).length <= 134400000000:=fun i=>ati hsz (fun p hp=>ajc hv hp) h64
 have hin:∀ f ∈ l,sub f.lhs (a7 ns.length) /\ sub f.rhs (a7 ns.length):=fun f hf=>by
  have:=(b8p hn0 bqi).1 (bnh.1 hall f hf);exact ⟨d8 qj this,d8 zt this⟩
 have hmem:∀ s,sub s (a7 ns.length) -> ∀ i ∈ aj s,i < ns.length:=fun s hs i hi=>b5w bqi hs hi;refine w_6 ?_;refine m9 2 ?_;refine c5 ?_;refine b5 (ka 1 (ka 7 (ka 15 (ka 16 (ka 51 (ka 52 kn)))))) km (fun i=>⟨[(53,some (vI i))],[(2,some (bd false (gq ns l ps i)))]⟩) ps.length ⟨tt,⟨⟨_,rfl,⟨fun h=>(by cases h),rfl,rfl,rfl⟩⟩,trivial⟩⟩ ?_;rintro i hi;refine w_5 ?_;refine hcd (fun h3=>?_) (fun h3=>?_)
 ·
  have hil:i < ps.length:=by omega
  have hmp:(ps.getD i default) ∈ ps:=dl hil;have hps:sub (ps.getD i default) (a7 ns.length):=a69 hv hmp;refine ja ?_;refine qcx ac3 (air (ps.getD i default) ns (hmem _ hps) hsz) ?_;refine rq rfl rfl rfl rfl rfl ?_ (hp:=(by have h2:=hx (ps.getD i default);show 5 + _ <= _;omega));refine rq rfl rfl rfl rfl rfl ?_ (hp:=(by have h2:=hx (ps.getD i default);rw [szA];show 5 + _ + 5 <= _;omega));refine fc9 sh (sd 2 false (gq ns l ps i) ((⟨#[112,97,114,116,32]⟩ ++ txT ns (ps.getD i default)) ++ ⟨#[32,107,101,121,115]⟩) (by have h1:=hP i;have h2:=hx (ps.getD i default);rw [szA,szA];show _ + (5 + _ + 5) <= _;omega)) uu ?_;refine w_6 ?_;refine qcx (wgx Tryz.func58) (cPk l (ps.getD i default)) ?_;refine w_4 ?_;refine b5 (ka 1 (ka 7 (ka 15 (ka 16 (ka 51 (ka 52 (ka 53 (ka 65 (ka 66 kn))))))))) km (fun k=>⟨[(67,some (vI k))],[(2,some (bd false (((gq ns l ps i) ++ vg ns (ps.getD i default)) ++ og ns (pkL l (ps.getD i default)) k)))]⟩) ((pkL l (ps.getD i default)).length) ⟨tt,⟨⟨_,rfl,(CoO.of_eq (by rw [bb3]))⟩,trivial⟩⟩ ?_;rintro k hk;refine w_5 ?_;refine hcd (fun h4=>?_) (fun h4=>?_)
  ·
   have hkk:k < (pkL l (ps.getD i default)).length:=by omega
   have hkey:sub ((pkL l (ps.getD i default)).getD k default) (a7 ns.length):=d8 (bct (dl hkk)) hps;have hpl:=ac7 (l:=l) (ajc hv hmp);refine dy ?_;refine qcx ac3 (air ((pkL l (ps.getD i default)).getD k default) ns (hmem _ hkey) hsz) ?_;refine rq rfl rfl rfl rfl rfl ?_ (hp:=(by have h2:=hx ((pkL l (ps.getD i default)).getD k default);show 1 + _ <= _;omega));refine fc9 sh (sd 2 false (((gq ns l ps i) ++ vg ns (ps.getD i default)) ++ og ns (pkL l (ps.getD i default)) k) (⟨#[32]⟩ ++ txT ns ((pkL l (ps.getD i default)).getD k default)) (by have h1:=hP i;have h2:=hx ((pkL l (ps.getD i default)).getD k default);have h3:=a6g hsz (ps.getD i default);have h4:=a6y (i:=k) (ks:=(pkL l (ps.getD i default))) hsz;have h5:=ac7 (l:=l) (ajc hv hmp);rw [szA,bmg,bmg];show _ + (1 + _) <= _;omega)) uu ?_;refine w_5 ?_;exact lpx (k + 1) ⟨tt,⟨⟨_,rfl,(CoO.of_eq (by rw [bf0 hkk]))⟩,trivial⟩⟩
  obtain rfl:k = (pkL l (ps.getD i default)).length:=by omega
  refine w_2 ?_;refine fc9 sh (sd 2 false (((gq ns l ps i) ++ vg ns (ps.getD i default)) ++ og ns (pkL l (ps.getD i default)) (pkL l (ps.getD i default)).length) ⟨#[10]⟩ (by have h1:=hP i;have h3:=a6g hsz (ps.getD i default);have h4:=a6y (i:=(pkL l (ps.getD i default)).length) (ks:=(pkL l (ps.getD i default))) hsz;have h5:=ac7 (l:=l) (ajc hv hmp);rw [bmg,bmg];show _ + 1 <= _;omega)) uu ?_;refine w_5 ?_;exact lpx (i + 1) ⟨tt,⟨⟨_,rfl,(CoO.of_eq (by rw [b95 hil]))⟩,trivial⟩⟩
 obtain rfl:i = ps.length:=by omega
 refine w_7 ?_;refine qcx (wgx Tryz.func59) (b4b l ps bqi) ?_;refine w_4 ?_;have hL:∀ j,(ji ns l (ca l ps l.length) j).length <= 4102400:=fun j=>at9 hsz (bmo aki hl64);refine b5 (ka 1 (ka 7 (ka 15 (ka 16 (ka 82 (ka 83 kn)))))) km (fun j=>⟨[(84,some (vI j))],[(2,some (bd false ((gq ns l ps ps.length) ++ ji ns l (ca l ps l.length) j)))]⟩) ((ca l ps l.length).length) ⟨tt,⟨⟨_,rfl,(CoO.of_eq (by rw [show ji ns l (ca l ps l.length) 0 = [] from rfl,bn9]))⟩,trivial⟩⟩ ?_;rintro j hj;refine w_5 ?_;refine hcd (fun h5=>?_) (fun h5=>?_)
 ·
  have hjl:j < (ca l ps l.length).length:=by omega
  have hj2:=bbe hjl;have hls:=bmo (aki (l:=l) (ps:=ps)) hl64;have hf:=hin (l.getD ((ca l ps l.length).getD j default) default) (dl hj2);refine ja ?_;refine rq rfl rfl rfl rfl rfl ?_ (hp:=⟨rfl,bom _,Int.ofNat_lt.2 hj2⟩);refine w_2 ?_;refine qcx ac3 (air (l.getD ((ca l ps l.length).getD j default) default).lhs ns (hmem _ hf.1) hsz) ?_;refine rq rfl rfl rfl rfl rfl ?_ (hp:=(by have h2:=hx (l.getD ((ca l ps l.length).getD j default) default).lhs;show 5 + _ <= _;omega));refine rq rfl rfl rfl rfl rfl ?_ (hp:=(by have h2:=hx (l.getD ((ca l ps l.length).getD j default) default).lhs;rw [szA];show 5 + _ + 4 <= _;omega));refine w_3 ?_;refine rq rfl rfl rfl rfl rfl ?_ (hp:=⟨rfl,bom _,Int.ofNat_lt.2 hj2⟩);refine w_2 ?_;refine qcx ac3 (air (l.getD ((ca l ps l.length).getD j default) default).rhs ns (hmem _ hf.2) hsz) ?_;refine rq rfl rfl rfl rfl rfl ?_ (hp:=(by have h2:=hx (l.getD ((ca l ps l.length).getD j default) default).lhs;have h3:=hx (l.getD ((ca l ps l.length).getD j default) default).rhs;rw [szA,szA];show 5 + _ + 4 + _ <= _;omega));refine rq rfl rfl rfl rfl rfl ?_ (hp:=(by have h2:=hx (l.getD ((ca l ps l.length).getD j default) default).lhs;have h3:=hx (l.getD ((ca l ps l.length).getD j default) default).rhs;rw [szA,szA,szA];show 5 + _ + 4 + _ + 1 <= _;omega));refine fc9 sh (sd 2 false ((gq ns l ps ps.length) ++ ji ns l (ca l ps l.length) j) ((((⟨#[108,111,115,116,32]⟩ ++ txT ns (l.getD ((ca l ps l.length).getD j default) default).lhs) ++ ⟨#[32,45,62,32]⟩) ++ txT ns (l.getD ((ca l ps l.length).getD j default) default).rhs) ++ ⟨#[10]⟩) (by have h1:=hP ps.length;have h2:=hx (l.getD ((ca l ps l.length).getD j default) default).lhs;have h3:=hx (l.getD ((ca l ps l.length).getD j default) default).rhs;have h4:=hL j;rw [szA,szA,szA,szA,bmg];show _ + (5 + _ + 4 + _ + 1) <= _;omega)) uu ?_;refine w_6 ?_;exact lpx (j + 1) ⟨tt,⟨⟨_,rfl,(CoO.of_eq (by rw [bab hjl _ rfl]))⟩,trivial⟩⟩
 obtain rfl:j = (ca l ps l.length).length:=by omega
 refine w_3 ?_;refine fc9 sh (sd 2 false ((gq ns l ps ps.length) ++ ji ns l (ca l ps l.length) (ca l ps l.length).length) ⟨#[99,108,97,105,109,115]⟩ (by have h1:=hP ps.length;have h4:=hL (ca l ps l.length).length;rw [bmg];show _ + 6 <= _;omega)) uu ?_;refine w_4 ?_;refine m9 3 ?_;refine w_4 ?_;refine al 109 rfl rfl rfl ?_;refine ae (ι:=Nat) (ka 7 (ka 16 (ka 110 kn))) km (fun i=>⟨[(109,some (.v (.one (.p (bsl jz))))),(111,some (vI i))],[(2,some (bd false ((((gq ns l ps ps.length) ++ ji ns l (ca l ps l.length) (ca l ps l.length).length) ++ [99,108,97,105,109,115]) ++ j3 c i)))]⟩) (fun i=>i <= 5) (fun i=>5 - i) (0) bqi ⟨⟨⟨_,rfl,(show CoP _ _ from CoP.sl rfl (.inl rfl) (fun h=>by cases h) fun i j hi hj=>by have hj:j < 1:=hj;obtain rfl:j = 0:=bqi;exact CoP.of_eq (b2t (f:=fun a b=>(jz.map fun b=>ll (.string b)).getD (a * 1 + b) .any) hi rfl rfl rfl rfl rfl))⟩,tt⟩,⟨⟨_,rfl,(CoO.of_eq (by rw [show j3 c 0 = [] from rfl,bn9]))⟩,trivial⟩⟩ ?_;rintro i hi;refine w_5 ?_;refine hcd (fun h6=>?_) (fun h6=>?_)
 ·
  have hi5:i < 5:=by have:(i:Int) < 5:=h6;omega
  refine alb ?_;refine hcd (fun h7=>?_) (fun h7=>?_)
  ·
   have hbit:ada c i = true:=decide_eq_true h7;refine w_2 ?_;refine rq rfl rfl rfl rfl rfl ?_ (hp:=(by have h6:=amy hi5;show 1 + (jz.getD i default).size <= _;omega));refine fc9 sh (sd 2 false ((((gq ns l ps ps.length) ++ ji ns l (ca l ps l.length) (ca l ps l.length).length) ++ [99,108,97,105,109,115]) ++ j3 c i) (⟨#[32]⟩ ++ jz.getD i default) (by have h1:=hP ps.length;have h4:=hL (ca l ps l.length).length;have h5:=a9t (c:=c) (i:=i) bqi;have h6:=amy hi5;rw [szA,bmg,bmg,bmg];show _ + 6 + _ + (1 + _) <= _;omega)) uu ?_;refine w_5 ?_
   first | (refine ⟨i + 1, ?_, ?_, ?_⟩
            · show i + 1 <= _;omega
            · first | omega | (dsimp only;omega)
            exact ⟨tt,⟨⟨_,rfl,(CoO.of_eq (by rw [avt hbit]))⟩,trivial⟩⟩)
         | (refine ⟨i + 1, ?_, ?_, ?_⟩
            · show i + 1 <= _;omega
            · first | omega | (dsimp only;omega)
            exact ⟨tt,⟨⟨_,rfl,(CoO.of_eq (by rw [<- ax6 hbit]))⟩,trivial⟩⟩)
  have hbit:ada c i = false:=decide_eq_false h7;refine w_5 ?_
  first | (refine ⟨i + 1, ?_, ?_, ?_⟩
           · show i + 1 <= _;omega
           · first | omega | (dsimp only;omega)
           exact ⟨tt,⟨⟨_,rfl,(CoO.of_eq (by rw [avt hbit]))⟩,trivial⟩⟩)
        | (refine ⟨i + 1, ?_, ?_, ?_⟩
           · show i + 1 <= _;omega
           · first | omega | (dsimp only;omega)
           exact ⟨tt,⟨⟨_,rfl,(CoO.of_eq (by rw [<- ax6 hbit]))⟩,trivial⟩⟩)
 obtain rfl:i = 5:=by have:¬ (i:Int) < 5:=h6;omega
 refine w_3 ?_;refine fc9 sh (sd 2 false ((((gq ns l ps ps.length) ++ ji ns l (ca l ps l.length) (ca l ps l.length).length) ++ [99,108,97,105,109,115]) ++ j3 c 5) ⟨#[10]⟩ (by have h1:=hP ps.length;have h4:=hL (ca l ps l.length).length;have h5:=a9t (c:=c) (i:=5) bqi;rw [bmg,bmg,bmg];show _ + 6 + _ + 1 <= _;omega)) uu ?_;refine w_3 ?_;refine fc9 ayv (b3s 2 false (an5 ns l ps c) (by unfold an5;exact List.append_ne_nil_of_right_ne_nil _ bqm)) uu ?_;refine w_3 ?_;refine hrr ?_;have hr:=bff (c:=c) he hv hb;exact f9 rfl rfl (⟨CoC.one (CoP.of_eq (by rw [hr.2];rfl)),cci hr.1.symm,trivial⟩)
end
section
section
variable {n:Int} {l m:List Fd} {q:List Fd} {i:Nat}
def evT (q:List Fd) (i:Nat):List Fd:=((List.range i).filter fun k=>decide (((k:Nat):Int) % 2 = 0)).map fun k=>q.getD k default
def odT (q:List Fd) (i:Nat):List Fd:=((List.range i).filter fun k=>!decide (((k:Nat):Int) % 2 = 0)).map fun k=>q.getD k default
end
abbrev exC:List Fd:=[⟨1,2⟩,⟨2,4⟩]
abbrev exA:List Fd:=[⟨3,4⟩,⟨4,1⟩]
abbrev exN:List Bs:=[⟨#[97]⟩,⟨#[98]⟩,⟨#[99]⟩]
def bj7:(goD 3 exC [] (mt 3 exC [] 3)).1 = [3,6] /\ (goD 3 exC [] (mt 3 exC [] 3)).2.1 = 31 /\ goE 3 exC [] (mt 3 exC [] 3) = 0:=by decide +kernel
def bhe:(goD 3 exA [] (mt 3 exA [] 4)).1 = [5,6] /\ (goD 3 exA [] (mt 3 exA [] 4)).2.1 = 29 /\ goE 3 exA [] (mt 3 exA [] 4) = 0:=by decide +kernel
def bgw:(goD 3 exA [] (jo 3 exA)).1 = [7] /\ (goD 3 exA [] (jo 3 exA)).2.1 = 7 /\ goE 3 exA [] (jo 3 exA) = 0:=by decide +kernel
abbrev b2b:List UInt8:=[112,97,114,116,32,97,44,98,32,107,101,121,115,32,97,10,112,97,114,116,32,98,44,99,32,107,101,121,115,32,98,10,99,108,97,105,109,115,32]
abbrev b3n:List UInt8:=[108,111,115,115,108,101,115,115,32,112,114,101,115,101,114,118,105,110,103,32,116,104,105,114,100,32,98,111,121,99,101,32,102,111,117,114,116,104,10]
def bh6:vc exN exC [] [3,6] = 0 /\ an5 exN exC [3,6] 31 = List.append b2b b3n:=by
 constructor <;> decide +kernel
end
section
open Go.Proofs
def bc9 (a:List AS):a6 br6 30 [pP (asl a),pP (asl a)] (a8 [pB true]):=by
 have h:=bk9 a a;rw [decide_eq_true rfl] at h;exact h
def bd4:a6 br6 12 [pI 3,pP (fdl exC),pP (fdl []),pI 3] (a8 [dsn ([3,6],31,(goD 3 exC [] (mt 3 exC [] 3)).2.2),pI 0]):=by
 have h:=ahv 3 exC [] 3 bqo;obtain ⟨h1,h2,h3⟩:=bj7;rw [h3] at h;unfold dsn at h ⊢;rw [h1,h2] at h;exact h
def bf1:a6 br6 12 [pI 3,pP (fdl exA),pP (fdl []),pI 4] (a8 [dsn ([5,6],29,(goD 3 exA [] (mt 3 exA [] 4)).2.2),pI 0]):=by
 have h:=ahv 3 exA [] 4 bqo;obtain ⟨h1,h2,h3⟩:=bhe;rw [h3] at h;unfold dsn at h ⊢;rw [h1,h2] at h;exact h
def bd2:a6 br6 15 [pI 3,pP (fdl exA),pP (fdl [])] (a8 [dsn ([7],7,(goD 3 exA [] (jo 3 exA)).2.2),pI 0]):=by
 have h:=b49 3 exA [];obtain ⟨h1,h2,h3⟩:=bgw;rw [h3] at h;unfold dsn at h ⊢;rw [h1,h2] at h;exact h
def bhz (sts:PV):a6 br6 23 [pP (bsl exN),pP (fdl exC),pP (fdl []), .agg [asl [3,6], .raw (.int .i64 31),sts]] (a8 [pS ⟨(List.append b2b b3n).toArray⟩,pI 0]):=by
 have h:=b5m exN exC [] [3,6] 31 sts bqo;obtain ⟨h1,h2⟩:=bh6;rw [h1,show agr exN exC [] [3,6] 31 = ⟨(List.append b2b b3n).toArray⟩ from (if_pos h1).trans (congrArg bOf h2)] at h;exact h
def ak6  : a6 br6 11 [] (a8 [pB true]):=by
 refine hpx (nt:=84) Tryz.func11 ?_;refine w_8 ?_;refine m9 0 ?_;refine w_6 ?_;refine m9 1 ?_;refine w_3 ?_;refine al 1 rfl rfl rfl ?_;refine al 2 rfl rfl rfl ?_;refine w_2 ?_;refine rc rfl rfl rfl rfl rfl rfl (wgx Tryz.func12) (bd4) (⟨CoC.refl _,(CoC.one (CoP.sl rfl (.inl rfl) (fun h=>(by cases h)) fun i j hi hj=>CoP.of_eq (by have hi:i < 2:=hi;have hj:j < 2:=hj;rcases (show i = 0 \/ i = 1 by omega) with rfl | rfl <;> rcases (show j = 0 \/ j = 1 by omega) with rfl | rfl <;> rfl))),CoC.one coN,CoC.refl _,trivial⟩) rfl rfl ?_;refine w_3 ?_;refine m9 2 ?_;refine w_5 ?_;refine m9 3 ?_;refine w_2 ?_;refine rc rfl rfl rfl rfl rfl rfl (wgx Tryz.func23) (bhz _) (⟨(CoC.one (CoP.sl rfl (.inl rfl) (fun h=>(by cases h)) fun i j hi hj=>CoP.of_eq (by have hi:i < 3:=hi;have hj:j < 1:=hj;obtain rfl:j = 0:=bqi;rcases (show i = 0 \/ i = 1 \/ i = 2 by omega) with rfl | rfl | rfl <;> rfl))),(CoC.one (CoP.sl rfl (.inl rfl) (fun h=>(by cases h)) fun i j hi hj=>CoP.of_eq (by have hi:i < 2:=hi;have hj:j < 2:=hj;rcases (show i = 0 \/ i = 1 by omega) with rfl | rfl <;> rcases (show j = 0 \/ j = 1 by omega) with rfl | rfl <;> rfl))),CoC.one coN,CoC.refl _,trivial⟩) rfl rfl ?_;refine w_9 ?_;refine rc rfl rfl rfl rfl rfl rfl (wgx Tryz.func12) (bf1) (⟨CoC.refl _,(CoC.one (CoP.sl rfl (.inl rfl) (fun h=>(by cases h)) fun i j hi hj=>CoP.of_eq (by have hi:i < 2:=hi;have hj:j < 2:=hj;rcases (show i = 0 \/ i = 1 by omega) with rfl | rfl <;> rcases (show j = 0 \/ j = 1 by omega) with rfl | rfl <;> rfl))),CoC.one coN,CoC.refl _,trivial⟩) rfl rfl ?_;refine w_3 ?_;refine m9 4 ?_;refine w_6 ?_;refine rc rfl rfl rfl rfl rfl rfl (wgx Tryz.func15) (bd2) (⟨CoC.refl _,(CoC.one (CoP.sl rfl (.inl rfl) (fun h=>(by cases h)) fun i j hi hj=>CoP.of_eq (by have hi:i < 2:=hi;have hj:j < 2:=hj;rcases (show i = 0 \/ i = 1 by omega) with rfl | rfl <;> rcases (show j = 0 \/ j = 1 by omega) with rfl | rfl <;> rfl))),CoC.one coN,trivial⟩) rfl rfl ?_
 refine w_3 ?_;refine m9 5 ?_;refine dy ?_;(iterate 2 refine rq rfl rfl rfl rfl (gtt (db rfl rfl)) ?_);refine w_2 ?_;(iterate 2 refine rq rfl rfl rfl rfl (gtt (db (db rfl rfl) rfl)) ?_);refine w_2 ?_;(iterate 3 refine rq rfl rfl rfl rfl (gtt (db (db (db rfl rfl) rfl) rfl)) ?_);refine w_2 ?_;(iterate 2 refine rq rfl rfl rfl rfl (gtt (db (db (db (db rfl rfl) rfl) rfl) rfl)) ?_);refine w_2 ?_
 refine ah rfl rfl (fun r0=>?_) (fun r0=>?_)
 ·
  have h0:=tz1 (br (db (db (db (db rfl rfl) rfl) rfl) rfl) r0);(iterate 2 refine qy ?_ (hg:=(gtt r0)));refine rm 6 rfl rfl rfl rfl rfl (gtt r0) ?_
  refine rc rfl rfl rfl rfl rfl rfl (wgx Tryz.func30) (bc9 [5,6]) (⟨CoC.refl _,(CoC.one (CoP.sl rfl (.inl rfl) (fun h=>(by cases h)) fun i j hi hj=>CoP.of_eq (by have hi:i < 2:=hi;have hj:j < 1:=hj;obtain rfl:j = 0:=bqi;rcases (show i = 0 \/ i = 1 by omega) with rfl | rfl <;> rfl))),trivial⟩) rfl (gtt r0) ?_;refine w_2 ?_;(iterate 3 refine rq rfl rfl rfl rfl (gtt (db r0 rfl)) ?_);refine w_2 ?_;(iterate 2 refine rq rfl rfl rfl rfl (gtt (db (db r0 rfl) rfl)) ?_);refine rm 7 rfl rfl rfl rfl rfl (gtt (db (db r0 rfl) rfl)) ?_;refine rc rfl rfl rfl rfl rfl rfl (wgx Tryz.func30) (bc9 [7]) (⟨CoC.refl _,(CoC.one (CoP.sl rfl (.inl rfl) (fun h=>(by cases h)) fun i j hi hj=>CoP.of_eq (by have hi:i < 1:=hi;have hj:j < 1:=hj;obtain rfl:j = 0:=bqi;obtain rfl:i = 0:=bqi;rfl))),trivial⟩) rfl (gtt (db (db r0 rfl) rfl)) ?_;refine w_2 ?_;(iterate 3 refine rq rfl rfl rfl rfl (gtt (db (db (db r0 rfl) rfl) rfl)) ?_);refine v_3 ?_;exact CoL.refl _
 have h0:=tz2 (br (db (db (db (db rfl rfl) rfl) rfl) rfl) r0);exfalso
 first | exact h0 rfl | exact h0 trivial | cases h0
end
section
open Go.Proofs
def bj2 (d:Rcp) (hf:d.f.length <= 16777216) (hm:d.m.length <= 16777216) (hp:d.p.length <= 16777216):a6 br6 10 [d.pc] (a8 [pI (d.num 4),pP (fdl (d.fs 4)),pP (fdl (d.ms 4)),pP (asl (d.ps 4)),pB (okR d)]):=by
 refine hpx (nt:=30) Tryz.func10 ?_;refine sx7 ?_;refine m9 0 ?_;refine w_9 ?_;refine qcx (wgx Tryz.func29) (bkt d hf hm hp) ?_;refine alb ?_;refine ah rfl rfl (fun r0=>?_) (fun r0=>?_)
 ·
  have h0:=r0;(iterate 3 refine qy ?_ (hg:=(gtt r0)));refine w_7 ?_
  exact hx8 rfl rfl rfl (⟨CoC.refl _,CoC.refl _,CoC.refl _,CoC.refl _,ccb (by unfold okR;first | (simp_all;done) | (rw [‹decide _ = false›];rfl) | (simp_all;omega)),trivial⟩)
 have h0:=r0;(iterate 3 refine k9 (gft r0) ?_);refine rq rfl rfl rfl rfl rfl ?_ (hp:=r0);refine w_6 ?_
 exact hx8 rfl rfl rfl (⟨CoC.refl _,CoC.refl _,CoC.refl _,CoC.refl _,ccb (by unfold okR;first | (simp_all;done) | (rw [‹decide _ = false›];rfl) | (simp_all;omega)),trivial⟩)
end
section
open Go.Proofs
def bgc (n:Int) (l m:List Fd) (ps:List AS) (hn:n <= 16) (hp:∀ q ∈ ps,sub q (a7 n)):a6 br6 48 [pI n,pP (fdl l),pP (fdl m),pP (asl ps)] (a8 [pI (fmI n l m ps)]):=by
 refine hpx (nt:=59) Tryz.func48 ?_;refine w_5 ?_;refine c8 3 rfl fun hlen=>?_;refine w_9 ?_;refine b5 (ka 0 (ka 1 (ka 2 (ka 3 kn)))) km (fun i=>⟨[(9,some (vI (fmI n l m (ps.take i)))),(10,some (vI i))],[]⟩) ps.length kk ?_;rintro i hi;refine w_8 ?_;refine hcd (fun h0=>?_) (fun h0=>?_)
 ·
  have hil:i < ps.length:=by omega
  refine ck ?_;refine jx (ka 0 (ka 1 (ka 2 (ka 3 (ka 10 kn))))) km ⟨[(9,some (vI (fmI n l m (ps.take (i + 1)))))],[]⟩ ?_ ?_
  ·
   refine a5f ?_;refine jx (ka 0 (ka 1 (ka 2 (ka 3 (ka 10 kn))))) km ⟨[(9,some (vI (fm1 n l m ps i)))],[]⟩ ?_ ?_
   ·
    refine w_8 ?_;refine qcx (wgx Tryz.func107) (aws n l (ps.getD i default)) ?_;refine cq ?_;refine hcv (fun h1=>?_) (fun h1=>?_)
    · have hx:=bi2 (m:=m) hil h1;refine w_5 ?_;exact ⟨⟨⟨_,rfl,(coi hx)⟩,tt⟩,trivial⟩
    have hx:=bhp (m:=m) hil h1;refine ck ?_;exact ⟨⟨⟨_,rfl,(coi hx)⟩,tt⟩,trivial⟩
   refine jx (ka 0 (ka 1 (ka 2 (ka 3 (ka 10 kn))))) km ⟨[(9,some (vI (fm2 n l m ps i)))],[]⟩ ?_ ?_
   ·
    refine w_7 ?_;refine qcx (wgx Tryz.func108) (avn l (ps.getD i default)) ?_;refine w_2 ?_;refine hcv (fun h2=>?_) (fun h2=>?_)
    · have hx:=bhx (n:=n) (m:=m) hil (by simpa using h2);refine w_5 ?_;exact ⟨⟨⟨_,rfl,(coi hx)⟩,tt⟩,trivial⟩
    have hx:=bi4 (n:=n) (m:=m) hil (by simpa using h2);refine ck ?_;exact ⟨⟨⟨_,rfl,(coi hx)⟩,tt⟩,trivial⟩
   refine w_9 ?_;refine qcx (wgx Tryz.func109) (b8f n l m (ps.getD i default) hn (hp _ (dl hil))) ?_;refine w_3 ?_;refine m9 0 ?_;refine w_7 ?_;refine hcb (fun h3=>?_) (fun h3=>?_)
   · have hx:=bht hil h3;refine w_5 ?_;exact ⟨⟨⟨_,rfl,(coi hx)⟩,tt⟩,trivial⟩
   have hx:=bhf hil h3;refine ck ?_;exact ⟨⟨⟨_,rfl,(coi hx)⟩,tt⟩,trivial⟩
  refine w_5 ?_;exact lpx (i + 1) kk
 obtain rfl:i = ps.length:=by omega
 refine v_6 ?_;exact ⟨cci (by rw [bmi]),trivial⟩
def atr (n:Int) (l m:List Fd) (ps:List AS):a6 br6 19 [pI n,pP (fdl l),pP (fdl m),pP (asl ps)] (a8 [pI (pf n l m ps),pI (lsC n ps l m)]):=by
 refine hpx (nt:=40) Tryz.func19 ?_;refine cq ?_;refine qcx (wgx Tryz.func47) (bjo n ps l m) ?_;refine dy ?_;refine hcn (fun h0=>?_) (fun h0=>?_)
 · have hr:=b4l (l:=l) (m:=m) (ps:=ps) (n:=n) h0;refine v_6 ?_;exact ⟨cci hr.symm,CoC.refl _,trivial⟩
 have hls:lsC n ps l m = 0:=by assumption
 obtain ⟨hn0,hn8,_,_,_,hps⟩:=bc6 hls;have hl:l.length <= 16777216:=by have:=(kz (pl hls).2).2.2.1;omega
 refine w_7 ?_;refine qcx (wgx Tryz.func48) (bgc n l m ps bqi (fun q hq=>(hps q hq).1)) ?_;refine w_2 ?_;refine jx (ka 1 (ka 3 kn)) km ⟨[(12,some (vI (fmL n l m ps)))],[]⟩ ?_ ?_
 ·
  refine w_4 ?_;refine hcb (fun h1=>?_) (fun h1=>?_)
  · have hx:=bij (n:=n) (l:=l) (m:=m) (ps:=ps) h1;refine w_5 ?_;exact ⟨⟨⟨_,rfl,(coi hx)⟩,tt⟩,trivial⟩
  have hx:=bia (n:=n) (l:=l) (m:=m) (ps:=ps) h1;refine ck ?_;exact ⟨⟨⟨_,rfl,(coi hx)⟩,tt⟩,trivial⟩
 refine jx kn km ⟨[(12,some (vI (pf n l m ps)))],[]⟩ ?_ ?_
 ·
  refine w_4 ?_;refine qcx (wgx Tryz.func49) (b1n l ps hl) ?_;refine w_3 ?_;refine hcd (fun h2=>?_) (fun h2=>?_)
  · have hx:=bir hls h2;refine w_5 ?_;exact ⟨⟨⟨_,rfl,(coi hx)⟩,trivial⟩,trivial⟩
  have hx:=bh3 hls h2;refine ck ?_;exact ⟨⟨⟨_,rfl,(coi hx)⟩,trivial⟩,trivial⟩
 refine v_6 ?_;exact ⟨CoC.refl _,cci hls.symm,trivial⟩
def aC (q:List AS) (_:Nat):PV:=asl q
end
section
section
variable {n:Int} {l m:List Fd} {ps:List AS}
def aly (h:o5 n l m = 0):0 <= n /\ n <= 8 /\ bt n l m = 0 /\ b6 n l = 0 /\ eo n l 8 = 0 /\ ck4 n l m 0 = 0:=by
 unfold o5 at h;split at h
 · cases h
 have hv:b6 n l = 0:=by
  have h2:=h;unfold bt at h2;split at h2
  · assumption
  exact h2
 refine ⟨by omega,by omega,h,hv, ?_, ?_⟩
 · unfold eo
   rw [if_pos hv,if_neg bqi]
 rw [a9c bqi];exact aj7 h bqm
def bj6 (h:o5 n l m = 0):(jo n l).2 = 0:=by
 obtain ⟨_,_,_,h1,h2,h3⟩:=aly h;unfold jo;rw [if_pos h2];split
 · rfl
 exact h1
end
end
section
open Go.Proofs
def q8 (n:Int) (q:BitVec 8):AS:=q.setWidth 32 &&& a7 n
end
section
section
variable {n:Int} {p m:List Fd} {E:Int -> Int -> Prop} {R:Rw -> Prop}
def bla (E:Int -> Int -> Prop) (R:Rw -> Prop) (x b:AS):Prop:=∀ a c,R a -> R c -> AgE E a c x -> R (ef a c b)
end
section
variable {n:Int} {p m:List Fd}
end
end
section
open Go.Proofs
def b7i (q:List St):a6 br6 41 [pP (stl q),pP (stl q)] (a8 [pB true]):=by
 refine hpx (nt:=26) Tryz.func41 ?_;refine w_6 ?_;refine c8 0 rfl fun hlen=>?_;refine w_7 ?_;refine hcn (fun h0=>?_) (fun h0=>?_)
 ·
  exfalso
  first | exact h0 rfl | exact h0 trivial | cases h0
 refine w_7 ?_;refine b5 (ka 0 (ka 1 kn)) km (fun i=>⟨[(5,some (vI i))],[]⟩) q.length kk ?_;rintro i hi;refine w_8 ?_;refine hcd (fun h1=>?_) (fun h1=>?_)
 ·
  have hil:i < q.length:=by omega
  refine ow ?_;refine hcb (fun h2=>?_) (fun h2=>?_)
  · exfalso;simp at h2
  refine w_6 ?_;exact lpx (i + 1) kk
 refine v_5 ?_;exact CoL.refl _
def bfe (q:Dsg):a6 br6 14 [dsn q,dsn q] (a8 [pB true]):=by
 refine hpx (nt:=24) Tryz.func14 ?_;refine sx7 ?_;refine m9 0 ?_;refine m9 1 ?_;refine w_8 ?_;refine qcx (wgx Tryz.func40) (b0o q.1) ?_;refine qy ?_;refine ah rfl rfl (fun r0=>?_) (fun r0=>?_)
 ·
  have h0:=r0;(iterate 5 refine qy ?_ (hg:=(gtt r0)));refine w_2 ?_;refine ah rfl rfl (fun r1=>?_) (fun r1=>?_)
  ·
   have h1:=tz1 (br r0 r1);(iterate 4 refine qy ?_ (hg:=(gtt r1)));refine qcx (wgx Tryz.func41) (b7i q.2.2) ?_ (hg:=(gtt r1));refine w_3 ?_
   exact hx8 rfl rfl rfl (⟨ccb (by first | rfl | simp),trivial⟩)
  have h1:=tz2 (br r0 r1);exfalso
  first | exact h1 rfl | exact h1 trivial | cases h1
 have h0:=r0;exfalso
 first | exact h0 rfl | exact h0 trivial | cases h0
def b31 (n:Int) (l m:List Fd) (ps:List AS):a6 br6 39 [pI n,pP (fdl l),pP (fdl m),pP (asl ps)] (a8 [dsn (fuD n l m ps),pI (lsC n ps l m)]):=by
 refine hpx (nt:=41) Tryz.func39 ?_;refine sx7 ?_;refine m9 0 ?_;refine w_8 ?_;refine qcx (wgx Tryz.func19) (atr n l m ps) ?_;refine dy ?_;refine hcn (fun h0=>?_) (fun h0=>?_)
 · have hr:=bg3 (l:=l) (m:=m) (ps:=ps) (n:=n) h0;refine v_7 ?_;exact by rw [hr];exact ⟨CoC.agg ⟨coN,CoP.refl _,coN,trivial⟩,CoC.refl _,trivial⟩
 have hls:lsC n ps l m = 0:=by assumption
 have hodd:=aqw hls;refine w_6 ?_;refine m9 1 ?_;refine w_9 ?_;refine hcn (fun h1=>?_) (fun h1=>?_)
 ·
  have hb:lsB n ps l m = true:=by
   cases hq:lsB n ps l m with
   | true=>rfl
   | false=>rw [hq] at hodd;exact absurd (a0i hodd) h1
  have hr:=beb hls hb;refine w_5 ?_;refine qcx (wgx Tryz.func28) (aq4 n ps l m) ?_;refine dy ?_;exact hx8 rfl rfl rfl (by rw [hr,hls];first | exact CoL.refl _ | exact ⟨CoC.agg ⟨CoP.refl _,CoP.refl _,coN,trivial⟩,CoC.refl _,trivial⟩)
 have hb:lsB n ps l m = false:=by
  cases hq:lsB n ps l m with
  | false=>rfl
  | true=>rw [hq] at hodd;have hx:=a1w hodd;simp_all
 have hr:=bft hls hb;refine v_7 ?_;exact by rw [hr,hls];first | exact CoL.refl _ | exact ⟨CoC.agg ⟨CoP.refl _,CoP.refl _,coN,trivial⟩,CoC.refl _,trivial⟩
def b0l (n:Int) (l m:List Fd):a6 br6 16 [pI n,pP (fdl l),pP (fdl m)] (a8 [dsn (goD n l m (jo n l)),pI (goE n l m (jo n l))]):=by
 refine hpx (nt:=42) Tryz.func16 ?_;refine sx7 ?_;refine m9 0 ?_;refine w_8 ?_;refine qcx (wgx Tryz.func17) (bb4 n l m) ?_;refine w_7 ?_;refine hcn (fun h0=>?_) (fun h0=>?_)
 · have hr:=azq (q:=jo n l) h0;refine v_7 ?_;exact by rw [hr.1,hr.2];exact ⟨CoC.agg ⟨coN,CoP.refl _,coN,trivial⟩,CoC.refl _,trivial⟩
 have hk:o5 n l m = 0:=by assumption
 have hr:=b1c (q:=jo n l) hk (bj6 hk);refine w_5 ?_;refine qcx (wgx Tryz.func43) (bd9 n l) ?_;refine w_8 ?_;refine jx (ka 0 (ka 1 (ka 2 (ka 6 kn)))) (kb 0 km) ⟨[(9,some (.v (.one (.p (asl (jo n l).1)))))],[]⟩ ?_ ?_
 ·
  refine w_5 ?_;refine hcv (fun h1=>?_) (fun h1=>?_)
  · have hpp:=bed (n:=n) (l:=l) (aly hk).2.2.2.2.1 (by simpa using h1);refine w_3 ?_;refine qcx (wgx Tryz.func36) (ay7 n l) ?_;refine w_5 ?_;exact ⟨⟨⟨_,rfl,(by rw [hpp];exact CoR.refl _)⟩,tt⟩,uu⟩
  have hpp:=bcp (n:=n) (l:=l) (aly hk).2.2.2.2.1 (by simpa using h1);refine ck ?_;exact ⟨⟨⟨_,rfl,(by rw [hpp];exact CoR.refl _)⟩,tt⟩,uu⟩
 refine w_6 ?_;refine qcx (wgx Tryz.func39) (b31 n l m (jo n l).1) ?_;refine v_5 ?_;exact by rw [hr.1,hr.2];exact CoL.refl _
def bgi (d:Rcp) (hf:d.f.length <= 16777216) (hm:d.m.length <= 16777216) (hp:d.p.length <= 16777216):a6 br6 4 [d.pc] (a8 [pB true]):=by
 refine hpx (nt:=49) Tryz.func4 ?_;refine sx7 ?_;refine m9 0 ?_;refine w_5 ?_;refine qcx (wgx Tryz.func10) (bj2 d hf hm hp) ?_;refine ml ?_;refine qcx (wgx Tryz.func11) (ak6) ?_;refine w_6 ?_;refine hcv (fun h0=>?_) (fun h0=>?_)
 · refine sx7 ?_;refine qcx (wgx Tryz.func11) (ak6) ?_;refine v_2 ?_;exact ⟨ccb (by first | rfl | simp),trivial⟩
 have hok:okR d = true:=by simp_all
 obtain ⟨hf4,hm4,hp3⟩:=bh1 hok;have hn4:=bjk d;refine w_6 ?_;refine qcx (wgx Tryz.func15) (b49 (d.num 4) (d.fs 4) (d.ms 4)) ?_;refine w_3 ?_;refine m9 1 ?_;refine w_8 ?_;refine qcx (wgx Tryz.func16) (b0l (d.num 4) (d.fs 4) (d.ms 4)) ?_;refine w_3 ?_;refine m9 2 ?_;refine w_9 ?_;refine ah rfl rfl (fun r1=>?_) (fun r1=>?_)
 ·
  have h1:=tz1 r1;(iterate 2 refine qy ?_ (hg:=(gtt r1)));refine qcx (wgx Tryz.func14) (bfe (goD (d.num 4) (d.fs 4) (d.ms 4) (jo (d.num 4) (d.fs 4)))) ?_ (hg:=(gtt r1));refine w_3 ?_
  exact hx8 rfl rfl rfl (⟨ccb (by first | rfl | simp),trivial⟩)
 have h1:=tz2 r1;exfalso
 first | exact h1 rfl | exact h1 trivial | cases h1
end
end Go.Hx

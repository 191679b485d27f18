/- A part of the proof: Dw6 Dw4 Ds6 Dw7 Dw10 Dw12 Ds12 Y13 Bz11 Y14 Dw13. -/
import Derived.Test.YtkkenjdfbojdlaaGreatDoorIx40
set_option linter.all false
set_option maxRecDepth 100000
set_option maxHeartbeats 1000000
namespace Go.Hx
section
open Go.Proofs
def bb8 (n:Int) (l m:List Fd) (p:AS):a6 brj 104 [.agg [.raw (.int .i64 n),fdl l,fdl m],pA p] (a8 [pB (thB n l p)]):=by
 refine hpx (nt:=21) Tryz.func104 ?_;refine sx7 ?_;refine m9 0 ?_;refine w_9 ?_;refine qcx (wgx Tryz.func156) (b6i n l p) ?_;refine bz ?_;refine ai rfl rfl (fun r0=>?_) (fun r0=>?_)
 ·
  have h0:=r0;(iterate 2 refine qy ?_ (hg:=(gtt r0)));refine w_3 ?_
  exact hx8 rfl rfl rfl (⟨ccb (by unfold thB;first | rfl | simp_all),trivial⟩)
 have h0:=r0;(iterate 2 refine k9 (gft r0) ?_);refine rq rfl rfl rfl rfl rfl ?_ (hp:=r0);refine w_2 ?_
 exact hx8 rfl rfl rfl (⟨ccb (by unfold thB;first | rfl | simp_all),trivial⟩)
def b8k (n:Int) (l m:List Fd) (p:AS):a6 brj 105 [.agg [.raw (.int .i64 n),fdl l,fdl m],pA p] (a8 [pB (byB l p)]):=by
 refine hpx (nt:=22) Tryz.func105 ?_;refine sx7 ?_;refine m9 0 ?_;refine w_7 ?_;refine qcx (wgx Tryz.func157) (bke l p) ?_;refine w_4 ?_;refine m9 1 ?_;refine w_9 ?_;refine ai rfl rfl (fun r0=>?_) (fun r0=>?_)
 ·
  have h0:=cu r0;(iterate 2 refine qy ?_ (hg:=(gtt r0)));refine w_3 ?_
  exact hx8 rfl rfl rfl (⟨ccb (by unfold byB;first | rfl | simp_all),trivial⟩)
 have h0:=ct r0;(iterate 2 refine k9 (gft r0) ?_);refine rq rfl rfl rfl rfl rfl ?_ (hp:=r0);refine w_2 ?_
 exact hx8 rfl rfl rfl (⟨ccb (by unfold byB;first | rfl | simp_all),trivial⟩)
def b33 (n:Int) (l m:List Fd) (p:AS):a6 brj 106 [.agg [.raw (.int .i64 n),fdl l,fdl m],pA p] (a8 [pB (foB n l m p)]):=by
 refine hpx (nt:=26) Tryz.func106 ?_;refine sx7 ?_;refine m9 0 ?_;refine cq ?_;refine qcx (wgx Tryz.func80) (b50 n l m p) ?_;refine w_4 ?_;refine m9 1 ?_;refine w_9 ?_;refine ai rfl rfl (fun r0=>?_) (fun r0=>?_)
 ·
  have h0:=cu r0;(iterate 2 refine qy ?_ (hg:=(gtt r0)));refine w_3 ?_
  exact hx8 rfl rfl rfl (⟨ccb (by unfold foB;first | rfl | simp_all),trivial⟩)
 have h0:=ct r0;(iterate 2 refine k9 (gft r0) ?_);refine rq rfl rfl rfl rfl rfl ?_ (hp:=r0);refine w_2 ?_
 exact hx8 rfl rfl rfl (⟨ccb (by unfold foB;first | rfl | simp_all),trivial⟩)
def b8x (p:AS) (g k:Nat) (fr:Nat -> PV) (V:AS -> Bool) (hg:goodFn brj g) (hV:∀ p,a6 brj g [.agg (pvN fr k 0),pA p] (a8 [pB (V p)])):a6 brj 155 [pA p,pP (bx (.bnd g k fr))] (a8 [pB (!V p)]):=by
 refine hpx (nt:=8) Tryz.func155 ?_;refine w_8 ?_;refine rc rfl rfl rfl rfl rfl rfl hg (hV p) (CoL.refl _) rfl rfl ?_;refine v_3 ?_;exact CoL.refl _
def b8c {ps:List AS} {V:AS -> Bool}:(!ps.any fun p=>!V p) = ps.all V:=by rw [<- List.not_all_eq_any_not,Bool.not_not]
def agi:goodFn brj 103:=wgx Tryz.func103
def alk (ps:List AS) (g k:Nat) (fr:Nat -> PV) (V:AS -> Bool) (hg:goodFn brj g) (hV:∀ p,a6 brj g [.agg (pvN fr k 0),pA p] (a8 [pB (V p)])):a6 brj 103 [pP (asl ps),pP (.bnd g k fr)] (a8 [pB (ps.all V)]):=by
 refine hpx (nt:=9) Tryz.func103 ?_;refine sx7 ?_;refine m9 0 ?_;refine w_3 ?_;refine d8 3 rfl rfl rfl ?_;refine w_3 ?_;refine qcx ago (aum ps 155 1 (fun i=>[bx (.bnd g k fr)].getD i .any) (fun p=>!V p) (wgx Tryz.func155) (fun p=>b8x p g k fr V hg hV)) ?_;refine v_3 ?_;exact ⟨ccb b8c,trivial⟩
def bih (n:Int) (l m:List Fd) (ps:List AS) (hl:l.length <= 16777216):a6 brj 46 [.agg [.raw (.int .i64 n),fdl l,fdl m],pP (asl ps)] (a8 [pI (a11 n l m ps)]):=by
 refine hpx (nt:=31) Tryz.func46 ?_;refine sx7 ?_;refine m9 0 ?_;refine w_6 ?_;refine kg (ka 1 (ka 2 kn)) (kb 0 km) ⟨[(5,some (vI (ly (p8 l ps) false false false)))],[]⟩ ?_ ?_
 ·
  refine w_5 ?_;refine qcx ake (b1h l ps hl) ?_;refine c6 ?_;refine hcb (fun h0=>?_) (fun h0=>?_)
  · have hA:=h0;refine w_5 ?_;exact ⟨⟨⟨_,rfl,(coi (by first | exact avo hA | (rw [hA];done) | (rw [hA];rfl)))⟩,tt⟩,uu⟩
  have hA:=h0;refine d6 ?_;exact ⟨⟨⟨_,rfl,(coi (by first | exact avo hA | (rw [hA];done) | (rw [hA];rfl)))⟩,tt⟩,uu⟩
 refine kg (ka 1 (ka 2 kn)) (kb 0 km) ⟨[(5,some (vI (ly (p8 l ps) (ps.all (thB n l)) false false)))],[]⟩ ?_ ?_
 ·
  refine w_5 ?_;refine qcx agi (alk ps 104 3 (fun i=>([PV.raw (.int .i64 n),fdl l,fdl m]:List PV).getD i .any) (thB n l) (wgx Tryz.func104) (fun p=>bb8 n l m p)) ?_;refine c6 ?_;refine hcb (fun h1=>?_) (fun h1=>?_)
  · have hB:=h1;refine w_5 ?_;exact ⟨⟨⟨_,rfl,(coi (by first | exact aw6 hB | (rw [hB];done) | (rw [hB];rfl)))⟩,tt⟩,uu⟩
  have hB:=h1;refine d6 ?_;exact ⟨⟨⟨_,rfl,(coi (by first | exact aw6 hB | (rw [hB];done) | (rw [hB];rfl)))⟩,tt⟩,uu⟩
 refine kg (ka 1 (ka 2 kn)) (kb 0 km) ⟨[(5,some (vI (ly (p8 l ps) (ps.all (thB n l)) (ps.all (byB l)) false)))],[]⟩ ?_ ?_
 ·
  refine w_5 ?_;refine qcx agi (alk ps 105 3 (fun i=>([PV.raw (.int .i64 n),fdl l,fdl m]:List PV).getD i .any) (byB l) (wgx Tryz.func105) (fun p=>b8k n l m p)) ?_;refine c6 ?_;refine hcb (fun h2=>?_) (fun h2=>?_)
  · have hC:=h2;refine w_5 ?_;exact ⟨⟨⟨_,rfl,(coi (by first | exact ayx hC | (rw [hC];done) | (rw [hC];rfl)))⟩,tt⟩,uu⟩
  have hC:=h2;refine d6 ?_;exact ⟨⟨⟨_,rfl,(coi (by first | exact ayx hC | (rw [hC];done) | (rw [hC];rfl)))⟩,tt⟩,uu⟩
 refine kg kn km ⟨[(5,some (vI (ly (p8 l ps) (ps.all (thB n l)) (ps.all (byB l)) (ps.all (foB n l m)))))],[]⟩ ?_ ?_
 ·
  refine w_5 ?_;refine qcx agi (alk ps 106 3 (fun i=>([PV.raw (.int .i64 n),fdl l,fdl m]:List PV).getD i .any) (foB n l m) (wgx Tryz.func106) (fun p=>b33 n l m p)) ?_;refine c6 ?_;refine hcb (fun h3=>?_) (fun h3=>?_)
  · have hD:=h3;refine w_5 ?_;exact ⟨⟨⟨_,rfl,(coi (by first | exact ay8 hD | (rw [hD];done) | (rw [hD];rfl)))⟩,trivial⟩,trivial⟩
  have hD:=h3;refine d6 ?_;exact ⟨⟨⟨_,rfl,(coi (by first | exact ay8 hD | (rw [hD];done) | (rw [hD];rfl)))⟩,trivial⟩,trivial⟩
 refine v_5 ?_;exact CoL.refl _
def baa (n:Int) (l m:List Fd) (ps:List AS):a6 brj 18 [pI n,pP (fdl l),pP (fdl m),pP (asl ps)] (a8 [pI (p7 n l m ps),pI (lsC n ps l m)]):=by
 refine hpx (nt:=34) Tryz.func18 ?_;refine cq ?_;refine qcx (wgx Tryz.func45) (bkt n ps l m) ?_;refine en ?_;refine hcn (fun h0=>?_) (fun h0=>?_)
 · have hr:=b5f (l:=l) (m:=m) (ps:=ps) (n:=n) h0;refine v_6 ?_;exact ⟨cci hr.symm,CoC.refl _,trivial⟩
 have hls:lsC n ps l m = 0:=by assumption
 have hl:l.length <= 16777216:=by have:=(l7 (qf hls).2).2.2.1;omega
 refine w_8 ?_;refine qcx (wgx Tryz.func46) (bih n l m ps hl) ?_;refine w_2 ?_;refine kg kn km ⟨[(12,some (vI (p7 n l m ps)))],[]⟩ ?_ ?_
 ·
  refine w_4 ?_;refine hcb (fun h1=>?_) (fun h1=>?_)
  · have hr:=biy hls h1;refine w_5 ?_;exact ⟨⟨⟨_,rfl,(coi hr.symm)⟩,trivial⟩,trivial⟩
  have hr:=bim hls h1;refine d6 ?_;exact ⟨⟨⟨_,rfl,(coi hr.symm)⟩,trivial⟩,trivial⟩
 refine v_6 ?_;exact ⟨CoC.refl _,cci hls.symm,trivial⟩
def ao7:goodFn brj 35:=wgx Tryz.func35
def av9 (n:Int) (l m:List Fd) (ps:List AS):a6 brj 35 [pI n,pP (fdl l),pP (fdl m),pP (asl ps)] (a8 [dsn (fuD n l m ps),pI (lsC n ps l m)]):=by
 refine hpx (nt:=45) Tryz.func35 ?_;refine sx7 ?_;refine m9 0 ?_;refine w_8 ?_;refine qcx (wgx Tryz.func18) (baa n l m ps) ?_;refine en ?_;refine hcn (fun h0=>?_) (fun h0=>?_)
 · have hr:=bc6 (l:=l) (m:=m) (ps:=ps) (n:=n) h0;refine v_7 ?_;exact by rw [hr];exact ⟨CoC.agg ⟨coN,CoP.refl _,coN,trivial⟩,CoC.refl _,trivial⟩
 have hls:lsC n ps l m = 0:=by assumption
 have hodd:=ar8 hls;refine w_6 ?_;refine m9 1 ?_;refine w_9 ?_;refine hcn (fun h1=>?_) (fun h1=>?_)
 ·
  have hb:lsB n ps l m = true:=by
   cases hq:lsB n ps l m with
   | true=>rfl
   | false=>rw [hq] at hodd;exact absurd (a08 hodd) h1
  have hp0:=bh2 hls hb;have hr:=bg8 hls hb;refine w_6 ?_;refine qcx (wgx Tryz.func81) (bbk n ps l m) ?_;refine en ?_;refine hcn (fun h2=>?_) (fun h2=>?_)
  · exfalso;exact h2 hp0
  refine v_7 ?_;exact by rw [hr,hls];first | exact CoL.refl _ | exact ⟨CoC.agg ⟨CoP.refl _,CoP.refl _,coN,trivial⟩,CoC.refl _,trivial⟩
 have hb:lsB n ps l m = false:=by
  cases hq:lsB n ps l m with
  | false=>rfl
  | true=>rw [hq] at hodd;have hx:=a2a hodd;simp_all
 have hr:=bd4 hls hb;refine v_7 ?_;exact by rw [hr,hls];first | exact CoL.refl _ | exact ⟨CoC.agg ⟨CoP.refl _,CoP.refl _,coN,trivial⟩,CoC.refl _,trivial⟩
def amf:goodFn brj 31:=wgx Tryz.func31
def b0f (n:Int) (l m:List Fd):a6 brj 31 [pI n,pP (fdl l),pP (fdl m)] (a8 [pI (ni n l m)]):=by
 refine hpx (nt:=17) Tryz.func31 ?_;refine bz ?_;refine ai rfl rfl (fun r0=>?_) (fun r0=>?_)
 ·
  have h0:=tz1 r0;have hk:=aje (l:=l) (m:=m) (n:=n) (.inl h0);(iterate 2 refine k9 (gtf r0) ?_);refine rq rfl rfl rfl rfl rfl ?_ (hp:=r0);refine w_6 ?_
  exact hx8 rfl rfl rfl (⟨cci hk.symm,trivial⟩)
 have h0:=tz2 r0;(iterate 2 refine qy ?_ (hg:=(gff r0)));refine w_2 ?_;refine aj _ rfl (fun r1=>?_) (fun r1=>?_)
 · have h1:=tz1 (av r0 r1);have hk:=aje (l:=l) (m:=m) (n:=n) (.inr h1);refine v_4 ?_;exact ⟨cci hk.symm,trivial⟩
 have h1:=tz2 (av r0 r1);have hk:ni n l m = br n l m:=b4q bqx;refine w_6 ?_;refine qcx a2r (zg n l m) ?_;refine v_2 ?_;exact ⟨cci hk.symm,trivial⟩
def b66 (n:Int) (l m:List Fd):a6 brj 17 [pI n,pP (fdl l),pP (fdl m)] (a8 [pI (ni n l m)]):=by
 refine hpx (nt:=17) Tryz.func17 ?_;refine bz ?_;refine ai rfl rfl (fun r0=>?_) (fun r0=>?_)
 ·
  have h0:=tz1 r0;have hk:=aje (l:=l) (m:=m) (n:=n) (.inl h0);(iterate 2 refine k9 (gtf r0) ?_);refine rq rfl rfl rfl rfl rfl ?_ (hp:=r0);refine w_6 ?_
  exact hx8 rfl rfl rfl (⟨cci hk.symm,trivial⟩)
 have h0:=tz2 r0;(iterate 2 refine qy ?_ (hg:=(gff r0)));refine w_2 ?_;refine aj _ rfl (fun r1=>?_) (fun r1=>?_)
 · have h1:=tz1 (av r0 r1);have hk:=aje (l:=l) (m:=m) (n:=n) (.inr h1);refine v_4 ?_;exact ⟨cci hk.symm,trivial⟩
 have h1:=tz2 (av r0 r1);have hk:ni n l m = br n l m:=b4q bqx;refine w_6 ?_;refine qcx a6f (a0h n l m) ?_;refine v_2 ?_;exact ⟨cci hk.symm,trivial⟩
def ak7:goodFn brj 12:=wgx Tryz.func12
def aip (n:Int) (l m:List Fd) (f:Int) (h5:¬ f = 5):a6 brj 12 [pI n,pP (fdl l),pP (fdl m),pI f] (a8 [dsn (goD n l m (fb n l m f)),pI (goE n l m (fb n l m f))]):=by
 refine hpx (nt:=58) Tryz.func12 ?_;refine sx7 ?_;refine m9 0 ?_;refine w_8 ?_;refine qcx amf (b0f n l m) ?_;refine w_7 ?_;refine hcn (fun h0=>?_) (fun h0=>?_)
 · have hr:=atj (q:=fb n l m f) h0;refine v_7 ?_;exact by rw [hr.1,hr.2];exact ⟨CoC.agg ⟨coN,CoP.refl _,coN,trivial⟩,CoC.refl _,trivial⟩
 have hk:ni n l m = 0:=by assumption
 refine w_9 ?_;refine kg (ka 0 (ka 1 (ka 2 (ka 8 kn)))) (kb 0 km) ⟨[(11,some (.v (.one (.p (asl (fb n l m f).1))))),(12,some (vI (fb n l m f).2))],[]⟩ ?_ ?_
 ·
  refine bz ?_;refine hcd (fun h1=>?_) (fun h1=>?_)
  · have hf3:f = 3:=h1;have hpp:=b22 (n:=n) (l:=l) (m:=m) hf3;refine w_3 ?_;refine qcx alj (afu aor n l) ?_;refine w_6 ?_;exact ⟨⟨⟨_,rfl,(by rw [hpp];first | exact CoR.refl _ | exact coN)⟩,⟨_,rfl,(by rw [hpp];exact CoR.refl _)⟩,tt⟩,uu⟩
  have hf3:¬ f = 3:=h1;refine w_5 ?_;refine hcd (fun h2=>?_) (fun h2=>?_)
  · have hf4:f = 4:=h2;have hpp:=b0s (n:=n) (l:=l) (m:=m) hf3 hf4;refine w_3 ?_;refine qcx (wgx Tryz.func33) (bgb n l) ?_;refine w_6 ?_;exact ⟨⟨⟨_,rfl,(by rw [hpp];first | exact CoR.refl _ | exact coN)⟩,⟨_,rfl,(by rw [hpp];exact CoR.refl _)⟩,tt⟩,uu⟩
  have hf4:¬ f = 4:=h2;refine w_5 ?_;refine hcd (fun h3=>?_) (fun h3=>?_)
  · exfalso;exact h5 h3
  have hpp:=b31 (n:=n) (l:=l) (m:=m) hf3 hf4 h3;refine w_3 ?_;exact ⟨⟨⟨_,rfl,(by rw [hpp];first | exact CoR.refl _ | exact coN)⟩,⟨_,rfl,(by rw [hpp];exact CoR.refl _)⟩,tt⟩,uu⟩
 refine w_6 ?_;refine hcn (fun h4=>?_) (fun h4=>?_)
 · have hr:=ata (q:=fb n l m f) hk h4;refine v_7 ?_;exact by rw [hr.1,hr.2];exact ⟨CoC.agg ⟨coN,CoP.refl _,coN,trivial⟩,CoC.refl _,trivial⟩
 have hr:=auj (q:=fb n l m f) hk bqy;refine w_7 ?_;refine qcx ao7 (av9 n l m (fb n l m f).1) ?_;refine v_5 ?_;exact by rw [hr.1,hr.2];exact CoL.refl _
def bj8 (n:Int) (l m:List Fd):a6 brj 15 [pI n,pP (fdl l),pP (fdl m)] (a8 [dsn (goD n l m (pz n l)),pI (goE n l m (pz n l))]):=by
 refine hpx (nt:=50) Tryz.func15 ?_;refine sx7 ?_;refine m9 0 ?_;refine w_8 ?_;refine qcx amf (b0f n l m) ?_;refine w_7 ?_;refine hcn (fun h0=>?_) (fun h0=>?_)
 · have hr:=atj (q:=pz n l) h0;refine v_7 ?_;exact by rw [hr.1,hr.2];exact ⟨CoC.agg ⟨coN,CoP.refl _,coN,trivial⟩,CoC.refl _,trivial⟩
 have hk:ni n l m = 0:=by assumption
 refine w_5 ?_;refine qcx (wgx Tryz.func42) (bhj n l) ?_;refine w_8 ?_;refine kg (ka 0 (ka 1 (ka 2 (ka 6 kn)))) (kb 0 km) ⟨[(9,some (.v (.one (.p (asl (pz n l).1))))),(11,some (vI (pz n l).2))],[]⟩ ?_ ?_
 ·
  refine w_5 ?_;refine ai rfl rfl (fun r1=>?_) (fun r1=>?_)
  ·
   have h1:=tz1 r1;(iterate 2 refine qy ?_ (hg:=(gtt r1)));refine w_2 ?_;refine aj _ rfl (fun r2=>?_) (fun r2=>?_)
   · have h2:=cu (bt r1 r2);have hpp:=bk2 (n:=n) (l:=l) bqy br9;refine w_3 ?_;refine qcx alj (afu aor n l) ?_;refine w_6 ?_;exact ⟨⟨⟨_,rfl,(by rw [hpp];exact CoR.refl _)⟩,⟨_,rfl,(by rw [hpp];exact CoR.refl _)⟩,tt⟩,uu⟩
   have h2:=ct (bt r1 r2);have hpp:=bjz (n:=n) (l:=l) bqy br9;refine d6 ?_;exact ⟨⟨⟨_,rfl,(by rw [hpp];exact CoR.refl _)⟩,⟨_,rfl,(by rw [hpp];exact CoR.refl _)⟩,tt⟩,uu⟩
  have h1:=tz2 r1;have hpp:=bl3 (n:=n) (l:=l) h1;(iterate 2 refine k9 (gft r1) ?_);refine rq rfl rfl rfl rfl rfl ?_ (hp:=r1);refine w_3 ?_
  exact ⟨⟨⟨_,rfl,(by rw [hpp];exact CoR.refl _)⟩,⟨_,rfl,(by rw [hpp];exact CoR.refl _)⟩,tt⟩,uu⟩
 refine w_6 ?_;refine hcn (fun h3=>?_) (fun h3=>?_)
 · have hr:=ata (q:=pz n l) hk h3;refine v_7 ?_;exact by rw [hr.1,hr.2];exact ⟨CoC.agg ⟨coN,CoP.refl _,coN,trivial⟩,CoC.refl _,trivial⟩
 have hr:=auj (q:=pz n l) hk bqy;refine w_7 ?_;refine qcx ao7 (av9 n l m (pz n l).1) ?_;refine v_5 ?_;exact by rw [hr.1,hr.2];exact CoL.refl _
end
section
open Go.Proofs
def b84 (ns:List Bs) (l m:List Fd) (ps:List AS) (c:Int) (sts:PV) (hsz:∀ b ∈ ns,b.size <= 1000):a6 brj 23 [pP (bsl ns),pP (fdl l),pP (fdl m), .agg [asl ps, .raw (.int .i64 c),sts]] (a8 [pS (agy ns l m ps c),pI (uv ns l m ps)]):=by
 refine hpx (nt:=128) Tryz.func23 ?_;refine sx7 ?_;refine m9 0 ?_;refine m9 1 ?_;refine w_7 ?_;refine qcx (wgx Tryz.func51) (b9b ns (fun b hb=>bmy (hsz b hb) br2)) ?_;refine cq ?_;refine hcn (fun h0=>?_) (fun h0=>?_)
 · refine w_6 ?_;refine hrr ?_;have hr:=bch (l:=l) (m:=m) (ps:=ps) (c:=c) h0;exact f9 rfl rfl (⟨CoC.one (CoP.of_eq (by rw [hr.2];rfl)),cci hr.1.symm,trivial⟩)
 refine jd ?_;refine qcx (wgx Tryz.func52) (ara ns.length ps) ?_;refine w_7 ?_;refine hcn (fun h1=>?_) (fun h1=>?_)
 · refine w_6 ?_;refine hrr ?_;have hr:=bc4 (l:=l) (m:=m) (c:=c) h0 h1;exact f9 rfl rfl (⟨CoC.one (CoP.of_eq (by rw [hr.2];rfl)),cci hr.1.symm,trivial⟩)
 refine w_7 ?_;refine qcx a2r (zg ns.length l m) ?_;refine w_7 ?_;refine hcn (fun h2=>?_) (fun h2=>?_)
 · refine w_6 ?_;refine hrr ?_;have hr:=bc1 (c:=c) h0 h1 h2;exact f9 rfl rfl (⟨CoC.one (CoP.of_eq (by rw [hr.2];rfl)),cci hr.1.symm,trivial⟩)
 refine w_2 ?_;refine d8 4 rfl rfl rfl ?_;refine d8 7 rfl rfl rfl ?_;have he:nf ns = 0:=h0;have hv:lvE ns.length ps = 0:=h1;have hb:br ns.length l m = 0:=h2;obtain ⟨hn0,hn8,h64,_,_⟩:=og hv;obtain ⟨_,_,hl64,hall,_,_⟩:=l7 hb;have hx:=bil hsz;have hP:∀ i,(gt ns l ps i).length <= 134400000000:=fun i=>au3 hsz (fun p hp=>ajd hv hp) h64
 have hin:∀ f ∈ l,sub f.lhs (a7 ns.length) /\ sub f.rhs (a7 ns.length):=fun f hf=>by
  have:=(b9v hn0 bqx).1 (bnr.1 hall f hf);exact ⟨fq a0j this,fq a4w this⟩
 have hmem:∀ s,sub s (a7 ns.length) -> ∀ i ∈ ak s,i < ns.length:=fun s hs i hi=>bam bqx hs hi;refine w_6 ?_;refine m9 2 ?_;refine bz ?_;refine b7 (ka 1 (ka 7 (ka 15 (ka 16 (ka 51 (ka 52 kn)))))) km (fun i=>⟨[(53,some (vI i))],[(2,some (bd false (gt ns l ps i)))]⟩) ps.length ⟨tt,⟨⟨_,rfl,⟨fun h=>(by cases h),rfl,rfl,rfl⟩⟩,trivial⟩⟩ ?_;rintro i hi;refine w_5 ?_;refine hcd (fun h3=>?_) (fun h3=>?_)
 ·
  have hil:i < ps.length:=by omega
  have hmp:(ps.getD i default) ∈ ps:=dt hil;have hps:sub (ps.getD i default) (a7 ns.length):=a7f hv hmp;refine jd ?_;refine qcx aek (ajr (ps.getD i default) ns (hmem _ hps) hsz) ?_;refine rq rfl rfl rfl rfl rfl ?_ (hp:=(by have h2:=hx (ps.getD i default);show 5 + _ <= _;omega));refine rq rfl rfl rfl rfl rfl ?_ (hp:=(by have h2:=hx (ps.getD i default);rw [szA];show 5 + _ + 5 <= _;omega));refine fc9 se (sh 2 false (gt ns l ps i) ((⟨#[112,97,114,116,32]⟩ ++ txT ns (ps.getD i default)) ++ ⟨#[32,107,101,121,115]⟩) (by have h1:=hP i;have h2:=hx (ps.getD i default);rw [szA,szA];show _ + (5 + _ + 5) <= _;omega)) uu ?_;refine w_6 ?_;refine qcx (wgx Tryz.func58) (cPk l (ps.getD i default)) ?_;refine w_4 ?_;refine b7 (ka 1 (ka 7 (ka 15 (ka 16 (ka 51 (ka 52 (ka 53 (ka 65 (ka 66 kn))))))))) km (fun k=>⟨[(67,some (vI k))],[(2,some (bd false (((gt ns l ps i) ++ vi ns (ps.getD i default)) ++ oi ns (pkL l (ps.getD i default)) k)))]⟩) ((pkL l (ps.getD i default)).length) ⟨tt,⟨⟨_,rfl,(CoO.of_eq (by rw [b8r]))⟩,trivial⟩⟩ ?_;rintro k hk;refine w_5 ?_;refine hcd (fun h4=>?_) (fun h4=>?_)
  ·
   have hkk:k < (pkL l (ps.getD i default)).length:=by omega
   have hkey:sub ((pkL l (ps.getD i default)).getD k default) (a7 ns.length):=fq (bfa (dt hkk)) hps;have hpl:=aet (l:=l) (ajd hv hmp);refine en ?_;refine qcx aek (ajr ((pkL l (ps.getD i default)).getD k default) ns (hmem _ hkey) hsz) ?_;refine rq rfl rfl rfl rfl rfl ?_ (hp:=(by have h2:=hx ((pkL l (ps.getD i default)).getD k default);show 1 + _ <= _;omega));refine fc9 se (sh 2 false (((gt ns l ps i) ++ vi ns (ps.getD i default)) ++ oi ns (pkL l (ps.getD i default)) k) (⟨#[32]⟩ ++ txT ns ((pkL l (ps.getD i default)).getD k default)) (by have h1:=hP i;have h2:=hx ((pkL l (ps.getD i default)).getD k default);have h3:=a7w hsz (ps.getD i default);have h4:=a6t (i:=k) (ks:=(pkL l (ps.getD i default))) hsz;have h5:=aet (l:=l) (ajd hv hmp);rw [szA,bmo,bmo];show _ + (1 + _) <= _;omega)) uu ?_;refine w_5 ?_;exact lpx (k + 1) ⟨tt,⟨⟨_,rfl,(CoO.of_eq (by rw [bdj hkk]))⟩,trivial⟩⟩
  obtain rfl:k = (pkL l (ps.getD i default)).length:=by omega
  refine w_2 ?_;refine fc9 se (sh 2 false (((gt ns l ps i) ++ vi ns (ps.getD i default)) ++ oi ns (pkL l (ps.getD i default)) (pkL l (ps.getD i default)).length) ⟨#[10]⟩ (by have h1:=hP i;have h3:=a7w hsz (ps.getD i default);have h4:=a6t (i:=(pkL l (ps.getD i default)).length) (ks:=(pkL l (ps.getD i default))) hsz;have h5:=aet (l:=l) (ajd hv hmp);rw [bmo,bmo];show _ + 1 <= _;omega)) uu ?_;refine w_5 ?_;exact lpx (i + 1) ⟨tt,⟨⟨_,rfl,(CoO.of_eq (by rw [b5u hil]))⟩,trivial⟩⟩
 obtain rfl:i = ps.length:=by omega
 refine w_7 ?_;refine qcx (wgx Tryz.func59) (b52 l ps bqx) ?_;refine w_4 ?_;have hL:∀ j,(jo ns l (c8 l ps l.length) j).length <= 4102400:=fun j=>ato hsz (bmy anm hl64);refine b7 (ka 1 (ka 7 (ka 15 (ka 16 (ka 82 (ka 83 kn)))))) km (fun j=>⟨[(84,some (vI j))],[(2,some (bd false ((gt ns l ps ps.length) ++ jo ns l (c8 l ps l.length) j)))]⟩) ((c8 l ps l.length).length) ⟨tt,⟨⟨_,rfl,(CoO.of_eq (by rw [show jo ns l (c8 l ps l.length) 0 = [] from rfl,bnn]))⟩,trivial⟩⟩ ?_;rintro j hj;refine w_5 ?_;refine hcd (fun h5=>?_) (fun h5=>?_)
 ·
  have hjl:j < (c8 l ps l.length).length:=by omega
  have hj2:=ban hjl;have hls:=bmy (anm (l:=l) (ps:=ps)) hl64;have hf:=hin (l.getD ((c8 l ps l.length).getD j default) default) (dt hj2);refine jd ?_;refine rq rfl rfl rfl rfl rfl ?_ (hp:=⟨rfl,boz _,Int.ofNat_lt.2 hj2⟩);refine w_2 ?_;refine qcx aek (ajr (l.getD ((c8 l ps l.length).getD j default) default).lhs ns (hmem _ hf.1) hsz) ?_;refine rq rfl rfl rfl rfl rfl ?_ (hp:=(by have h2:=hx (l.getD ((c8 l ps l.length).getD j default) default).lhs;show 5 + _ <= _;omega));refine rq rfl rfl rfl rfl rfl ?_ (hp:=(by have h2:=hx (l.getD ((c8 l ps l.length).getD j default) default).lhs;rw [szA];show 5 + _ + 4 <= _;omega));refine w_3 ?_;refine rq rfl rfl rfl rfl rfl ?_ (hp:=⟨rfl,boz _,Int.ofNat_lt.2 hj2⟩);refine w_2 ?_;refine qcx aek (ajr (l.getD ((c8 l ps l.length).getD j default) default).rhs ns (hmem _ hf.2) hsz) ?_;refine rq rfl rfl rfl rfl rfl ?_ (hp:=(by have h2:=hx (l.getD ((c8 l ps l.length).getD j default) default).lhs;have h3:=hx (l.getD ((c8 l ps l.length).getD j default) default).rhs;rw [szA,szA];show 5 + _ + 4 + _ <= _;omega));refine rq rfl rfl rfl rfl rfl ?_ (hp:=(by have h2:=hx (l.getD ((c8 l ps l.length).getD j default) default).lhs;have h3:=hx (l.getD ((c8 l ps l.length).getD j default) default).rhs;rw [szA,szA,szA];show 5 + _ + 4 + _ + 1 <= _;omega));refine fc9 se (sh 2 false ((gt ns l ps ps.length) ++ jo ns l (c8 l ps l.length) j) ((((⟨#[108,111,115,116,32]⟩ ++ txT ns (l.getD ((c8 l ps l.length).getD j default) default).lhs) ++ ⟨#[32,45,62,32]⟩) ++ txT ns (l.getD ((c8 l ps l.length).getD j default) default).rhs) ++ ⟨#[10]⟩) (by have h1:=hP ps.length;have h2:=hx (l.getD ((c8 l ps l.length).getD j default) default).lhs;have h3:=hx (l.getD ((c8 l ps l.length).getD j default) default).rhs;have h4:=hL j;rw [szA,szA,szA,szA,bmo];show _ + (5 + _ + 4 + _ + 1) <= _;omega)) uu ?_;refine w_6 ?_;exact lpx (j + 1) ⟨tt,⟨⟨_,rfl,(CoO.of_eq (by rw [baw hjl _ rfl]))⟩,trivial⟩⟩
 obtain rfl:j = (c8 l ps l.length).length:=by omega
 refine w_3 ?_;refine fc9 se (sh 2 false ((gt ns l ps ps.length) ++ jo ns l (c8 l ps l.length) (c8 l ps l.length).length) ⟨#[99,108,97,105,109,115]⟩ (by have h1:=hP ps.length;have h4:=hL (c8 l ps l.length).length;rw [bmo];show _ + 6 <= _;omega)) uu ?_;refine w_4 ?_;refine m9 3 ?_;refine w_4 ?_;refine al 109 rfl rfl rfl ?_;refine ae (ι:=Nat) (ka 7 (ka 16 (ka 110 kn))) km (fun i=>⟨[(109,some (.v (.one (.p (bsl k8))))),(111,some (vI i))],[(2,some (bd false ((((gt ns l ps ps.length) ++ jo ns l (c8 l ps l.length) (c8 l ps l.length).length) ++ [99,108,97,105,109,115]) ++ j0 c i)))]⟩) (fun i=>i <= 5) (fun i=>5 - i) (0) bqx ⟨⟨⟨_,rfl,(show CoP _ _ from CoP.sl rfl (.inl rfl) (fun h=>by cases h) fun i j hi hj=>by have hj:j < 1:=hj;obtain rfl:j = 0:=bqx;exact CoP.of_eq (b3o (f:=fun a b=>(k8.map fun b=>li (.string b)).getD (a * 1 + b) .any) hi rfl rfl rfl rfl rfl))⟩,tt⟩,⟨⟨_,rfl,(CoO.of_eq (by rw [show j0 c 0 = [] from rfl,bnn]))⟩,trivial⟩⟩ ?_;rintro i hi;refine w_5 ?_;refine hcd (fun h6=>?_) (fun h6=>?_)
 ·
  have hi5:i < 5:=by have:(i:Int) < 5:=h6;omega
  refine ao5 ?_;refine hcd (fun h7=>?_) (fun h7=>?_)
  ·
   have hbit:ae4 c i = true:=decide_eq_true h7;refine w_2 ?_;refine rq rfl rfl rfl rfl rfl ?_ (hp:=(by have h6:=alo hi5;show 1 + (k8.getD i default).size <= _;omega));refine fc9 se (sh 2 false ((((gt ns l ps ps.length) ++ jo ns l (c8 l ps l.length) (c8 l ps l.length).length) ++ [99,108,97,105,109,115]) ++ j0 c i) (⟨#[32]⟩ ++ k8.getD i default) (by have h1:=hP ps.length;have h4:=hL (c8 l ps l.length).length;have h5:=aa7 (c:=c) (i:=i) bqx;have h6:=alo hi5;rw [szA,bmo,bmo,bmo];show _ + 6 + _ + (1 + _) <= _;omega)) uu ?_;refine w_5 ?_
   first | (refine ⟨i + 1, ?_, ?_, ?_⟩
            · show i + 1 <= _;omega
            · first | omega | (dsimp only;omega)
            exact ⟨tt,⟨⟨_,rfl,(CoO.of_eq (by rw [ayg hbit]))⟩,trivial⟩⟩)
         | (refine ⟨i + 1, ?_, ?_, ?_⟩
            · show i + 1 <= _;omega
            · first | omega | (dsimp only;omega)
            exact ⟨tt,⟨⟨_,rfl,(CoO.of_eq (by rw [<- azh hbit]))⟩,trivial⟩⟩)
  have hbit:ae4 c i = false:=decide_eq_false h7;refine w_5 ?_
  first | (refine ⟨i + 1, ?_, ?_, ?_⟩
           · show i + 1 <= _;omega
           · first | omega | (dsimp only;omega)
           exact ⟨tt,⟨⟨_,rfl,(CoO.of_eq (by rw [ayg hbit]))⟩,trivial⟩⟩)
        | (refine ⟨i + 1, ?_, ?_, ?_⟩
           · show i + 1 <= _;omega
           · first | omega | (dsimp only;omega)
           exact ⟨tt,⟨⟨_,rfl,(CoO.of_eq (by rw [<- azh hbit]))⟩,trivial⟩⟩)
 obtain rfl:i = 5:=by have:¬ (i:Int) < 5:=h6;omega
 refine w_3 ?_;refine fc9 se (sh 2 false ((((gt ns l ps ps.length) ++ jo ns l (c8 l ps l.length) (c8 l ps l.length).length) ++ [99,108,97,105,109,115]) ++ j0 c 5) ⟨#[10]⟩ (by have h1:=hP ps.length;have h4:=hL (c8 l ps l.length).length;have h5:=aa7 (c:=c) (i:=5) bqx;rw [bmo,bmo,bmo];show _ + 6 + _ + 1 <= _;omega)) uu ?_;refine w_3 ?_;refine fc9 aw3 (b4n 2 false (al7 ns l ps c) (by unfold al7;exact List.append_ne_nil_of_right_ne_nil _ br1)) uu ?_;refine w_3 ?_;refine hrr ?_;have hr:=bgn (c:=c) he hv hb;exact f9 rfl rfl (⟨CoC.one (CoP.of_eq (by rw [hr.2];rfl)),cci hr.1.symm,trivial⟩)
end
section
section
variable {n:Int} {l m:List Fd} {q:List Fd} {i:Nat}
def evT (q:List Fd) (i:Nat):List Fd:=((List.range i).filter fun k=>decide (((k:Nat):Int) % 2 = 0)).map fun k=>q.getD k default
def odT (q:List Fd) (i:Nat):List Fd:=((List.range i).filter fun k=>!decide (((k:Nat):Int) % 2 = 0)).map fun k=>q.getD k default
end
abbrev exC:List Fd:=[⟨1,2⟩,⟨2,4⟩]
abbrev exA:List Fd:=[⟨3,4⟩,⟨4,1⟩]
abbrev exN:List Bs:=[⟨#[97]⟩,⟨#[98]⟩,⟨#[99]⟩]
def bha:(goD 3 exC [] (fb 3 exC [] 3)).1 = [3,6] /\ (goD 3 exC [] (fb 3 exC [] 3)).2.1 = 31 /\ goE 3 exC [] (fb 3 exC [] 3) = 0:=by decide +kernel
def bj3:(goD 3 exA [] (fb 3 exA [] 4)).1 = [5,6] /\ (goD 3 exA [] (fb 3 exA [] 4)).2.1 = 29 /\ goE 3 exA [] (fb 3 exA [] 4) = 0:=by decide +kernel
def bi3:(goD 3 exA [] (pz 3 exA)).1 = [7] /\ (goD 3 exA [] (pz 3 exA)).2.1 = 7 /\ goE 3 exA [] (pz 3 exA) = 0:=by decide +kernel
abbrev b2d:List UInt8:=[112,97,114,116,32,97,44,98,32,107,101,121,115,32,97,10,112,97,114,116,32,98,44,99,32,107,101,121,115,32,98,10,99,108,97,105,109,115,32]
abbrev b46:List UInt8:=[108,111,115,115,108,101,115,115,32,112,114,101,115,101,114,118,105,110,103,32,116,104,105,114,100,32,98,111,121,99,101,32,102,111,117,114,116,104,10]
def bji:uv exN exC [] [3,6] = 0 /\ al7 exN exC [3,6] 31 = List.append b2d b46:=by
 constructor <;> decide +kernel
end
section
open Go.Proofs
def bfk (a:List AS):a6 brj 30 [pP (asl a),pP (asl a)] (a8 [pB true]):=by
 have h:=bk9 a a;rw [decide_eq_true rfl] at h;exact h
def bcq:a6 brj 12 [pI 3,pP (fdl exC),pP (fdl []),pI 3] (a8 [dsn ([3,6],31,(goD 3 exC [] (fb 3 exC [] 3)).2.2),pI 0]):=by
 have h:=aip 3 exC [] 3 br2;obtain ⟨h1,h2,h3⟩:=bha;rw [h3] at h;unfold dsn at h ⊢;rw [h1,h2] at h;exact h
def bcu:a6 brj 12 [pI 3,pP (fdl exA),pP (fdl []),pI 4] (a8 [dsn ([5,6],29,(goD 3 exA [] (fb 3 exA [] 4)).2.2),pI 0]):=by
 have h:=aip 3 exA [] 4 br2;obtain ⟨h1,h2,h3⟩:=bj3;rw [h3] at h;unfold dsn at h ⊢;rw [h1,h2] at h;exact h
def bdd:a6 brj 15 [pI 3,pP (fdl exA),pP (fdl [])] (a8 [dsn ([7],7,(goD 3 exA [] (pz 3 exA)).2.2),pI 0]):=by
 have h:=bj8 3 exA [];obtain ⟨h1,h2,h3⟩:=bi3;rw [h3] at h;unfold dsn at h ⊢;rw [h1,h2] at h;exact h
def bj4 (sts:PV):a6 brj 23 [pP (bsl exN),pP (fdl exC),pP (fdl []), .agg [asl [3,6], .raw (.int .i64 31),sts]] (a8 [pS ⟨(List.append b2d b46).toArray⟩,pI 0]):=by
 have h:=b84 exN exC [] [3,6] 31 sts br2;obtain ⟨h1,h2⟩:=bji;rw [h1,show agy exN exC [] [3,6] 31 = ⟨(List.append b2d b46).toArray⟩ from (if_pos h1).trans (congrArg bOf h2)] at h;exact h
def aog  : a6 brj 11 [] (a8 [pB true]):=by
 refine hpx (nt:=84) Tryz.func11 ?_;refine w_8 ?_;refine m9 0 ?_;refine w_6 ?_;refine m9 1 ?_;refine w_3 ?_;refine al 1 rfl rfl rfl ?_;refine al 2 rfl rfl rfl ?_;refine w_2 ?_;refine rc rfl rfl rfl rfl rfl rfl ak7 (bcq) (⟨CoC.refl _,(CoC.one (CoP.sl rfl (.inl rfl) (fun h=>(by cases h)) fun i j hi hj=>CoP.of_eq (by have hi:i < 2:=hi;have hj:j < 2:=hj;rcases (show i = 0 \/ i = 1 by omega) with rfl | rfl <;> rcases (show j = 0 \/ j = 1 by omega) with rfl | rfl <;> rfl))),CoC.one coN,CoC.refl _,trivial⟩) rfl rfl ?_;refine w_3 ?_;refine m9 2 ?_;refine w_5 ?_;refine m9 3 ?_;refine w_2 ?_;refine rc rfl rfl rfl rfl rfl rfl (wgx Tryz.func23) (bj4 _) (⟨(CoC.one (CoP.sl rfl (.inl rfl) (fun h=>(by cases h)) fun i j hi hj=>CoP.of_eq (by have hi:i < 3:=hi;have hj:j < 1:=hj;obtain rfl:j = 0:=bqx;rcases (show i = 0 \/ i = 1 \/ i = 2 by omega) with rfl | rfl | rfl <;> rfl))),(CoC.one (CoP.sl rfl (.inl rfl) (fun h=>(by cases h)) fun i j hi hj=>CoP.of_eq (by have hi:i < 2:=hi;have hj:j < 2:=hj;rcases (show i = 0 \/ i = 1 by omega) with rfl | rfl <;> rcases (show j = 0 \/ j = 1 by omega) with rfl | rfl <;> rfl))),CoC.one coN,CoC.refl _,trivial⟩) rfl rfl ?_;refine w_9 ?_;refine rc rfl rfl rfl rfl rfl rfl ak7 (bcu) (⟨CoC.refl _,(CoC.one (CoP.sl rfl (.inl rfl) (fun h=>(by cases h)) fun i j hi hj=>CoP.of_eq (by have hi:i < 2:=hi;have hj:j < 2:=hj;rcases (show i = 0 \/ i = 1 by omega) with rfl | rfl <;> rcases (show j = 0 \/ j = 1 by omega) with rfl | rfl <;> rfl))),CoC.one coN,CoC.refl _,trivial⟩) rfl rfl ?_;refine w_3 ?_;refine m9 4 ?_;refine w_6 ?_;refine rc rfl rfl rfl rfl rfl rfl (wgx Tryz.func15) (bdd) (⟨CoC.refl _,(CoC.one (CoP.sl rfl (.inl rfl) (fun h=>(by cases h)) fun i j hi hj=>CoP.of_eq (by have hi:i < 2:=hi;have hj:j < 2:=hj;rcases (show i = 0 \/ i = 1 by omega) with rfl | rfl <;> rcases (show j = 0 \/ j = 1 by omega) with rfl | rfl <;> rfl))),CoC.one coN,trivial⟩) rfl rfl ?_
 refine w_3 ?_;refine m9 5 ?_;refine en ?_;(iterate 2 refine rq rfl rfl rfl rfl (gtt (dn rfl rfl)) ?_);refine w_2 ?_;(iterate 2 refine rq rfl rfl rfl rfl (gtt (dn (dn rfl rfl) rfl)) ?_);refine w_2 ?_;(iterate 3 refine rq rfl rfl rfl rfl (gtt (dn (dn (dn rfl rfl) rfl) rfl)) ?_);refine w_2 ?_;(iterate 2 refine rq rfl rfl rfl rfl (gtt (dn (dn (dn (dn rfl rfl) rfl) rfl) rfl)) ?_);refine w_2 ?_
 refine ai rfl rfl (fun r0=>?_) (fun r0=>?_)
 ·
  have h0:=tz1 (bt (dn (dn (dn (dn rfl rfl) rfl) rfl) rfl) r0);(iterate 2 refine qy ?_ (hg:=(gtt r0)));refine rm 6 rfl rfl rfl rfl rfl (gtt r0) ?_
  refine rc rfl rfl rfl rfl rfl rfl (wgx Tryz.func30) (bfk [5,6]) (⟨CoC.refl _,(CoC.one (CoP.sl rfl (.inl rfl) (fun h=>(by cases h)) fun i j hi hj=>CoP.of_eq (by have hi:i < 2:=hi;have hj:j < 1:=hj;obtain rfl:j = 0:=bqx;rcases (show i = 0 \/ i = 1 by omega) with rfl | rfl <;> rfl))),trivial⟩) rfl (gtt r0) ?_;refine w_2 ?_;(iterate 3 refine rq rfl rfl rfl rfl (gtt (dn r0 rfl)) ?_);refine w_2 ?_;(iterate 2 refine rq rfl rfl rfl rfl (gtt (dn (dn r0 rfl) rfl)) ?_);refine rm 7 rfl rfl rfl rfl rfl (gtt (dn (dn r0 rfl) rfl)) ?_;refine rc rfl rfl rfl rfl rfl rfl (wgx Tryz.func30) (bfk [7]) (⟨CoC.refl _,(CoC.one (CoP.sl rfl (.inl rfl) (fun h=>(by cases h)) fun i j hi hj=>CoP.of_eq (by have hi:i < 1:=hi;have hj:j < 1:=hj;obtain rfl:j = 0:=bqx;obtain rfl:i = 0:=bqx;rfl))),trivial⟩) rfl (gtt (dn (dn r0 rfl) rfl)) ?_;refine w_2 ?_;(iterate 3 refine rq rfl rfl rfl rfl (gtt (dn (dn (dn r0 rfl) rfl) rfl)) ?_);refine v_3 ?_;exact CoL.refl _
 have h0:=tz2 (bt (dn (dn (dn (dn rfl rfl) rfl) rfl) rfl) r0);exfalso
 first | exact h0 rfl | exact h0 trivial | cases h0
end
section
open Go.Proofs
def bjh (d:Rcp) (hf:d.f.length <= 16777216) (hm:d.m.length <= 16777216) (hp:d.p.length <= 16777216):a6 brj 10 [d.pc] (a8 [pI (d.num 4),pP (fdl (d.fs 4)),pP (fdl (d.ms 4)),pP (asl (d.ps 4)),pB (okR d)]):=by
 refine hpx (nt:=30) Tryz.func10 ?_;refine sx7 ?_;refine m9 0 ?_;refine w_9 ?_;refine qcx (wgx Tryz.func29) (bk1 d hf hm hp) ?_;refine ao5 ?_;refine ai rfl rfl (fun r0=>?_) (fun r0=>?_)
 ·
  have h0:=r0;(iterate 3 refine qy ?_ (hg:=(gtt r0)));refine w_7 ?_
  exact hx8 rfl rfl rfl (⟨CoC.refl _,CoC.refl _,CoC.refl _,CoC.refl _,ccb (by unfold okR;first | (simp_all;done) | (rw [‹decide _ = false›];rfl) | (simp_all;omega)),trivial⟩)
 have h0:=r0;(iterate 3 refine k9 (gft r0) ?_);refine rq rfl rfl rfl rfl rfl ?_ (hp:=r0);refine w_6 ?_
 exact hx8 rfl rfl rfl (⟨CoC.refl _,CoC.refl _,CoC.refl _,CoC.refl _,ccb (by unfold okR;first | (simp_all;done) | (rw [‹decide _ = false›];rfl) | (simp_all;omega)),trivial⟩)
end
section
open Go.Proofs
def bg3 (n:Int) (l m:List Fd) (ps:List AS) (hn:n <= 16) (hp:∀ q ∈ ps,sub q (a7 n)):a6 brj 48 [pI n,pP (fdl l),pP (fdl m),pP (asl ps)] (a8 [pI (fmI n l m ps)]):=by
 refine hpx (nt:=59) Tryz.func48 ?_;refine w_5 ?_;refine ca 3 rfl fun hlen=>?_;refine w_9 ?_;refine b7 (ka 0 (ka 1 (ka 2 (ka 3 kn)))) km (fun i=>⟨[(9,some (vI (fmI n l m (ps.take i)))),(10,some (vI i))],[]⟩) ps.length kk ?_;rintro i hi;refine w_8 ?_;refine hcd (fun h0=>?_) (fun h0=>?_)
 ·
  have hil:i < ps.length:=by omega
  refine d6 ?_;refine kg (ka 0 (ka 1 (ka 2 (ka 3 (ka 10 kn))))) km ⟨[(9,some (vI (fmI n l m (ps.take (i + 1)))))],[]⟩ ?_ ?_
  ·
   refine a4d ?_;refine kg (ka 0 (ka 1 (ka 2 (ka 3 (ka 10 kn))))) km ⟨[(9,some (vI (fm1 n l m ps i)))],[]⟩ ?_ ?_
   ·
    refine w_8 ?_;refine qcx (wgx Tryz.func107) (azz n l (ps.getD i default)) ?_;refine cq ?_;refine hcv (fun h1=>?_) (fun h1=>?_)
    · have hx:=bj7 (m:=m) hil h1;refine w_5 ?_;exact ⟨⟨⟨_,rfl,(coi hx)⟩,tt⟩,trivial⟩
    have hx:=bj9 (m:=m) hil h1;refine d6 ?_;exact ⟨⟨⟨_,rfl,(coi hx)⟩,tt⟩,trivial⟩
   refine kg (ka 0 (ka 1 (ka 2 (ka 3 (ka 10 kn))))) km ⟨[(9,some (vI (fm2 n l m ps i)))],[]⟩ ?_ ?_
   ·
    refine w_7 ?_;refine qcx (wgx Tryz.func108) (bfe l (ps.getD i default)) ?_;refine w_2 ?_;refine hcv (fun h2=>?_) (fun h2=>?_)
    · have hx:=bh3 (n:=n) (m:=m) hil (by simpa using h2);refine w_5 ?_;exact ⟨⟨⟨_,rfl,(coi hx)⟩,tt⟩,trivial⟩
    have hx:=bhu (n:=n) (m:=m) hil (by simpa using h2);refine d6 ?_;exact ⟨⟨⟨_,rfl,(coi hx)⟩,tt⟩,trivial⟩
   refine w_9 ?_;refine qcx afn (afh n l m (ps.getD i default) hn (hp _ (dt hil))) ?_;refine w_3 ?_;refine m9 0 ?_;refine w_7 ?_;refine hcb (fun h3=>?_) (fun h3=>?_)
   · have hx:=biw hil h3;refine w_5 ?_;exact ⟨⟨⟨_,rfl,(coi hx)⟩,tt⟩,trivial⟩
   have hx:=bic hil h3;refine d6 ?_;exact ⟨⟨⟨_,rfl,(coi hx)⟩,tt⟩,trivial⟩
  refine w_5 ?_;exact lpx (i + 1) kk
 obtain rfl:i = ps.length:=by omega
 refine v_6 ?_;exact ⟨cci (by rw [bmt]),trivial⟩
def av4 (n:Int) (l m:List Fd) (ps:List AS):a6 brj 19 [pI n,pP (fdl l),pP (fdl m),pP (asl ps)] (a8 [pI (p7 n l m ps),pI (lsC n ps l m)]):=by
 refine hpx (nt:=40) Tryz.func19 ?_;refine cq ?_;refine qcx (wgx Tryz.func47) (bjs n ps l m) ?_;refine en ?_;refine hcn (fun h0=>?_) (fun h0=>?_)
 · have hr:=b5f (l:=l) (m:=m) (ps:=ps) (n:=n) h0;refine v_6 ?_;exact ⟨cci hr.symm,CoC.refl _,trivial⟩
 have hls:lsC n ps l m = 0:=by assumption
 obtain ⟨hn0,hn8,_,_,_,hps⟩:=bgo hls;have hl:l.length <= 16777216:=by have:=(l7 (qf hls).2).2.2.1;omega
 refine w_7 ?_;refine qcx (wgx Tryz.func48) (bg3 n l m ps bqx (fun q hq=>(hps q hq).1)) ?_;refine w_2 ?_;refine kg (ka 1 (ka 3 kn)) km ⟨[(12,some (vI (fmL n l m ps)))],[]⟩ ?_ ?_
 ·
  refine w_4 ?_;refine hcb (fun h1=>?_) (fun h1=>?_)
  · have hx:=bhs (n:=n) (l:=l) (m:=m) (ps:=ps) h1;refine w_5 ?_;exact ⟨⟨⟨_,rfl,(coi hx)⟩,tt⟩,trivial⟩
  have hx:=bjl (n:=n) (l:=l) (m:=m) (ps:=ps) h1;refine d6 ?_;exact ⟨⟨⟨_,rfl,(coi hx)⟩,tt⟩,trivial⟩
 refine kg kn km ⟨[(12,some (vI (p7 n l m ps)))],[]⟩ ?_ ?_
 ·
  refine w_4 ?_;refine qcx (wgx Tryz.func49) (b15 l ps hl) ?_;refine w_3 ?_;refine hcd (fun h2=>?_) (fun h2=>?_)
  · have hx:=bhe hls h2;refine w_5 ?_;exact ⟨⟨⟨_,rfl,(coi hx)⟩,trivial⟩,trivial⟩
  have hx:=bik hls h2;refine d6 ?_;exact ⟨⟨⟨_,rfl,(coi hx)⟩,trivial⟩,trivial⟩
 refine v_6 ?_;exact ⟨CoC.refl _,cci hls.symm,trivial⟩
def aC (q:List AS) (_:Nat):PV:=asl q
end
section
section
variable {n:Int} {l m:List Fd} {ps:List AS}
def axk (h:ni n l m = 0):0 <= n /\ n <= 8 /\ br n l m = 0 /\ b5 n l = 0 /\ er n l 8 = 0 /\ ck4 n l m 0 = 0:=by
 unfold ni at h;split at h
 · cases h
 have hv:b5 n l = 0:=by
  have h2:=h;unfold br at h2;split at h2
  · assumption
  exact h2
 refine ⟨by omega,by omega,h,hv, ?_, ?_⟩
 · unfold er
   rw [if_pos hv,if_neg bqx]
 rw [a5o bqx];exact ae9 h br1
def au8 {f:Int} (h:ni n l m = 0) (hf:f = 3 \/ f = 4 \/ f = 5):(fb n l m f).2 = 0:=by
 obtain ⟨_,_,_,h1,h2,h3⟩:=axk h
 rcases hf with rfl | rfl | rfl
 · exact h1
 · exact h2
 exact h3
end
end
section
open Go.Proofs
def q8 (n:Int) (q:BitVec 8):AS:=q.setWidth 32 &&& a7 n
end
section
section
variable {n:Int} {p m:List Fd} {E:Int -> Int -> Prop} {R:Rw -> Prop}
def bll (E:Int -> Int -> Prop) (R:Rw -> Prop) (x b:AS):Prop:=∀ a c,R a -> R c -> AgE E a c x -> R (dy a c b)
end
section
variable {n:Int} {p m:List Fd}
end
end
section
open Go.Proofs
def b09 {n:Int} {l m:List Fd} (hz:ck4 n l m 0 = 0):a6 brj 38 [pI n,pP (fdl l),pP (fdl m)] (a8 [pP (asl (af0 n l m))]):=by
 have h:=b6g n l m (a68 hz).2.1;rw [<- ayn hz] at h;exact h
end
section
open Go.Proofs
def b7p (q:List St):a6 brj 41 [pP (stl q),pP (stl q)] (a8 [pB true]):=by
 refine hpx (nt:=26) Tryz.func41 ?_;refine w_6 ?_;refine ca 0 rfl fun hlen=>?_;refine w_7 ?_;refine hcn (fun h0=>?_) (fun h0=>?_)
 ·
  exfalso
  first | exact h0 rfl | exact h0 trivial | cases h0
 refine w_7 ?_;refine b7 (ka 0 (ka 1 kn)) km (fun i=>⟨[(5,some (vI i))],[]⟩) q.length kk ?_;rintro i hi;refine w_8 ?_;refine hcd (fun h1=>?_) (fun h1=>?_)
 ·
  have hil:i < q.length:=by omega
  refine pg ?_;refine hcb (fun h2=>?_) (fun h2=>?_)
  · exfalso;simp at h2
  refine w_6 ?_;exact lpx (i + 1) kk
 refine v_5 ?_;exact CoL.refl _
def bgg (q:Dsg):a6 brj 14 [dsn q,dsn q] (a8 [pB true]):=by
 refine hpx (nt:=24) Tryz.func14 ?_;refine sx7 ?_;refine m9 0 ?_;refine m9 1 ?_;refine w_8 ?_;refine qcx (wgx Tryz.func40) (b0y q.1) ?_;refine qy ?_;refine ai rfl rfl (fun r0=>?_) (fun r0=>?_)
 ·
  have h0:=r0;(iterate 5 refine qy ?_ (hg:=(gtt r0)));refine w_2 ?_;refine ai rfl rfl (fun r1=>?_) (fun r1=>?_)
  ·
   have h1:=tz1 (bt r0 r1);(iterate 4 refine qy ?_ (hg:=(gtt r1)));refine qcx (wgx Tryz.func41) (b7p q.2.2) ?_ (hg:=(gtt r1));refine w_3 ?_
   exact hx8 rfl rfl rfl (⟨ccb (by first | rfl | simp),trivial⟩)
  have h1:=tz2 (bt r0 r1);exfalso
  first | exact h1 rfl | exact h1 trivial | cases h1
 have h0:=r0;exfalso
 first | exact h0 rfl | exact h0 trivial | cases h0
def b1e (n:Int) (l m:List Fd) (ps:List AS):a6 brj 39 [pI n,pP (fdl l),pP (fdl m),pP (asl ps)] (a8 [dsn (fuD n l m ps),pI (lsC n ps l m)]):=by
 refine hpx (nt:=41) Tryz.func39 ?_;refine sx7 ?_;refine m9 0 ?_;refine w_8 ?_;refine qcx (wgx Tryz.func19) (av4 n l m ps) ?_;refine en ?_;refine hcn (fun h0=>?_) (fun h0=>?_)
 · have hr:=bc6 (l:=l) (m:=m) (ps:=ps) (n:=n) h0;refine v_7 ?_;exact by rw [hr];exact ⟨CoC.agg ⟨coN,CoP.refl _,coN,trivial⟩,CoC.refl _,trivial⟩
 have hls:lsC n ps l m = 0:=by assumption
 have hodd:=ar8 hls;refine w_6 ?_;refine m9 1 ?_;refine w_9 ?_;refine hcn (fun h1=>?_) (fun h1=>?_)
 ·
  have hb:lsB n ps l m = true:=by
   cases hq:lsB n ps l m with
   | true=>rfl
   | false=>rw [hq] at hodd;exact absurd (a08 hodd) h1
  have hr:=bg8 hls hb;refine w_5 ?_;refine qcx (wgx Tryz.func28) (aqy n ps l m) ?_;refine en ?_;exact hx8 rfl rfl rfl (by rw [hr,hls];first | exact CoL.refl _ | exact ⟨CoC.agg ⟨CoP.refl _,CoP.refl _,coN,trivial⟩,CoC.refl _,trivial⟩)
 have hb:lsB n ps l m = false:=by
  cases hq:lsB n ps l m with
  | false=>rfl
  | true=>rw [hq] at hodd;have hx:=a2a hodd;simp_all
 have hr:=bd4 hls hb;refine v_7 ?_;exact by rw [hr,hls];first | exact CoL.refl _ | exact ⟨CoC.agg ⟨CoP.refl _,CoP.refl _,coN,trivial⟩,CoC.refl _,trivial⟩
def b1w (n:Int) (l m:List Fd) (f:Int):a6 brj 12 [pI n,pP (fdl l),pP (fdl m),pI f] (a8 [dsn (goD n l m (fb n l m f)),pI (goE n l m (fb n l m f))]):=by
 refine hpx (nt:=58) Tryz.func12 ?_;refine sx7 ?_;refine m9 0 ?_;refine w_8 ?_;refine qcx amf (b0f n l m) ?_;refine w_7 ?_;refine hcn (fun h0=>?_) (fun h0=>?_)
 · have hr:=atj (q:=fb n l m f) h0;refine v_7 ?_;exact by rw [hr.1,hr.2];exact ⟨CoC.agg ⟨coN,CoP.refl _,coN,trivial⟩,CoC.refl _,trivial⟩
 have hk:ni n l m = 0:=by assumption
 refine w_9 ?_;refine kg (ka 0 (ka 1 (ka 2 (ka 8 kn)))) (kb 0 km) ⟨[(11,some (.v (.one (.p (asl (fb n l m f).1))))),(12,some (vI (fb n l m f).2))],[]⟩ ?_ ?_
 ·
  refine bz ?_;refine hcd (fun h1=>?_) (fun h1=>?_)
  · have hf3:f = 3:=h1;have hpp:=b22 (n:=n) (l:=l) (m:=m) hf3;refine w_3 ?_;refine qcx alj (afu aor n l) ?_;refine w_6 ?_;exact ⟨⟨⟨_,rfl,(by rw [hpp];first | exact CoR.refl _ | exact coN)⟩,⟨_,rfl,(by rw [hpp];exact CoR.refl _)⟩,tt⟩,uu⟩
  have hf3:¬ f = 3:=h1;refine w_5 ?_;refine hcd (fun h2=>?_) (fun h2=>?_)
  · have hf4:f = 4:=h2;have hpp:=b0s (n:=n) (l:=l) (m:=m) hf3 hf4;refine w_3 ?_;refine qcx (wgx Tryz.func33) (bgb n l) ?_;refine w_6 ?_;exact ⟨⟨⟨_,rfl,(by rw [hpp];first | exact CoR.refl _ | exact coN)⟩,⟨_,rfl,(by rw [hpp];exact CoR.refl _)⟩,tt⟩,uu⟩
  have hf4:¬ f = 4:=h2;refine w_5 ?_;refine hcd (fun h3=>?_) (fun h3=>?_)
  · have hpp:=bf9 (n:=n) (l:=l) (m:=m) hf3 hf4 h3;refine w_4 ?_;refine qcx (wgx Tryz.func34) (bje n l m) ?_;refine w_6 ?_;exact ⟨⟨⟨_,rfl,(by rw [hpp];first | exact CoR.refl _ | exact coN)⟩,⟨_,rfl,(by rw [hpp];exact CoR.refl _)⟩,tt⟩,uu⟩
  have hpp:=b31 (n:=n) (l:=l) (m:=m) hf3 hf4 h3;refine w_3 ?_;exact ⟨⟨⟨_,rfl,(by rw [hpp];first | exact CoR.refl _ | exact coN)⟩,⟨_,rfl,(by rw [hpp];exact CoR.refl _)⟩,tt⟩,uu⟩
 refine w_6 ?_;refine hcn (fun h4=>?_) (fun h4=>?_)
 · have hr:=ata (q:=fb n l m f) hk h4;refine v_7 ?_;exact by rw [hr.1,hr.2];exact ⟨CoC.agg ⟨coN,CoP.refl _,coN,trivial⟩,CoC.refl _,trivial⟩
 have hr:=auj (q:=fb n l m f) hk bqy;refine w_7 ?_;refine qcx ao7 (av9 n l m (fb n l m f).1) ?_;refine v_5 ?_;exact by rw [hr.1,hr.2];exact CoL.refl _
def aps (n:Int) (l m:List Fd) (f:Int):a6 brj 13 [pI n,pP (fdl l),pP (fdl m),pI f] (a8 [dsn (goD n l m (fb n l m f)),pI (goE n l m (fb n l m f))]):=by
 refine hpx (nt:=51) Tryz.func13 ?_;refine sx7 ?_;refine m9 0 ?_;refine w_8 ?_;refine qcx (wgx Tryz.func17) (b66 n l m) ?_;refine w_7 ?_;refine hcn (fun h0=>?_) (fun h0=>?_)
 · have hr:=atj (q:=fb n l m f) h0;refine v_7 ?_;exact by rw [hr.1,hr.2];exact ⟨CoC.agg ⟨coN,CoP.refl _,coN,trivial⟩,CoC.refl _,trivial⟩
 have hk:ni n l m = 0:=by assumption
 refine w_5 ?_;refine db (ι:=Unit) (ka 0 (ka 1 (ka 2 (ka 8 kn)))) (kb 0 km) (fun _i=>⟨[(11,some (.v (.one (.p (asl (fb n l m f).1)))))],[]⟩) (fun _i=>(fb n l m f).2 = 0) ?_ ?_
 ·
  refine bz ?_;refine hcd (fun h1=>?_) (fun h1=>?_)
  ·
   have hf3:f = 3:=h1;have hpp:=b22 (n:=n) (l:=l) (m:=m) hf3;have hq:=au8 hk (.inl hf3);refine w_3 ?_;refine qcx (wgx Tryz.func36) (b02 n l) ?_;refine w_5 ?_;refine ⟨(), ?_, ?_⟩
   · exact hq
   exact ⟨⟨⟨_,rfl,(by rw [hpp];first | exact CoR.refl _ | exact coN)⟩,tt⟩,uu⟩
  have hf3:¬ f = 3:=h1;refine w_5 ?_;refine hcd (fun h2=>?_) (fun h2=>?_)
  ·
   have hf4:f = 4:=h2;have hpp:=b0s (n:=n) (l:=l) (m:=m) hf3 hf4;have hq:=au8 hk (.inr (.inl hf4));refine w_3 ?_;refine qcx (wgx Tryz.func37) (bi6 n l) ?_;refine w_5 ?_;refine ⟨(), ?_, ?_⟩
   · exact hq
   exact ⟨⟨⟨_,rfl,(by rw [hpp];first | exact CoR.refl _ | exact coN)⟩,tt⟩,uu⟩
  have hf4:¬ f = 4:=h2;refine w_5 ?_;refine hcd (fun h3=>?_) (fun h3=>?_)
  ·
   have hpp:=bf9 (n:=n) (l:=l) (m:=m) hf3 hf4 h3;have hq:=au8 hk (.inr (.inr h3));refine w_4 ?_;refine qcx (wgx Tryz.func38) (b09 (axk hk).2.2.2.2.2) ?_;refine w_2 ?_;refine ⟨(), ?_, ?_⟩
   · exact hq
   exact ⟨⟨⟨_,rfl,(by rw [hpp];first | exact CoR.refl _ | exact coN)⟩,tt⟩,uu⟩
  have hpp:=b31 (n:=n) (l:=l) (m:=m) hf3 hf4 h3;have hr:=ata (q:=fb n l m f) hk (by rw [hpp];decide);refine v_6 ?_;exact by rw [hr.1,hr.2,hpp];exact ⟨CoC.agg ⟨coN,CoP.refl _,coN,trivial⟩,CoC.refl _,trivial⟩
 rintro _ hq;have hr:=auj (q:=fb n l m f) hk hq;refine w_6 ?_;refine qcx (wgx Tryz.func39) (b1e n l m (fb n l m f).1) ?_;refine v_5 ?_;exact by rw [hr.1,hr.2];exact CoL.refl _
def bff (d:Rcp) (hf:d.f.length <= 16777216) (hm:d.m.length <= 16777216) (hp:d.p.length <= 16777216) (b:BitVec 8):a6 brj 3 [d.pc, .one (.raw (.int .u8 (b.toNat:Int)))] (a8 [pB true]):=by
 refine hpx (nt:=57) Tryz.func3 ?_;refine sx7 ?_;refine m9 0 ?_;refine w_5 ?_;refine qcx (wgx Tryz.func10) (bjh d hf hm hp) ?_;refine n7 ?_;refine qcx (wgx Tryz.func11) (aog) ?_;refine w_6 ?_;refine hcv (fun h0=>?_) (fun h0=>?_)
 · refine sx7 ?_;refine qcx (wgx Tryz.func11) (aog) ?_;refine v_2 ?_;exact ⟨ccb (by first | rfl | simp),trivial⟩
 have hok:okR d = true:=by simp_all
 obtain ⟨hf4,hm4,hp3⟩:=bh7 hok;have hn4:=bla d;refine w_2 ?_;have hb8:(0:Int) <= (b.toNat:Int) /\ (b.toNat:Int) < 256:=⟨boz _,by have:=b.isLt;omega⟩;refine w_7 ?_;refine qcx ak7 (b1w (d.num 4) (d.fs 4) (d.ms 4) ((b.toNat:Int) % 8)) ?_;refine w_3 ?_;refine m9 1 ?_;refine cq ?_;refine qcx (wgx Tryz.func13) (aps (d.num 4) (d.fs 4) (d.ms 4) ((b.toNat:Int) % 8)) ?_;refine w_3 ?_;refine m9 2 ?_;refine w_9 ?_;refine ai rfl rfl (fun r1=>?_) (fun r1=>?_)
 ·
  have h1:=tz1 r1;(iterate 2 refine qy ?_ (hg:=(gtt r1)));refine qcx (wgx Tryz.func14) (bgg (goD (d.num 4) (d.fs 4) (d.ms 4) (fb (d.num 4) (d.fs 4) (d.ms 4) ((b.toNat:Int) % 8)))) ?_ (hg:=(gtt r1));refine w_3 ?_
  exact hx8 rfl rfl rfl (⟨ccb (by first | rfl | simp),trivial⟩)
 have h1:=tz2 r1;exfalso
 first | exact h1 rfl | exact h1 trivial | cases h1
end
end Go.Hx

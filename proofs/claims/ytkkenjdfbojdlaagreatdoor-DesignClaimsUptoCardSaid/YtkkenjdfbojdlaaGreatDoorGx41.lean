/- A part of the proof: Ls9 Dw6 Dw4 Ds6 Dw7 Dw10 Dw12. -/
import Derived.Test.YtkkenjdfbojdlaaGreatDoorGx31
import Derived.Test.YtkkenjdfbojdlaaGreatDoorGx32
import Derived.Test.YtkkenjdfbojdlaaGreatDoorGx34
import Derived.Test.YtkkenjdfbojdlaaGreatDoorGx35
import Derived.Test.YtkkenjdfbojdlaaGreatDoorGx36
import Derived.Test.YtkkenjdfbojdlaaGreatDoorGx37
import Derived.Test.YtkkenjdfbojdlaaGreatDoorGx40
set_option linter.all false
set_option maxRecDepth 100000
set_option maxHeartbeats 1000000
namespace Go.Hx
section
def bjt (l0:List Fd) (x:Fd) (a:Nat):Prop:=x.lhs.getLsbD a = true -> imp l0 (aq6 x a) = false
def bk8 (l:List Fd):Prop:=∀ f ∈ l,∃ k:Nat,f.rhs = (1:AS) <<< k
section
variable {n:Int} {l:List Fd}
end
end
section
open Go.Proofs
theorem b86:goodFn Tryz.prog 104:=wgx Tryz.func104
theorem b8i (n:Int) (l m:List Fd) (p:AS):a7 Tryz.prog 104 [.agg [.raw (.int .i64 n),fdl l,fdl m],pA p] (ae [pB (thB n l p)]):=by
 refine hpx (nt:=21) Tryz.func104 ?_;refine sx7 ?_;refine m9 0 ?_;refine w_9 ?_;refine qcx b51 (b75 n l p) ?_;refine ce ?_;refine am rfl rfl (fun r0=>?_) (fun r0=>?_)
 ·
  have h0:=r0;(iterate 2 refine qy ?_ (hg:=(gtt r0)));refine w_3 ?_
  exact hx8 rfl rfl rfl (⟨ccb (by unfold thB;first | rfl | simp_all),trivial⟩)
 have h0:=r0;(iterate 2 refine k9 (gft r0) ?_);refine rq rfl rfl rfl rfl rfl ?_ (hp:=r0);refine w_2 ?_
 exact hx8 rfl rfl rfl (⟨ccb (by unfold thB;first | rfl | simp_all),trivial⟩)
theorem b9v:goodFn Tryz.prog 105:=wgx Tryz.func105
theorem b6v (n:Int) (l m:List Fd) (p:AS):a7 Tryz.prog 105 [.agg [.raw (.int .i64 n),fdl l,fdl m],pA p] (ae [pB (byB l p)]):=by
 refine hpx (nt:=22) Tryz.func105 ?_;refine sx7 ?_;refine m9 0 ?_;refine w_7 ?_;refine qcx b9k (bj5 l p) ?_;refine w_4 ?_;refine m9 1 ?_;refine w_9 ?_;refine am rfl rfl (fun r0=>?_) (fun r0=>?_)
 ·
  have h0:=d6 r0;(iterate 2 refine qy ?_ (hg:=(gtt r0)));refine w_3 ?_
  exact hx8 rfl rfl rfl (⟨ccb (by unfold byB;first | rfl | simp_all),trivial⟩)
 have h0:=d5 r0;(iterate 2 refine k9 (gft r0) ?_);refine rq rfl rfl rfl rfl rfl ?_ (hp:=r0);refine w_2 ?_
 exact hx8 rfl rfl rfl (⟨ccb (by unfold byB;first | rfl | simp_all),trivial⟩)
theorem b80:goodFn Tryz.prog 106:=wgx Tryz.func106
theorem b1x (n:Int) (l m:List Fd) (p:AS):a7 Tryz.prog 106 [.agg [.raw (.int .i64 n),fdl l,fdl m],pA p] (ae [pB (foB n l m p)]):=by
 refine hpx (nt:=26) Tryz.func106 ?_;refine sx7 ?_;refine m9 0 ?_;refine cu ?_;refine qcx bc6 (bg5 n l m p) ?_;refine w_4 ?_;refine m9 1 ?_;refine w_9 ?_;refine am rfl rfl (fun r0=>?_) (fun r0=>?_)
 ·
  have h0:=d6 r0;(iterate 2 refine qy ?_ (hg:=(gtt r0)));refine w_3 ?_
  exact hx8 rfl rfl rfl (⟨ccb (by unfold foB;first | rfl | simp_all),trivial⟩)
 have h0:=d5 r0;(iterate 2 refine k9 (gft r0) ?_);refine rq rfl rfl rfl rfl rfl ?_ (hp:=r0);refine w_2 ?_
 exact hx8 rfl rfl rfl (⟨ccb (by unfold foB;first | rfl | simp_all),trivial⟩)
theorem b8o:goodFn Tryz.prog 155:=wgx Tryz.func155
theorem b68 (p:AS) (g k:Nat) (fr:Nat -> PV) (V:AS -> Bool) (hg:goodFn Tryz.prog g) (hV:∀ p,a7 Tryz.prog g [.agg (pvN fr k 0),pA p] (ae [pB (V p)])):a7 Tryz.prog 155 [pA p,pP (bx (.bnd g k fr))] (ae [pB (!V p)]):=by
 refine hpx (nt:=8) Tryz.func155 ?_;refine w_8 ?_;refine rc rfl rfl rfl rfl rfl rfl hg (hV p) (CoL.refl _) rfl rfl ?_;refine w_3 ?_;exact hx8 rfl rfl rfl (CoL.refl _)
theorem b85 {ps:List AS} {V:AS -> Bool}:(!ps.any fun p=>!V p) = ps.all V:=by rw [<- List.not_all_eq_any_not,Bool.not_not]
theorem aej:goodFn Tryz.prog 103:=wgx Tryz.func103
theorem ajw (ps:List AS) (g k:Nat) (fr:Nat -> PV) (V:AS -> Bool) (hg:goodFn Tryz.prog g) (hV:∀ p,a7 Tryz.prog g [.agg (pvN fr k 0),pA p] (ae [pB (V p)])):a7 Tryz.prog 103 [pP (asl ps),pP (.bnd g k fr)] (ae [pB (ps.all V)]):=by
 refine hpx (nt:=9) Tryz.func103 ?_;refine sx7 ?_;refine m9 0 ?_;refine w_3 ?_;refine d4 3 rfl rfl rfl ?_;refine w_3 ?_;refine qcx aet (ar0 ps 155 1 (fun i=>[bx (.bnd g k fr)].getD i .any) (fun p=>!V p) b8o (fun p=>b68 p g k fr V hg hV)) ?_;refine w_3 ?_;exact hx8 rfl rfl rfl (⟨ccb b85,trivial⟩)
theorem bb8:goodFn Tryz.prog 46:=wgx Tryz.func46
theorem bf1 (n:Int) (l m:List Fd) (ps:List AS) (hl:l.length <= 16777216):a7 Tryz.prog 46 [.agg [.raw (.int .i64 n),fdl l,fdl m],pP (asl ps)] (ae [pI (w5 n l m ps)]):=by
 refine hpx (nt:=31) Tryz.func46 ?_;refine sx7 ?_;refine m9 0 ?_;refine w_6 ?_;refine bu (ι:=Unit) ⟨[(1,some _),(2,some _)],[(0,some _)]⟩ ⟨⟨c9,c9,trivial⟩,⟨u9,trivial⟩⟩ (fun _i=>⟨[(5,some (vI (lb (mo l ps) false false false)))],[]⟩) (fun _i=>True) ?_ ?_
 ·
  refine w_5 ?_;refine qcx alw (b2a l ps hl) ?_;refine aq ?_;refine hcb (fun h0=>?_) (fun h0=>?_)
  · have hA:=h0;refine w_5 ?_;exact jnx () ⟨⟨⟨_,rfl,(coi (by first | exact au5 hA | (rw [hA];done) | (rw [hA];rfl)))⟩,c9,c9,trivial⟩,⟨u9,trivial⟩⟩
  have hA:=h0;refine d7 ?_;exact jnx () ⟨⟨⟨_,rfl,(coi (by first | exact au5 hA | (rw [hA];done) | (rw [hA];rfl)))⟩,c9,c9,trivial⟩,⟨u9,trivial⟩⟩
 rintro _ _;refine bu (ι:=Unit) ⟨[(1,some _),(2,some _)],[(0,some _)]⟩ ⟨⟨c9,c9,trivial⟩,⟨u9,trivial⟩⟩ (fun _i=>⟨[(5,some (vI (lb (mo l ps) (ps.all (thB n l)) false false)))],[]⟩) (fun _i=>True) ?_ ?_
 ·
  refine w_5 ?_;refine qcx aej (ajw ps 104 3 (fun i=>([PV.raw (.int .i64 n),fdl l,fdl m]:List PV).getD i .any) (thB n l) b86 (fun p=>b8i n l m p)) ?_;refine aq ?_;refine hcb (fun h1=>?_) (fun h1=>?_)
  · have hB:=h1;refine w_5 ?_;exact jnx () ⟨⟨⟨_,rfl,(coi (by first | exact awk hB | (rw [hB];done) | (rw [hB];rfl)))⟩,c9,c9,trivial⟩,⟨u9,trivial⟩⟩
  have hB:=h1;refine d7 ?_;exact jnx () ⟨⟨⟨_,rfl,(coi (by first | exact awk hB | (rw [hB];done) | (rw [hB];rfl)))⟩,c9,c9,trivial⟩,⟨u9,trivial⟩⟩
 rintro _ _;refine bu (ι:=Unit) ⟨[(1,some _),(2,some _)],[(0,some _)]⟩ ⟨⟨c9,c9,trivial⟩,⟨u9,trivial⟩⟩ (fun _i=>⟨[(5,some (vI (lb (mo l ps) (ps.all (thB n l)) (ps.all (byB l)) false)))],[]⟩) (fun _i=>True) ?_ ?_
 ·
  refine w_5 ?_;refine qcx aej (ajw ps 105 3 (fun i=>([PV.raw (.int .i64 n),fdl l,fdl m]:List PV).getD i .any) (byB l) b9v (fun p=>b6v n l m p)) ?_;refine aq ?_;refine hcb (fun h2=>?_) (fun h2=>?_)
  · have hC:=h2;refine w_5 ?_;exact jnx () ⟨⟨⟨_,rfl,(coi (by first | exact aue hC | (rw [hC];done) | (rw [hC];rfl)))⟩,c9,c9,trivial⟩,⟨u9,trivial⟩⟩
  have hC:=h2;refine d7 ?_;exact jnx () ⟨⟨⟨_,rfl,(coi (by first | exact aue hC | (rw [hC];done) | (rw [hC];rfl)))⟩,c9,c9,trivial⟩,⟨u9,trivial⟩⟩
 rintro _ _;refine bu (ι:=Unit) ⟨[],[]⟩ ⟨trivial,trivial⟩ (fun _i=>⟨[(5,some (vI (lb (mo l ps) (ps.all (thB n l)) (ps.all (byB l)) (ps.all (foB n l m)))))],[]⟩) (fun _i=>True) ?_ ?_
 ·
  refine w_5 ?_;refine qcx aej (ajw ps 106 3 (fun i=>([PV.raw (.int .i64 n),fdl l,fdl m]:List PV).getD i .any) (foB n l m) b80 (fun p=>b1x n l m p)) ?_;refine aq ?_;refine hcb (fun h3=>?_) (fun h3=>?_)
  · have hD:=h3;refine w_5 ?_;exact jnx () ⟨⟨⟨_,rfl,(coi (by first | exact aww hD | (rw [hD];done) | (rw [hD];rfl)))⟩,trivial⟩,trivial⟩
  have hD:=h3;refine d7 ?_;exact jnx () ⟨⟨⟨_,rfl,(coi (by first | exact aww hD | (rw [hD];done) | (rw [hD];rfl)))⟩,trivial⟩,trivial⟩
 rintro _ _;refine w_5 ?_;exact hx8 rfl rfl rfl (CoL.refl _)
theorem acp:goodFn Tryz.prog 18:=wgx Tryz.func18
theorem a87 (n:Int) (l m:List Fd) (ps:List AS):a7 Tryz.prog 18 [pI n,pP (fdl l),pP (fdl m),pP (asl ps)] (ae [pI (jz n l m ps),pI (lsC n ps l m)]):=by
 refine hpx (nt:=34) Tryz.func18 ?_;refine cu ?_;refine qcx bc1 (bis n ps l m) ?_;refine ef ?_;refine hcn (fun h0=>?_) (fun h0=>?_)
 · have hr:=aqy (l:=l) (m:=m) (ps:=ps) (n:=n) h0;refine w_6 ?_;exact hx8 rfl rfl rfl (⟨cci hr.symm,CoC.refl _,trivial⟩)
 have hls:lsC n ps l m = 0:=by assumption
 have hl:l.length <= 16777216:=by have:=(kb (tk hls).2).2.2.1;omega
 refine w_8 ?_;refine qcx bb8 (bf1 n l m ps hl) ?_;refine w_2 ?_;refine bu (ι:=Unit) ⟨[],[]⟩ ⟨trivial,trivial⟩ (fun _i=>⟨[(12,some (vI (jz n l m ps)))],[]⟩) (fun _i=>True) ?_ ?_
 ·
  refine w_4 ?_;refine hcb (fun h1=>?_) (fun h1=>?_)
  · have hr:=bfz hls h1;refine w_5 ?_;exact jnx () ⟨⟨⟨_,rfl,(coi hr.symm)⟩,trivial⟩,trivial⟩
  have hr:=bgu hls h1;refine d7 ?_;exact jnx () ⟨⟨⟨_,rfl,(coi hr.symm)⟩,trivial⟩,trivial⟩
 rintro _ _;refine w_6 ?_;exact hx8 rfl rfl rfl (⟨CoC.refl _,cci hls.symm,trivial⟩)
theorem axt:goodFn Tryz.prog 35:=wgx Tryz.func35
theorem b34 (n:Int) (l m:List Fd) (ps:List AS):a7 Tryz.prog 35 [pI n,pP (fdl l),pP (fdl m),pP (asl ps)] (ae [dsn (fuD n l m ps),pI (lsC n ps l m)]):=by
 refine hpx (nt:=45) Tryz.func35 ?_;refine sx7 ?_;refine m9 0 ?_;refine w_8 ?_;refine qcx acp (a87 n l m ps) ?_;refine ef ?_;refine hcn (fun h0=>?_) (fun h0=>?_)
 · have hr:=bhb (l:=l) (m:=m) (ps:=ps) (n:=n) h0;refine w_7 ?_;exact hx8 rfl rfl rfl (by rw [hr];exact ⟨CoC.agg ⟨coN,CoP.refl _,coN,trivial⟩,CoC.refl _,trivial⟩)
 have hls:lsC n ps l m = 0:=by assumption
 have hodd:=b9d hls;refine w_6 ?_;refine m9 1 ?_;refine w_9 ?_;refine hcn (fun h1=>?_) (fun h1=>?_)
 ·
  have hb:lsB n ps l m = true:=by
   cases hq:lsB n ps l m with
   | true=>rfl
   | false=>rw [hq] at hodd;exact absurd (a1b hodd) h1
  have hp0:=bfl hls hb;have hr:=bib hls hb;refine w_6 ?_;refine qcx bdc (b9r n ps l m) ?_;refine ef ?_;refine hcn (fun h2=>?_) (fun h2=>?_)
  · exfalso;exact h2 hp0
  refine w_7 ?_;exact hx8 rfl rfl rfl (by rw [hr,hls];first | exact CoL.refl _ | exact ⟨CoC.agg ⟨CoP.refl _,CoP.refl _,coN,trivial⟩,CoC.refl _,trivial⟩)
 have hb:lsB n ps l m = false:=by
  cases hq:lsB n ps l m with
  | false=>rfl
  | true=>rw [hq] at hodd;have hx:=a3w hodd;simp_all
 have hr:=biv hls hb;refine w_7 ?_;exact hx8 rfl rfl rfl (by rw [hr,hls];first | exact CoL.refl _ | exact ⟨CoC.agg ⟨CoP.refl _,CoP.refl _,coN,trivial⟩,CoC.refl _,trivial⟩)
theorem axo:goodFn Tryz.prog 31:=wgx Tryz.func31
theorem bcp (n:Int) (l m:List Fd):a7 Tryz.prog 31 [pI n,pP (fdl l),pP (fdl m)] (ae [pI (vl n l m)]):=by
 refine hpx (nt:=17) Tryz.func31 ?_;refine ce ?_;refine am rfl rfl (fun r0=>?_) (fun r0=>?_)
 ·
  have h0:=tz1 r0;have hk:=b3u (l:=l) (m:=m) (n:=n) (.inl h0);(iterate 2 refine k9 (gtf r0) ?_);refine rq rfl rfl rfl rfl rfl ?_ (hp:=r0);refine aq ?_;refine a8 _ rfl (fun _=>?_) (fun e=>by cases e);refine w_4 ?_
  exact hx8 rfl rfl rfl (⟨cci hk.symm,trivial⟩)
 have h0:=tz2 r0;(iterate 2 refine qy ?_ (hg:=(gff r0)));refine w_2 ?_;refine a8 _ rfl (fun r1=>?_) (fun r1=>?_)
 · have h1:=tz1 (au r0 r1);have hk:=b3u (l:=l) (m:=m) (n:=n) (.inr h1);refine w_4 ?_;exact hx8 rfl rfl rfl (⟨cci hk.symm,trivial⟩)
 have h1:=tz2 (au r0 r1);have hk:vl n l m = c8 n l m:=bh2 bos;refine w_6 ?_;refine qcx a1n (y7 n l m) ?_;refine w_2 ?_;exact hx8 rfl rfl rfl (⟨cci hk.symm,trivial⟩)
theorem axx:goodFn Tryz.prog 12:=wgx Tryz.func12
theorem afj (n:Int) (l m:List Fd) (f:Int) (h5:¬ f = 5):a7 Tryz.prog 12 [pI n,pP (fdl l),pP (fdl m),pI f] (ae [dsn (goD n l m (lw n l m f)),pI (goE n l m (lw n l m f))]):=by
 refine hpx (nt:=58) Tryz.func12 ?_;refine sx7 ?_;refine m9 0 ?_;refine w_8 ?_;refine qcx axo (bcp n l m) ?_;refine w_7 ?_;refine hcn (fun h0=>?_) (fun h0=>?_)
 · have hr:=bbg (q:=lw n l m f) h0;refine w_7 ?_;exact hx8 rfl rfl rfl (by rw [hr.1,hr.2];exact ⟨CoC.agg ⟨coN,CoP.refl _,coN,trivial⟩,CoC.refl _,trivial⟩)
 have hk:vl n l m = 0:=by assumption
 refine w_9 ?_;refine bu (ι:=Unit) ⟨[(0,some _),(1,some _),(2,some _),(8,some _)],[(0,some _)]⟩ ⟨⟨c9,c9,c9,c9,trivial⟩,⟨u9,trivial⟩⟩ (fun _i=>⟨[(11,some (.v (.one (.p (asl (lw n l m f).1))))),(12,some (vI (lw n l m f).2))],[]⟩) (fun _i=>True) ?_ ?_
 ·
  refine ce ?_;refine hcd (fun h1=>?_) (fun h1=>?_)
  · have hf3:f = 3:=h1;have hpp:=bi1 (n:=n) (l:=l) (m:=m) hf3;refine w_3 ?_;refine qcx aw1 (an8 ati n l) ?_;refine w_6 ?_;exact jnx () ⟨⟨⟨_,rfl,(by rw [hpp];first | exact CoR.refl _ | exact coN)⟩,⟨_,rfl,(by rw [hpp];exact CoR.refl _)⟩,c9,c9,c9,c9,trivial⟩,⟨u9,trivial⟩⟩
  have hf3:¬ f = 3:=h1;refine w_5 ?_;refine hcd (fun h2=>?_) (fun h2=>?_)
  · have hf4:f = 4:=h2;have hpp:=biq (n:=n) (l:=l) (m:=m) hf3 hf4;refine w_3 ?_;refine qcx bcf (bi3 n l) ?_;refine w_6 ?_;exact jnx () ⟨⟨⟨_,rfl,(by rw [hpp];first | exact CoR.refl _ | exact coN)⟩,⟨_,rfl,(by rw [hpp];exact CoR.refl _)⟩,c9,c9,c9,c9,trivial⟩,⟨u9,trivial⟩⟩
  have hf4:¬ f = 4:=h2;refine w_5 ?_;refine hcd (fun h3=>?_) (fun h3=>?_)
  · exfalso;exact h5 h3
  have hpp:=bie (n:=n) (l:=l) (m:=m) hf3 hf4 h3;refine w_3 ?_;exact jnx () ⟨⟨⟨_,rfl,(by rw [hpp];first | exact CoR.refl _ | exact coN)⟩,⟨_,rfl,(by rw [hpp];exact CoR.refl _)⟩,c9,c9,c9,c9,trivial⟩,⟨u9,trivial⟩⟩
 rintro _ _;refine w_6 ?_;refine hcn (fun h4=>?_) (fun h4=>?_)
 · have hr:=bdg (q:=lw n l m f) hk h4;refine w_7 ?_;exact hx8 rfl rfl rfl (by rw [hr.1,hr.2];exact ⟨CoC.agg ⟨coN,CoP.refl _,coN,trivial⟩,CoC.refl _,trivial⟩)
 have hr:=bb2 (q:=lw n l m f) hk bot;refine w_7 ?_;refine qcx axt (b34 n l m (lw n l m f).1) ?_;refine w_5 ?_;exact hx8 rfl rfl rfl (by rw [hr.1,hr.2];exact CoL.refl _)
theorem bea:goodFn Tryz.prog 15:=wgx Tryz.func15
theorem bfu (n:Int) (l m:List Fd):a7 Tryz.prog 15 [pI n,pP (fdl l),pP (fdl m)] (ae [dsn (goD n l m (ot n l)),pI (goE n l m (ot n l))]):=by
 refine hpx (nt:=50) Tryz.func15 ?_;refine sx7 ?_;refine m9 0 ?_;refine w_8 ?_;refine qcx axo (bcp n l m) ?_;refine w_7 ?_;refine hcn (fun h0=>?_) (fun h0=>?_)
 · have hr:=bbg (q:=ot n l) h0;refine w_7 ?_;exact hx8 rfl rfl rfl (by rw [hr.1,hr.2];exact ⟨CoC.agg ⟨coN,CoP.refl _,coN,trivial⟩,CoC.refl _,trivial⟩)
 have hk:vl n l m = 0:=by assumption
 refine w_5 ?_;refine qcx bbx (bga n l) ?_;refine w_8 ?_;refine bu (ι:=Unit) ⟨[(0,some _),(1,some _),(2,some _),(6,some _)],[(0,some _)]⟩ ⟨⟨c9,c9,c9,c9,trivial⟩,⟨u9,trivial⟩⟩ (fun _i=>⟨[(9,some (.v (.one (.p (asl (ot n l).1))))),(11,some (vI (ot n l).2))],[]⟩) (fun _i=>True) ?_ ?_
 ·
  refine w_5 ?_;refine am rfl rfl (fun r1=>?_) (fun r1=>?_)
  ·
   have h1:=tz1 r1;(iterate 2 refine qy ?_ (hg:=(gtt r1)));refine w_2 ?_;refine a8 _ rfl (fun r2=>?_) (fun r2=>?_)
   · have h2:=d6 (bp r1 r2);have hpp:=bht (n:=n) (l:=l) bot bp5;refine w_3 ?_;refine qcx aw1 (an8 ati n l) ?_;refine w_6 ?_;exact jnx () ⟨⟨⟨_,rfl,(by rw [hpp];exact CoR.refl _)⟩,⟨_,rfl,(by rw [hpp];exact CoR.refl _)⟩,c9,c9,c9,c9,trivial⟩,⟨u9,trivial⟩⟩
   have h2:=d5 (bp r1 r2);have hpp:=bj0 (n:=n) (l:=l) bot bp5;refine d7 ?_;exact jnx () ⟨⟨⟨_,rfl,(by rw [hpp];exact CoR.refl _)⟩,⟨_,rfl,(by rw [hpp];exact CoR.refl _)⟩,c9,c9,c9,c9,trivial⟩,⟨u9,trivial⟩⟩
  have h1:=tz2 r1;have hpp:=bj4 (n:=n) (l:=l) h1;(iterate 2 refine k9 (gft r1) ?_);refine rq rfl rfl rfl rfl rfl ?_ (hp:=r1);refine aq ?_;refine a8 _ rfl (fun e=>by cases e) (fun _=>?_);refine d7 ?_
  exact jnx () ⟨⟨⟨_,rfl,(by rw [hpp];exact CoR.refl _)⟩,⟨_,rfl,(by rw [hpp];exact CoR.refl _)⟩,c9,c9,c9,c9,trivial⟩,⟨u9,trivial⟩⟩
 rintro _ _;refine w_6 ?_;refine hcn (fun h3=>?_) (fun h3=>?_)
 · have hr:=bdg (q:=ot n l) hk h3;refine w_7 ?_;exact hx8 rfl rfl rfl (by rw [hr.1,hr.2];exact ⟨CoC.agg ⟨coN,CoP.refl _,coN,trivial⟩,CoC.refl _,trivial⟩)
 have hr:=bb2 (q:=ot n l) hk bot;refine w_7 ?_;refine qcx axt (b34 n l m (ot n l).1) ?_;refine w_5 ?_;exact hx8 rfl rfl rfl (by rw [hr.1,hr.2];exact CoL.refl _)
end
section
open Go.Proofs
theorem bau:goodFn Tryz.prog 23:=wgx Tryz.func23
theorem b7f (ns:List Bs) (l m:List Fd) (ps:List AS) (c:Int) (sts:PV) (hsz:∀ b ∈ ns,b.size <= 1000):a7 Tryz.prog 23 [pP (bsl ns),pP (fdl l),pP (fdl m), .agg [asl ps, .raw (.int .i64 c),sts]] (ae [pS (aeq ns l m ps c),pI (ud ns l m ps)]):=by
 refine hpx (nt:=128) Tryz.func23 ?_;refine sx7 ?_;refine m9 0 ?_;refine m9 1 ?_;refine w_7 ?_;refine qcx bdo (b6c ns (fun b hb=>bky (hsz b hb) boz)) ?_;refine cu ?_;refine hcn (fun h0=>?_) (fun h0=>?_)
 · refine w_7 ?_;refine ⟨.inr rfl, ?_⟩;have hr:=bcs (l:=l) (m:=m) (ps:=ps) (c:=c) h0;exact f9 rfl rfl (⟨CoC.one (CoP.of_eq (by rw [hr.2];rfl)),cci hr.1.symm,trivial⟩)
 refine ik ?_;refine qcx awh (aoh ns.length ps) ?_;refine w_7 ?_;refine hcn (fun h1=>?_) (fun h1=>?_)
 · refine w_7 ?_;refine ⟨.inr rfl, ?_⟩;have hr:=be7 (l:=l) (m:=m) (c:=c) h0 h1;exact f9 rfl rfl (⟨CoC.one (CoP.of_eq (by rw [hr.2];rfl)),cci hr.1.symm,trivial⟩)
 refine w_7 ?_;refine qcx a1n (y7 ns.length l m) ?_;refine w_7 ?_;refine hcn (fun h2=>?_) (fun h2=>?_)
 · refine w_7 ?_;refine ⟨.inr rfl, ?_⟩;have hr:=bbu (c:=c) h0 h1 h2;exact f9 rfl rfl (⟨CoC.one (CoP.of_eq (by rw [hr.2];rfl)),cci hr.1.symm,trivial⟩)
 refine w_2 ?_;refine d4 4 rfl rfl rfl ?_;refine d4 7 rfl rfl rfl ?_;have he:mj ns = 0:=h0;have hv:lvE ns.length ps = 0:=h1;have hb:c8 ns.length l m = 0:=h2;obtain ⟨hn0,hn8,h64,_,_⟩:=nr hv;obtain ⟨_,_,hl64,hall,_,_⟩:=kb hb;have hx:=bh4 hsz;have hP:∀ i,(fz ns l ps i).length <= 134400000000:=fun i=>aq5 hsz (fun p hp=>ah2 hv hp) h64
 have hin:∀ f ∈ l,sub f.lhs (aa ns.length) /\ sub f.rhs (aa ns.length):=fun f hf=>by
  have:=(b70 hn0 bos).1 (blo.1 hall f hf);exact ⟨gk zk this,gk a3j this⟩
 have hmem:∀ s,sub s (aa ns.length) -> ∀ i ∈ al s,i < ns.length:=fun s hs i hi=>b46 bos hs hi;refine w_6 ?_;refine m9 2 ?_;refine ce ?_;refine a6 (ι:=Nat) ⟨[(1,some _),(7,some _),(15,some _),(16,some _),(51,some _),(52,some _)],[]⟩ ⟨⟨c9,c9,c9,c9,c9,c9,trivial⟩,trivial⟩ (fun i=>⟨[(53,some (vI i))],[(2,some (bd false (fz ns l ps i)))]⟩) (fun i=>i <= ps.length) (fun i=>ps.length - i) (0) (bkl _) ⟨⟨zy,trivial⟩,⟨⟨_,rfl,⟨fun h=>(by cases h),rfl,rfl,rfl⟩⟩,trivial⟩⟩ ?_;rintro i hi;refine w_5 ?_;refine hcd (fun h3=>?_) (fun h3=>?_)
 ·
  have hil:i < ps.length:=by omega
  have hmp:(ps.getD i default) ∈ ps:=dt hil;have hps:sub (ps.getD i default) (aa ns.length):=a5f hv hmp;refine ik ?_;refine qcx acd (ah1 (ps.getD i default) ns (hmem _ hps) hsz) ?_;refine rq rfl rfl rfl rfl rfl ?_ (hp:=(by have h2:=hx (ps.getD i default);show 5 + _ <= _;omega));refine rq rfl rfl rfl rfl rfl ?_ (hp:=(by have h2:=hx (ps.getD i default);rw [szA];show 5 + _ + 5 <= _;omega));refine fc9 qu (qq 2 false (fz ns l ps i) ((⟨#[112,97,114,116,32]⟩ ++ txT ns (ps.getD i default)) ++ ⟨#[32,107,101,121,115]⟩) (by have h1:=hP i;have h2:=hx (ps.getD i default);rw [szA,szA];show _ + (5 + _ + 5) <= _;omega)) ⟨u9,trivial⟩ ?_;refine w_6 ?_;refine qcx beh (cPk l (ps.getD i default)) ?_;refine w_4 ?_;refine a6 (ι:=Nat) ⟨[(1,some _),(7,some _),(15,some _),(16,some _),(51,some _),(52,some _),(53,some _),(65,some _),(66,some _)],[]⟩ ⟨⟨c9,c9,c9,c9,c9,c9,c9,c9,c9,trivial⟩,trivial⟩ (fun k=>⟨[(67,some (vI k))],[(2,some (bd false (((fz ns l ps i) ++ tv ns (ps.getD i default)) ++ nn ns (pkL l (ps.getD i default)) k)))]⟩) (fun k=>k <= (pkL l (ps.getD i default)).length) (fun k=>(pkL l (ps.getD i default)).length - k) (0) (bkl _) ⟨⟨zy,trivial⟩,⟨⟨_,rfl,(CoO.of_eq (by rw [b4f]))⟩,trivial⟩⟩ ?_;rintro k hk;refine w_5 ?_;refine hcd (fun h4=>?_) (fun h4=>?_)
  ·
   have hkk:k < (pkL l (ps.getD i default)).length:=by omega
   have hkey:sub ((pkL l (ps.getD i default)).getD k default) (aa ns.length):=gk (bct (dt hkk)) hps;have hpl:=abv (l:=l) (ah2 hv hmp);refine ef ?_;refine qcx acd (ah1 ((pkL l (ps.getD i default)).getD k default) ns (hmem _ hkey) hsz) ?_;refine rq rfl rfl rfl rfl rfl ?_ (hp:=(by have h2:=hx ((pkL l (ps.getD i default)).getD k default);show 1 + _ <= _;omega));refine fc9 qu (qq 2 false (((fz ns l ps i) ++ tv ns (ps.getD i default)) ++ nn ns (pkL l (ps.getD i default)) k) (⟨#[32]⟩ ++ txT ns ((pkL l (ps.getD i default)).getD k default)) (by have h1:=hP i;have h2:=hx ((pkL l (ps.getD i default)).getD k default);have h3:=a6d hsz (ps.getD i default);have h4:=a4y (i:=k) (ks:=(pkL l (ps.getD i default))) hsz;have h5:=abv (l:=l) (ah2 hv hmp);rw [szA,bkq,bkq];show _ + (1 + _) <= _;omega)) ⟨u9,trivial⟩ ?_;refine w_5 ?_;exact lpx (k + 1) ⟨⟨zy,c9,c9,c9,c9,c9,c9,c9,c9,c9,trivial⟩,⟨⟨_,rfl,(CoO.of_eq (by rw [bbr hkk]))⟩,trivial⟩⟩
  obtain rfl:k = (pkL l (ps.getD i default)).length:=by omega
  refine w_2 ?_;refine fc9 qu (qq 2 false (((fz ns l ps i) ++ tv ns (ps.getD i default)) ++ nn ns (pkL l (ps.getD i default)) (pkL l (ps.getD i default)).length) ⟨#[10]⟩ (by have h1:=hP i;have h3:=a6d hsz (ps.getD i default);have h4:=a4y (i:=(pkL l (ps.getD i default)).length) (ks:=(pkL l (ps.getD i default))) hsz;have h5:=abv (l:=l) (ah2 hv hmp);rw [bkq,bkq];show _ + 1 <= _;omega)) ⟨u9,trivial⟩ ?_;refine w_5 ?_;exact lpx (i + 1) ⟨⟨zy,c9,c9,c9,c9,c9,c9,trivial⟩,⟨⟨_,rfl,(CoO.of_eq (by rw [b5o hil]))⟩,trivial⟩⟩
 obtain rfl:i = ps.length:=by omega
 refine w_7 ?_;refine qcx awy (b2y l ps bos) ?_;refine w_4 ?_;have hL:∀ j,(j9 ns l (c6 l ps l.length) j).length <= 4102400:=fun j=>aq3 hsz (bky ajp hl64);refine a6 (ι:=Nat) ⟨[(1,some _),(7,some _),(15,some _),(16,some _),(82,some _),(83,some _)],[]⟩ ⟨⟨c9,c9,c9,c9,c9,c9,trivial⟩,trivial⟩ (fun j=>⟨[(84,some (vI j))],[(2,some (bd false ((fz ns l ps ps.length) ++ j9 ns l (c6 l ps l.length) j)))]⟩) (fun j=>j <= (c6 l ps l.length).length) (fun j=>(c6 l ps l.length).length - j) (0) (bkl _) ⟨⟨zy,trivial⟩,⟨⟨_,rfl,(CoO.of_eq (by rw [show j9 ns l (c6 l ps l.length) 0 = [] from rfl,blq]))⟩,trivial⟩⟩ ?_;rintro j hj;refine w_5 ?_;refine hcd (fun h5=>?_) (fun h5=>?_)
 ·
  have hjl:j < (c6 l ps l.length).length:=by omega
  have hj2:=b9s hjl;have hls:=bky (ajp (l:=l) (ps:=ps)) hl64;have hf:=hin (l.getD ((c6 l ps l.length).getD j default) default) (dt hj2);refine ik ?_;refine rq rfl rfl rfl rfl rfl ?_ (hp:=⟨rfl,bmz _,Int.ofNat_lt.2 hj2⟩);refine w_2 ?_;refine qcx acd (ah1 (l.getD ((c6 l ps l.length).getD j default) default).lhs ns (hmem _ hf.1) hsz) ?_;refine rq rfl rfl rfl rfl rfl ?_ (hp:=(by have h2:=hx (l.getD ((c6 l ps l.length).getD j default) default).lhs;show 5 + _ <= _;omega));refine rq rfl rfl rfl rfl rfl ?_ (hp:=(by have h2:=hx (l.getD ((c6 l ps l.length).getD j default) default).lhs;rw [szA];show 5 + _ + 4 <= _;omega));refine w_3 ?_;refine rq rfl rfl rfl rfl rfl ?_ (hp:=⟨rfl,bmz _,Int.ofNat_lt.2 hj2⟩);refine w_2 ?_;refine qcx acd (ah1 (l.getD ((c6 l ps l.length).getD j default) default).rhs ns (hmem _ hf.2) hsz) ?_;refine rq rfl rfl rfl rfl rfl ?_ (hp:=(by have h2:=hx (l.getD ((c6 l ps l.length).getD j default) default).lhs;have h3:=hx (l.getD ((c6 l ps l.length).getD j default) default).rhs;rw [szA,szA];show 5 + _ + 4 + _ <= _;omega));refine rq rfl rfl rfl rfl rfl ?_ (hp:=(by have h2:=hx (l.getD ((c6 l ps l.length).getD j default) default).lhs;have h3:=hx (l.getD ((c6 l ps l.length).getD j default) default).rhs;rw [szA,szA,szA];show 5 + _ + 4 + _ + 1 <= _;omega));refine fc9 qu (qq 2 false ((fz ns l ps ps.length) ++ j9 ns l (c6 l ps l.length) j) ((((⟨#[108,111,115,116,32]⟩ ++ txT ns (l.getD ((c6 l ps l.length).getD j default) default).lhs) ++ ⟨#[32,45,62,32]⟩) ++ txT ns (l.getD ((c6 l ps l.length).getD j default) default).rhs) ++ ⟨#[10]⟩) (by have h1:=hP ps.length;have h2:=hx (l.getD ((c6 l ps l.length).getD j default) default).lhs;have h3:=hx (l.getD ((c6 l ps l.length).getD j default) default).rhs;have h4:=hL j;rw [szA,szA,szA,szA,bkq];show _ + (5 + _ + 4 + _ + 1) <= _;omega)) ⟨u9,trivial⟩ ?_;refine w_6 ?_;exact lpx (j + 1) ⟨⟨zy,c9,c9,c9,c9,c9,c9,trivial⟩,⟨⟨_,rfl,(CoO.of_eq (by rw [b8g hjl _ rfl]))⟩,trivial⟩⟩
 obtain rfl:j = (c6 l ps l.length).length:=by omega
 refine w_3 ?_;refine fc9 qu (qq 2 false ((fz ns l ps ps.length) ++ j9 ns l (c6 l ps l.length) (c6 l ps l.length).length) ⟨#[99,108,97,105,109,115]⟩ (by have h1:=hP ps.length;have h4:=hL (c6 l ps l.length).length;rw [bkq];show _ + 6 <= _;omega)) ⟨u9,trivial⟩ ?_;refine w_4 ?_;refine m9 3 ?_;refine w_4 ?_;refine av 109 rfl rfl rfl ?_;refine a6 (ι:=Nat) ⟨[(7,some _),(16,some _),(110,some _)],[]⟩ ⟨⟨c9,c9,c9,trivial⟩,trivial⟩ (fun i=>⟨[(109,some (.v (.one (.p (bsl jo))))),(111,some (vI i))],[(2,some (bd false ((((fz ns l ps ps.length) ++ j9 ns l (c6 l ps l.length) (c6 l ps l.length).length) ++ [99,108,97,105,109,115]) ++ it c i)))]⟩) (fun i=>i <= 5) (fun i=>5 - i) (0) bos ⟨⟨⟨_,rfl,(show CoP _ _ from CoP.sl rfl (.inl rfl) (fun h=>by cases h) fun i j hi hj=>by have hj:j < 1:=hj;obtain rfl:j = 0:=bos;exact CoP.of_eq (b1l (f:=fun a b=>(jo.map fun b=>kp (.string b)).getD (a * 1 + b) .any) hi rfl rfl rfl rfl rfl))⟩,zy,trivial⟩,⟨⟨_,rfl,(CoO.of_eq (by rw [show it c 0 = [] from rfl,blq]))⟩,trivial⟩⟩ ?_;rintro i hi;refine w_5 ?_;refine hcd (fun h6=>?_) (fun h6=>?_)
 ·
  have hi5:i < 5:=by have:(i:Int) < 5:=h6;omega
  refine ar3 ?_;refine hcd (fun h7=>?_) (fun h7=>?_)
  ·
   have hbit:ab4 c i = true:=decide_eq_true h7;refine w_2 ?_;refine rq rfl rfl rfl rfl rfl ?_ (hp:=(by have h6:=am8 hi5;show 1 + (jo.getD i default).size <= _;omega));refine fc9 qu (qq 2 false ((((fz ns l ps ps.length) ++ j9 ns l (c6 l ps l.length) (c6 l ps l.length).length) ++ [99,108,97,105,109,115]) ++ it c i) (⟨#[32]⟩ ++ jo.getD i default) (by have h1:=hP ps.length;have h4:=hL (c6 l ps l.length).length;have h5:=a92 (c:=c) (i:=i) bos;have h6:=am8 hi5;rw [szA,bkq,bkq,bkq];show _ + 6 + _ + (1 + _) <= _;omega)) ⟨u9,trivial⟩ ?_;refine w_5 ?_
   first | (refine ⟨i + 1, ?_, ?_, ?_⟩
            · show i + 1 <= _;omega
            · first | omega | (dsimp only;omega)
            exact ⟨⟨c9,zy,c9,c9,c9,trivial⟩,⟨⟨_,rfl,(CoO.of_eq (by rw [avv hbit]))⟩,trivial⟩⟩)
         | (refine ⟨i + 1, ?_, ?_, ?_⟩
            · show i + 1 <= _;omega
            · first | omega | (dsimp only;omega)
            exact ⟨⟨c9,zy,c9,c9,c9,trivial⟩,⟨⟨_,rfl,(CoO.of_eq (by rw [<- aw2 hbit]))⟩,trivial⟩⟩)
  have hbit:ab4 c i = false:=decide_eq_false h7;refine w_5 ?_
  first | (refine ⟨i + 1, ?_, ?_, ?_⟩
           · show i + 1 <= _;omega
           · first | omega | (dsimp only;omega)
           exact ⟨⟨c9,zy,c9,c9,c9,trivial⟩,⟨⟨_,rfl,(CoO.of_eq (by rw [avv hbit]))⟩,trivial⟩⟩)
        | (refine ⟨i + 1, ?_, ?_, ?_⟩
           · show i + 1 <= _;omega
           · first | omega | (dsimp only;omega)
           exact ⟨⟨c9,zy,c9,c9,c9,trivial⟩,⟨⟨_,rfl,(CoO.of_eq (by rw [<- aw2 hbit]))⟩,trivial⟩⟩)
 obtain rfl:i = 5:=by have:¬ (i:Int) < 5:=h6;omega
 refine w_3 ?_;refine fc9 qu (qq 2 false ((((fz ns l ps ps.length) ++ j9 ns l (c6 l ps l.length) (c6 l ps l.length).length) ++ [99,108,97,105,109,115]) ++ it c 5) ⟨#[10]⟩ (by have h1:=hP ps.length;have h4:=hL (c6 l ps l.length).length;have h5:=a92 (c:=c) (i:=5) bos;rw [bkq,bkq,bkq];show _ + 6 + _ + 1 <= _;omega)) ⟨u9,trivial⟩ ?_;refine w_3 ?_;refine fc9 awg (b2p 2 false (ahj ns l ps c) (by unfold ahj;exact List.append_ne_nil_of_right_ne_nil _ bow)) ⟨u9,trivial⟩ ?_;refine w_4 ?_;refine ⟨.inr rfl, ?_⟩;have hr:=bcz (c:=c) he hv hb;exact f9 rfl rfl (⟨CoC.one (CoP.of_eq (by rw [hr.2];rfl)),cci hr.1.symm,trivial⟩)
end
section
section
variable {n:Int} {l m:List Fd} {q:List Fd} {i:Nat}
def evT (q:List Fd) (i:Nat):List Fd:=((List.range i).filter fun k=>decide (((k:Nat):Int) % 2 = 0)).map fun k=>q.getD k default
def odT (q:List Fd) (i:Nat):List Fd:=((List.range i).filter fun k=>!decide (((k:Nat):Int) % 2 = 0)).map fun k=>q.getD k default
end
abbrev exC:List Fd:=[⟨1,2⟩,⟨2,4⟩]
abbrev exA:List Fd:=[⟨3,4⟩,⟨4,1⟩]
abbrev exN:List Bs:=[⟨#[97]⟩,⟨#[98]⟩,⟨#[99]⟩]
theorem bg0:(goD 3 exC [] (lw 3 exC [] 3)).1 = [3,6] /\ (goD 3 exC [] (lw 3 exC [] 3)).2.1 = 31 /\ goE 3 exC [] (lw 3 exC [] 3) = 0:=by decide +kernel
theorem bgg:(goD 3 exA [] (lw 3 exA [] 4)).1 = [5,6] /\ (goD 3 exA [] (lw 3 exA [] 4)).2.1 = 29 /\ goE 3 exA [] (lw 3 exA [] 4) = 0:=by decide +kernel
theorem bh3:(goD 3 exA [] (ot 3 exA)).1 = [7] /\ (goD 3 exA [] (ot 3 exA)).2.1 = 7 /\ goE 3 exA [] (ot 3 exA) = 0:=by decide +kernel
abbrev azg:List UInt8:=[112,97,114,116,32,97,44,98,32,107,101,121,115,32,97,10,112,97,114,116,32,98,44,99,32,107,101,121,115,32,98,10,99,108,97,105,109,115,32]
abbrev ayu:List UInt8:=[108,111,115,115,108,101,115,115,32,112,114,101,115,101,114,118,105,110,103,32,116,104,105,114,100,32,98,111,121,99,101,32,102,111,117,114,116,104,10]
theorem bg3:ud exN exC [] [3,6] = 0 /\ ahj exN exC [3,6] 31 = List.append azg ayu:=by
 constructor <;> decide +kernel
end
section
open Go.Proofs
theorem bcc (a:List AS):a7 Tryz.prog 30 [pP (asl a),pP (asl a)] (ae [pB true]):=by
 have h:=bi8 a a;rw [decide_eq_true rfl] at h;exact h
theorem bcb:a7 Tryz.prog 12 [pI 3,pP (fdl exC),pP (fdl []),pI 3] (ae [dsn ([3,6],31,(goD 3 exC [] (lw 3 exC [] 3)).2.2),pI 0]):=by
 have h:=afj 3 exC [] 3 boz;obtain ⟨h1,h2,h3⟩:=bg0;rw [h3] at h;unfold dsn at h ⊢;rw [h1,h2] at h;exact h
theorem bcg:a7 Tryz.prog 12 [pI 3,pP (fdl exA),pP (fdl []),pI 4] (ae [dsn ([5,6],29,(goD 3 exA [] (lw 3 exA [] 4)).2.2),pI 0]):=by
 have h:=afj 3 exA [] 4 boz;obtain ⟨h1,h2,h3⟩:=bgg;rw [h3] at h;unfold dsn at h ⊢;rw [h1,h2] at h;exact h
theorem bdt:a7 Tryz.prog 15 [pI 3,pP (fdl exA),pP (fdl [])] (ae [dsn ([7],7,(goD 3 exA [] (ot 3 exA)).2.2),pI 0]):=by
 have h:=bfu 3 exA [];obtain ⟨h1,h2,h3⟩:=bh3;rw [h3] at h;unfold dsn at h ⊢;rw [h1,h2] at h;exact h
theorem bg1 (sts:PV):a7 Tryz.prog 23 [pP (bsl exN),pP (fdl exC),pP (fdl []), .agg [asl [3,6], .raw (.int .i64 31),sts]] (ae [pS ⟨(List.append azg ayu).toArray⟩,pI 0]):=by
 have h:=b7f exN exC [] [3,6] 31 sts boz;obtain ⟨h1,h2⟩:=bg3;rw [h1,show aeq exN exC [] [3,6] 31 = ⟨(List.append azg ayu).toArray⟩ from (if_pos h1).trans (congrArg bOf h2)] at h;exact h
theorem axn:goodFn Tryz.prog 11:=wgx Tryz.func11
theorem ako  : a7 Tryz.prog 11 [] (ae [pB true]):=by
 refine hpx (nt:=84) Tryz.func11 ?_;refine w_8 ?_;refine m9 0 ?_;refine w_6 ?_;refine m9 1 ?_;refine w_3 ?_;refine av 1 rfl rfl rfl ?_;refine av 2 rfl rfl rfl ?_;refine w_2 ?_;refine rc rfl rfl rfl rfl rfl rfl axx (bcb) (⟨CoC.refl _,(CoC.one (CoP.sl rfl (.inl rfl) (fun h=>(by cases h)) fun i j hi hj=>CoP.of_eq (by have hi:i < 2:=hi;have hj:j < 2:=hj;rcases (show i = 0 \/ i = 1 by omega) with rfl | rfl <;> rcases (show j = 0 \/ j = 1 by omega) with rfl | rfl <;> rfl))),CoC.one coN,CoC.refl _,trivial⟩) rfl rfl ?_;refine w_3 ?_;refine m9 2 ?_;refine w_5 ?_;refine m9 3 ?_;refine w_2 ?_;refine rc rfl rfl rfl rfl rfl rfl bau (bg1 _) (⟨(CoC.one (CoP.sl rfl (.inl rfl) (fun h=>(by cases h)) fun i j hi hj=>CoP.of_eq (by have hi:i < 3:=hi;have hj:j < 1:=hj;obtain rfl:j = 0:=bos;rcases (show i = 0 \/ i = 1 \/ i = 2 by omega) with rfl | rfl | rfl <;> rfl))),(CoC.one (CoP.sl rfl (.inl rfl) (fun h=>(by cases h)) fun i j hi hj=>CoP.of_eq (by have hi:i < 2:=hi;have hj:j < 2:=hj;rcases (show i = 0 \/ i = 1 by omega) with rfl | rfl <;> rcases (show j = 0 \/ j = 1 by omega) with rfl | rfl <;> rfl))),CoC.one coN,CoC.refl _,trivial⟩) rfl rfl ?_;refine w_9 ?_;refine rc rfl rfl rfl rfl rfl rfl axx (bcg) (⟨CoC.refl _,(CoC.one (CoP.sl rfl (.inl rfl) (fun h=>(by cases h)) fun i j hi hj=>CoP.of_eq (by have hi:i < 2:=hi;have hj:j < 2:=hj;rcases (show i = 0 \/ i = 1 by omega) with rfl | rfl <;> rcases (show j = 0 \/ j = 1 by omega) with rfl | rfl <;> rfl))),CoC.one coN,CoC.refl _,trivial⟩) rfl rfl ?_;refine w_3 ?_;refine m9 4 ?_;refine w_6 ?_;refine rc rfl rfl rfl rfl rfl rfl bea (bdt) (⟨CoC.refl _,(CoC.one (CoP.sl rfl (.inl rfl) (fun h=>(by cases h)) fun i j hi hj=>CoP.of_eq (by have hi:i < 2:=hi;have hj:j < 2:=hj;rcases (show i = 0 \/ i = 1 by omega) with rfl | rfl <;> rcases (show j = 0 \/ j = 1 by omega) with rfl | rfl <;> rfl))),CoC.one coN,trivial⟩) rfl rfl ?_
 refine w_3 ?_;refine m9 5 ?_;refine ef ?_;(iterate 2 refine rq rfl rfl rfl rfl (gtt (dg rfl rfl)) ?_);refine w_2 ?_;(iterate 2 refine rq rfl rfl rfl rfl (gtt (dg (dg rfl rfl) rfl)) ?_);refine w_2 ?_;(iterate 3 refine rq rfl rfl rfl rfl (gtt (dg (dg (dg rfl rfl) rfl) rfl)) ?_);refine w_2 ?_;(iterate 2 refine rq rfl rfl rfl rfl (gtt (dg (dg (dg (dg rfl rfl) rfl) rfl) rfl)) ?_);refine w_2 ?_
 refine am rfl rfl (fun r0=>?_) (fun r0=>?_)
 ·
  have h0:=tz1 (bp (dg (dg (dg (dg rfl rfl) rfl) rfl) rfl) r0);(iterate 2 refine qy ?_ (hg:=(gtt r0)));refine rm 6 rfl rfl rfl rfl rfl (gtt r0) ?_
  refine rc rfl rfl rfl rfl rfl rfl atr (bcc [5,6]) (⟨CoC.refl _,(CoC.one (CoP.sl rfl (.inl rfl) (fun h=>(by cases h)) fun i j hi hj=>CoP.of_eq (by have hi:i < 2:=hi;have hj:j < 1:=hj;obtain rfl:j = 0:=bos;rcases (show i = 0 \/ i = 1 by omega) with rfl | rfl <;> rfl))),trivial⟩) rfl (gtt r0) ?_;refine w_2 ?_;(iterate 3 refine rq rfl rfl rfl rfl (gtt (dg r0 rfl)) ?_);refine w_2 ?_;(iterate 2 refine rq rfl rfl rfl rfl (gtt (dg (dg r0 rfl) rfl)) ?_);refine rm 7 rfl rfl rfl rfl rfl (gtt (dg (dg r0 rfl) rfl)) ?_;refine rc rfl rfl rfl rfl rfl rfl atr (bcc [7]) (⟨CoC.refl _,(CoC.one (CoP.sl rfl (.inl rfl) (fun h=>(by cases h)) fun i j hi hj=>CoP.of_eq (by have hi:i < 1:=hi;have hj:j < 1:=hj;obtain rfl:j = 0:=bos;obtain rfl:i = 0:=bos;rfl))),trivial⟩) rfl (gtt (dg (dg r0 rfl) rfl)) ?_;refine w_2 ?_;(iterate 3 refine rq rfl rfl rfl rfl (gtt (dg (dg (dg r0 rfl) rfl) rfl)) ?_);refine w_3 ?_;exact hx8 rfl rfl rfl (CoL.refl _)
 have h0:=tz2 (bp (dg (dg (dg (dg rfl rfl) rfl) rfl) rfl) r0);exfalso
 first | exact h0 rfl | exact h0 trivial | cases h0
theorem bcn:goodFn Tryz.prog 19:=wgx Tryz.func19
end
section
open Go.Proofs
theorem bd1:goodFn Tryz.prog 10:=wgx Tryz.func10
theorem bgx (d:Rcp) (hf:d.f.length <= 16777216) (hm:d.m.length <= 16777216) (hp:d.p.length <= 16777216):a7 Tryz.prog 10 [d.pc] (ae [pI (d.num 4),pP (fdl (d.fs 4)),pP (fdl (d.ms 4)),pP (asl (d.ps 4)),pB (okR d)]):=by
 refine hpx (nt:=30) Tryz.func10 ?_;refine sx7 ?_;refine m9 0 ?_;refine w_9 ?_;refine qcx bc3 (bh6 d hf hm hp) ?_;refine ar3 ?_;refine am rfl rfl (fun r0=>?_) (fun r0=>?_)
 ·
  have h0:=r0;(iterate 3 refine qy ?_ (hg:=(gtt r0)));refine w_7 ?_
  exact hx8 rfl rfl rfl (⟨CoC.refl _,CoC.refl _,CoC.refl _,CoC.refl _,ccb (by unfold okR;first | (simp_all;done) | (rw [‹decide _ = false›];rfl) | (simp_all;omega)),trivial⟩)
 have h0:=r0;(iterate 3 refine k9 (gft r0) ?_);refine rq rfl rfl rfl rfl rfl ?_ (hp:=r0);refine w_6 ?_
 exact hx8 rfl rfl rfl (⟨CoC.refl _,CoC.refl _,CoC.refl _,CoC.refl _,ccb (by unfold okR;first | (simp_all;done) | (rw [‹decide _ = false›];rfl) | (simp_all;omega)),trivial⟩)
end
section
open Go.Proofs
theorem bee:goodFn Tryz.prog 48:=wgx Tryz.func48
theorem bdn (n:Int) (l m:List Fd) (ps:List AS) (hn:n <= 16) (hp:∀ q ∈ ps,sub q (aa n)):a7 Tryz.prog 48 [pI n,pP (fdl l),pP (fdl m),pP (asl ps)] (ae [pI (fmI n l m ps)]):=by
 refine hpx (nt:=59) Tryz.func48 ?_;refine w_5 ?_;refine cb 3 rfl fun hlen=>?_;refine w_9 ?_;refine a6 (ι:=Nat) ⟨[(0,some _),(1,some _),(2,some _),(3,some _)],[]⟩ ⟨⟨c9,c9,c9,c9,trivial⟩,trivial⟩ (fun i=>⟨[(9,some (vI (fmI n l m (ps.take i)))),(10,some (vI i))],[]⟩) (fun i=>i <= ps.length) (fun i=>ps.length - i) (0) (bkl _) ⟨⟨c9,zy,trivial⟩,trivial⟩ ?_;rintro i hi;refine w_8 ?_;refine hcd (fun h0=>?_) (fun h0=>?_)
 ·
  have hil:i < ps.length:=by omega
  refine d7 ?_;refine bu (ι:=Unit) ⟨[(0,some _),(1,some _),(2,some _),(3,some _),(10,some _)],[]⟩ ⟨⟨c9,c9,c9,c9,c9,trivial⟩,trivial⟩ (fun _i=>⟨[(9,some (vI (fmI n l m (ps.take (i + 1)))))],[]⟩) (fun _i=>True) ?_ ?_
  ·
   refine a47 ?_;refine bu (ι:=Unit) ⟨[(0,some _),(1,some _),(2,some _),(3,some _),(10,some _)],[]⟩ ⟨⟨c9,c9,c9,c9,c9,trivial⟩,trivial⟩ (fun _i=>⟨[(9,some (vI (fm1 n l m ps i)))],[]⟩) (fun _i=>True) ?_ ?_
   ·
    refine w_8 ?_;refine qcx b7w (auu n l (ps.getD i default)) ?_;refine cu ?_;refine hcv (fun h1=>?_) (fun h1=>?_)
    · have hx:=bfa (m:=m) hil h1;refine w_5 ?_;exact jnx () ⟨⟨⟨_,rfl,(coi hx)⟩,c9,c9,c9,c9,c9,trivial⟩,trivial⟩
    have hx:=bf0 (m:=m) hil h1;refine d7 ?_;exact jnx () ⟨⟨⟨_,rfl,(coi hx)⟩,c9,c9,c9,c9,c9,trivial⟩,trivial⟩
   rintro _ _;refine bu (ι:=Unit) ⟨[(0,some _),(1,some _),(2,some _),(3,some _),(10,some _)],[]⟩ ⟨⟨c9,c9,c9,c9,c9,trivial⟩,trivial⟩ (fun _i=>⟨[(9,some (vI (fm2 n l m ps i)))],[]⟩) (fun _i=>True) ?_ ?_
   ·
    refine w_7 ?_;refine qcx b5q (bcu l (ps.getD i default)) ?_;refine w_2 ?_;refine hcv (fun h2=>?_) (fun h2=>?_)
    · have hx:=bew (n:=n) (m:=m) hil (by simpa using h2);refine w_5 ?_;exact jnx () ⟨⟨⟨_,rfl,(coi hx)⟩,c9,c9,c9,c9,c9,trivial⟩,trivial⟩
    have hx:=bgd (n:=n) (m:=m) hil (by simpa using h2);refine d7 ?_;exact jnx () ⟨⟨⟨_,rfl,(coi hx)⟩,c9,c9,c9,c9,c9,trivial⟩,trivial⟩
   rintro _ _;refine w_9 ?_;refine qcx b4c (b4u n l m (ps.getD i default) hn (hp _ (dt hil))) ?_;refine w_3 ?_;refine m9 0 ?_;refine w_7 ?_;refine hcb (fun h3=>?_) (fun h3=>?_)
   · have hx:=bft hil h3;refine w_5 ?_;exact jnx () ⟨⟨⟨_,rfl,(coi hx)⟩,c9,c9,c9,c9,c9,trivial⟩,trivial⟩
   have hx:=bfk hil h3;refine d7 ?_;exact jnx () ⟨⟨⟨_,rfl,(coi hx)⟩,c9,c9,c9,c9,c9,trivial⟩,trivial⟩
  rintro _ _;refine w_5 ?_;exact lpx (i + 1) ⟨⟨c9,zy,c9,c9,c9,c9,trivial⟩,trivial⟩
 obtain rfl:i = ps.length:=by omega
 refine w_6 ?_;exact hx8 rfl rfl rfl (⟨cci (by rw [bks]),trivial⟩)
theorem aqt (n:Int) (l m:List Fd) (ps:List AS):a7 Tryz.prog 19 [pI n,pP (fdl l),pP (fdl m),pP (asl ps)] (ae [pI (jz n l m ps),pI (lsC n ps l m)]):=by
 refine hpx (nt:=40) Tryz.func19 ?_;refine cu ?_;refine qcx bcq (bir n ps l m) ?_;refine ef ?_;refine hcn (fun h0=>?_) (fun h0=>?_)
 · have hr:=aqy (l:=l) (m:=m) (ps:=ps) (n:=n) h0;refine w_6 ?_;exact hx8 rfl rfl rfl (⟨cci hr.symm,CoC.refl _,trivial⟩)
 have hls:lsC n ps l m = 0:=by assumption
 obtain ⟨hn0,hn8,_,_,_,hps⟩:=a1m hls;have hl:l.length <= 16777216:=by have:=(kb (tk hls).2).2.2.1;omega
 refine w_7 ?_;refine qcx bee (bdn n l m ps bos (fun q hq=>(hps q hq).1)) ?_;refine w_2 ?_;refine bu (ι:=Unit) ⟨[(1,some _),(3,some _)],[]⟩ ⟨⟨c9,c9,trivial⟩,trivial⟩ (fun _i=>⟨[(12,some (vI (fmL n l m ps)))],[]⟩) (fun _i=>True) ?_ ?_
 ·
  refine w_4 ?_;refine hcb (fun h1=>?_) (fun h1=>?_)
  · have hx:=bfi (n:=n) (l:=l) (m:=m) (ps:=ps) h1;refine w_5 ?_;exact jnx () ⟨⟨⟨_,rfl,(coi hx)⟩,c9,c9,trivial⟩,trivial⟩
  have hx:=bg7 (n:=n) (l:=l) (m:=m) (ps:=ps) h1;refine d7 ?_;exact jnx () ⟨⟨⟨_,rfl,(coi hx)⟩,c9,c9,trivial⟩,trivial⟩
 rintro _ _;refine bu (ι:=Unit) ⟨[],[]⟩ ⟨trivial,trivial⟩ (fun _i=>⟨[(12,some (vI (jz n l m ps)))],[]⟩) (fun _i=>True) ?_ ?_
 ·
  refine w_4 ?_;refine qcx bam (az3 l ps hl) ?_;refine w_3 ?_;refine hcd (fun h2=>?_) (fun h2=>?_)
  · have hx:=bg2 hls h2;refine w_5 ?_;exact jnx () ⟨⟨⟨_,rfl,(coi hx)⟩,trivial⟩,trivial⟩
  have hx:=bf4 hls h2;refine d7 ?_;exact jnx () ⟨⟨⟨_,rfl,(coi hx)⟩,trivial⟩,trivial⟩
 rintro _ _;refine w_6 ?_;exact hx8 rfl rfl rfl (⟨CoC.refl _,cci hls.symm,trivial⟩)
def aC (q:List AS) (_:Nat):PV:=asl q
theorem bbj (d:Rcp) (hf:d.f.length <= 16777216) (hm:d.m.length <= 16777216) (hp:d.p.length <= 16777216):a7 Tryz.prog 6 [d.pc] (ae [pB true]):=by
 refine hpx (nt:=96) Tryz.func6 ?_;refine sx7 ?_;refine m9 0 ?_;refine w_5 ?_;refine qcx bd1 (bgx d hf hm hp) ?_;refine ku ?_;refine qcx axn (ako) ?_;refine w_6 ?_;refine hcv (fun h0=>?_) (fun h0=>?_)
 · refine sx7 ?_;refine qcx axn (ako) ?_;refine w_2 ?_;exact hx8 rfl rfl rfl (CoL.refl _)
 have hok:okR d = true:=by simp_all
 obtain ⟨hf4,hm4,hp3⟩:=bgp hok;have hn4:=bhu d;have hpl:(d.ps 4).length = d.p.length:=by simp [Rcp.ps]
 have hwl:=awd (d.num 4) (d.ps 4);refine w_7 ?_;refine qcx bdu (bcj (d.num 4) (d.ps 4) bos) ?_;refine m9 1 ?_;refine w_4 ?_;refine a6 (ι:=Nat) ⟨[(3,some _),(4,some _),(5,some _),(35,some _),(36,some _)],[]⟩ ⟨⟨c9,c9,c9,c9,c9,trivial⟩,trivial⟩ (fun i=>⟨[(37,some (vI i))],[(1,some (.arr true 1 28 2 (lf aC [d.ps 4,(j7 (d.num 4) (d.ps 4))])))]⟩) (fun i=>i <= 2) (fun i=>2 - i) (0) (bkl _) ⟨⟨zy,trivial⟩,⟨⟨_,rfl,(b0d (CoP.refl _) (CoP.refl _))⟩,trivial⟩⟩ ?_;rintro i hi;refine w_5 ?_;refine hcd (fun h1=>?_) (fun h1=>?_)
 ·
  have hi2:i < 2:=by omega
  have hql:(([d.ps 4,(j7 (d.num 4) (d.ps 4))]:List (List AS)).getD i default).length <= 16:=by
   rcases (show i = 0 \/ i = 1 by omega) with rfl | rfl
   · show (d.ps 4).length <= 16;omega
   show (j7 (d.num 4) (d.ps 4)).length <= 16;omega
  refine ku ?_;refine qcx wn (a3s (([d.ps 4,(j7 (d.num 4) (d.ps 4))]:List (List AS)).getD i default).length false (lf sC (([d.ps 4,(j7 (d.num 4) (d.ps 4))]:List (List AS)).getD i default)) bos) ?_;refine qcx acp (a87 (d.num 4) (d.fs 4) (d.ms 4) (([d.ps 4,(j7 (d.num 4) (d.ps 4))]:List (List AS)).getD i default)) ?_;refine ef ?_;refine qcx bcn (aqt (d.num 4) (d.fs 4) (d.ms 4) (([d.ps 4,(j7 (d.num 4) (d.ps 4))]:List (List AS)).getD i default)) ?_;refine ik ?_;refine am rfl rfl (fun r2=>?_) (fun r2=>?_)
  ·
   have h2:=tz2 (d6 r2);exfalso
   first | exact h2 rfl | exact h2 trivial | cases h2
  have h2:=tz1 (d5 r2);(iterate 3 refine qy ?_ (hg:=(gff r2)));refine w_2 ?_;refine am rfl rfl (fun r3=>?_) (fun r3=>?_)
  ·
   have h3:=tz2 (d6 (au r2 r3));exfalso
   first | exact h3 rfl | exact h3 trivial | cases h3
  have h3:=tz1 (d5 (au r2 r3));(iterate 4 refine qy ?_ (hg:=(gff r3)));refine am rfl rfl (fun r4=>?_) (fun r4=>?_)
  ·
   have h4:=tz2 (d6 r4);have h8:=h4;(iterate 3 refine qy ?_ (hg:=(gtt r4)));refine qy ?_ (hg:=(gff r3));refine w_2 ?_;refine a8 _ rfl (fun r5=>?_) (fun r5=>?_)
   · have h5:=tz1 (bp r4 (au r3 r5));exfalso;exact bah h8 h5
   have h5:=tz2 (bp r4 (au r3 r5));refine w_6 ?_;refine qcx wn (a3s (([d.ps 4,(j7 (d.num 4) (d.ps 4))]:List (List AS)).getD i default).length false (lf sC (([d.ps 4,(j7 (d.num 4) (d.ps 4))]:List (List AS)).getD i default)) bos) ?_;refine rc rfl rfl rfl rfl rfl rfl acp (a87 (d.num 4) (d.fs 4) [] (([d.ps 4,(j7 (d.num 4) (d.ps 4))]:List (List AS)).getD i default)) (⟨CoC.refl _,CoC.refl _,CoC.one coN,CoC.refl _,trivial⟩) rfl rfl ?_;refine cu ?_;refine am rfl rfl (fun r6=>?_) (fun r6=>?_)
   ·
    have h6:=tz1 r6;have h86:=h6;(iterate 7 refine qy ?_ (hg:=(gtt r6)));refine w_2 ?_;refine a8 _ rfl (fun r7=>?_) (fun r7=>?_)
    · have h7:=bp r6 r7;exfalso;rw [atd h86] at h7;simp at h7
    have h7:=bp r6 r7;refine w_5 ?_;exact lpx (i + 1) ⟨⟨zy,c9,c9,c9,c9,c9,trivial⟩,⟨u9,trivial⟩⟩
   have h6:=tz2 r6;(iterate 7 refine k9 (gft r6) ?_);refine rq rfl rfl rfl rfl rfl ?_ (hp:=r6);refine aq ?_;refine a8 _ rfl (fun e=>by cases e) (fun _=>?_);refine w_5 ?_
   exact lpx (i + 1) ⟨⟨zy,c9,c9,c9,c9,c9,trivial⟩,⟨u9,trivial⟩⟩
  have h4:=tz1 (d5 r4);(iterate 3 refine k9 (gft r4) ?_);refine rq rfl rfl rfl rfl (gff r3) ?_ (hp:=r4);refine w_2 ?_;refine a8 _ rfl (fun e=>Bool.noConfusion ((zf r3 rfl).symm.trans e)) (fun _=>?_);refine w_6 ?_
  refine qcx wn (a3s (([d.ps 4,(j7 (d.num 4) (d.ps 4))]:List (List AS)).getD i default).length false (lf sC (([d.ps 4,(j7 (d.num 4) (d.ps 4))]:List (List AS)).getD i default)) bos) ?_;refine rc rfl rfl rfl rfl rfl rfl acp (a87 (d.num 4) (d.fs 4) [] (([d.ps 4,(j7 (d.num 4) (d.ps 4))]:List (List AS)).getD i default)) (⟨CoC.refl _,CoC.refl _,CoC.one coN,CoC.refl _,trivial⟩) rfl rfl ?_;refine cu ?_;refine am rfl rfl (fun r8=>?_) (fun r8=>?_)
  ·
   have h8:=tz1 r8;have h86:=h8;(iterate 7 refine qy ?_ (hg:=(gtt r8)));refine w_2 ?_;refine a8 _ rfl (fun r9=>?_) (fun r9=>?_)
   · have h9:=bp r8 r9;exfalso;rw [atd h86] at h9;simp at h9
   have h9:=bp r8 r9;refine w_5 ?_;exact lpx (i + 1) ⟨⟨zy,c9,c9,c9,c9,c9,trivial⟩,⟨u9,trivial⟩⟩
  have h8:=tz2 r8;(iterate 7 refine k9 (gft r8) ?_);refine rq rfl rfl rfl rfl rfl ?_ (hp:=r8);refine aq ?_;refine a8 _ rfl (fun e=>by cases e) (fun _=>?_);refine w_5 ?_
  exact lpx (i + 1) ⟨⟨zy,c9,c9,c9,c9,c9,trivial⟩,⟨u9,trivial⟩⟩
 refine w_5 ?_;exact hx8 rfl rfl rfl (CoL.refl _)
end
end Go.Hx

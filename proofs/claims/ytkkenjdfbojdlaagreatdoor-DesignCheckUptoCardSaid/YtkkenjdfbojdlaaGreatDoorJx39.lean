/- A part of the proof: Dw14 Rb29. -/
import Derived.Test.YtkkenjdfbojdlaaGreatDoorJx38
set_option linter.all false
set_option maxRecDepth 100000
set_option maxHeartbeats 1000000
namespace Go.Hx
section
open Go.Proofs
def b4i (n:Int) (ps:List AS) (l m:List Fd) (q:List SI):a6 bo6 66 [pI n,pP (asl ps),pP (fdl l),pP (fdl m),pP (sil q)] (a7 [pB (qg n ps l m q)]):=by
 refine hpx (nt:=57) Tryz.func66 ?_;refine w_6 ?_;refine c6 4 rfl fun hlen=>?_;refine w_3 ?_;refine qcx aax (a6p n ps) ?_;refine w_2 ?_;refine ah rfl rfl (fun r0=>?_) (fun r0=>?_)
 ·
  have h0:=tz2 (cj r0);have hk:=b15 (l:=l) (m:=m) (q:=q) h0;(iterate 5 refine k9 (gtf r0) ?_);refine rq rfl rfl rfl rfl rfl ?_ (hp:=r0);refine w_6 ?_
  exact hx8 rfl rfl rfl (⟨ccb hk.symm,trivial⟩)
 have h0:=tz1 (ck r0);have hv:lvE n ps = 0:=h0;(iterate 3 refine qy ?_ (hg:=(gff r0)));refine qcx wu (sv n l m) ?_ (hg:=(gff r0));refine qy ?_ (hg:=(gff r0));refine w_2 ?_;refine ak _ rfl (fun r1=>?_) (fun r1=>?_)
 · have h1:=tz2 (cj (am r0 r1));have hk:=b1r (ps:=ps) (q:=q) h1;refine v_4 ?_;exact ⟨ccb hk.symm,trivial⟩
 have h1:=tz1 (ck (am r0 r1));have hb:be n l m = 0:=h1;obtain ⟨hn0,hn8,_,_,_⟩:=n3 hv;have hn16:n <= 16:=by omega
 refine w_5 ?_;refine qcx (wgx Tryz.func128) (ap5 n ps hv) ?_;refine w_3 ?_;refine m9 0 ?_;refine ct ?_;refine bg (ka 0 (ka 2 (ka 3 (ka 11 (ka 32 (ka 33 kn)))))) km (fun i=>⟨[(12,some (vI (ruL n ps l m (q.take i)).2.2)),(34,some (vI i))],[(0,some (.box [.p (.raw (.int .i64 (ruL n ps l m (q.take i)).1)), .p (rl (ruL n ps l m (q.take i)).2.1)]))]⟩) q.length kk ?_;rintro i hi;refine w_5 ?_;refine hcd (fun h2=>?_) (fun h2=>?_)
 ·
  have hil:i < q.length:=by omega
  refine w_7 ?_;refine m9 1 ?_;refine w_8 ?_;refine hcn (fun h3=>?_) (fun h3=>?_)
  · have hk:=bfh hv hb h3;refine v_4 ?_;exact ⟨ccb hk.symm,trivial⟩
  have hx:=b29 hil h3;refine w_6 ?_;refine qcx (wgx Tryz.func129) (aor (ruL n ps l m (q.take i)).1 (ruL n ps l m (q.take i)).2.1 l m (q.getD i default).1 (q.getD i default).2.1 (q.getD i default).2.2.1 (q.getD i default).2.2.2) ?_;refine c7 ?_;exact lpx (i + 1) ⟨⟨⟨_,rfl,(by rw [hx];exact CoR.refl _)⟩,tt⟩,⟨⟨_,rfl,(by rw [hx];exact CoO.refl _)⟩,trivial⟩⟩
 have hiq:i = q.length:=by omega
 have hqe:ruL n ps l m (q.take i) = ruL n ps l m q:=by rw [hiq,bjk]
 refine w_6 ?_;refine ah rfl rfl (fun r4=>?_) (fun r4=>?_)
 ·
  have h4:=tz1 r4;have hk:=b17 hv hb hqe h4;(iterate 2 refine qy ?_ (hg:=(gtt r4)));refine qcx aef (aff n hn0 hn16) ?_ (hg:=(gtt r4));refine qcx a7g (ahf (ruL n ps l m (q.take i)).1 (ruL n ps l m (q.take i)).2.1 (d7 n)) ?_ (hg:=(gtt r4))
  refine v_4 ?_;exact ⟨ccb (by rw [hk];first | done | rfl | (unfold jt;simp_all) | simp_all),trivial⟩
 have h4:=tz2 r4;have hk:=aru hv hb hqe h4;(iterate 4 refine k9 (gft r4) ?_);refine rq rfl rfl rfl rfl rfl ?_ (hp:=r4);refine w_3 ?_
 exact hx8 rfl rfl rfl (⟨ccb (by rw [hk];first | done | rfl | (unfold jt;simp_all) | simp_all),trivial⟩)
def auu (n:Int) (ps:List AS) (l m:List Fd) (q:List SI):a6 bo6 67 [pI n,pP (asl ps),pP (fdl l),pP (fdl m),pP (sil q)] (a7 [pB (qg n ps l m q)]):=by
 refine hpx (nt:=60) Tryz.func67 ?_;refine w_6 ?_;refine c6 4 rfl fun hlen=>?_;refine w_3 ?_;refine qcx akc (a98 n ps) ?_;refine w_2 ?_;refine ah rfl rfl (fun r0=>?_) (fun r0=>?_)
 ·
  have h0:=tz2 (cj r0);have hk:=b15 (l:=l) (m:=m) (q:=q) h0;(iterate 5 refine k9 (gtf r0) ?_);refine rq rfl rfl rfl rfl rfl ?_ (hp:=r0);refine w_6 ?_
  exact hx8 rfl rfl rfl (⟨ccb hk.symm,trivial⟩)
 have h0:=tz1 (ck r0);have hv:lvE n ps = 0:=h0;(iterate 3 refine qy ?_ (hg:=(gff r0)));refine qcx a2m (vo n l m) ?_ (hg:=(gff r0));refine qy ?_ (hg:=(gff r0));refine w_2 ?_;refine ak _ rfl (fun r1=>?_) (fun r1=>?_)
 · have h1:=tz2 (cj (am r0 r1));have hk:=b1r (ps:=ps) (q:=q) h1;refine v_4 ?_;exact ⟨ccb hk.symm,trivial⟩
 have h1:=tz1 (ck (am r0 r1));have hb:be n l m = 0:=h1;obtain ⟨hn0,hn8,_,_,_⟩:=n3 hv;have hn16:n <= 16:=by omega
 refine w_5 ?_;refine qcx (wgx Tryz.func130) (aj7 n ps hv) ?_;refine w_3 ?_;refine m9 0 ?_;refine w_3 ?_;refine dq (ι:=Nat) (ka 0 (ka 11 kn)) km (fun i=>⟨[(12,some (vI (ruL n ps l m (q.take i)).2.2))],[(0,some (.box [.p (.raw (.int .i64 (ruL n ps l m (q.take i)).1)), .p (rl (ruL n ps l m (q.take i)).2.1)]))]⟩) (fun i=>ruL n ps l m (q.take i) = ruL n ps l m q) ?_ ?_
 ·
  refine w_5 ?_;refine bg (ka 0 (ka 2 (ka 3 (ka 4 (ka 11 kn))))) km (fun i=>⟨[(12,some (vI (ruL n ps l m (q.take i)).2.2)),(13,some (vI i))],[(0,some (.box [.p (.raw (.int .i64 (ruL n ps l m (q.take i)).1)), .p (rl (ruL n ps l m (q.take i)).2.1)]))]⟩) q.length kk ?_;rintro i hi;refine w_8 ?_;refine ah rfl rfl (fun r2=>?_) (fun r2=>?_)
  ·
   have h2:=tz1 r2;have hil:i < q.length:=by omega
   (iterate 2 refine qy ?_ (hg:=(gtt r2)));refine w_2 ?_;refine ak _ rfl (fun r3=>?_) (fun r3=>?_)
   · have h3:=tz1 (bn r2 r3);have hx:=b29 hil h3;refine ct ?_;refine qcx aex (azv (ruL n ps l m (q.take i)).1 (ruL n ps l m (q.take i)).2.1 l m (q.getD i default).1 (q.getD i default).2.1 (q.getD i default).2.2.1 (q.getD i default).2.2.2) ?_;refine fj ?_;exact lpx (i + 1) ⟨⟨⟨_,rfl,(by rw [hx];exact CoR.refl _)⟩,tt⟩,⟨⟨_,rfl,(by rw [hx];exact CoO.refl _)⟩,trivial⟩⟩
   have h3:=tz2 (bn r2 r3);have hqe:=bbm h3;refine dj ?_;refine ⟨i, ?_, ?_⟩
   · exact hqe
   exact kk
  have h2:=tz2 r2;have hiq:i = q.length:=by omega
  have hqe:ruL n ps l m (q.take i) = ruL n ps l m q:=by rw [hiq,bjk]
  (iterate 2 refine k9 (gft r2) ?_);refine rq rfl rfl rfl rfl rfl ?_ (hp:=r2);refine w_3 ?_;refine ⟨i, ?_, ?_⟩
  · exact hqe
  exact kk
 rintro i hqe;refine w_5 ?_;refine ah rfl rfl (fun r4=>?_) (fun r4=>?_)
 ·
  have h4:=tz1 r4;have hk:=b17 hv hb hqe h4;(iterate 2 refine qy ?_ (hg:=(gtt r4)));refine qcx (wgx Tryz.func70) (aw8 n hn16) ?_ (hg:=(gtt r4));refine qcx ab4 (ad4 (ruL n ps l m (q.take i)).1 (ruL n ps l m (q.take i)).2.1 (d7 n)) ?_ (hg:=(gtt r4));refine w_4 ?_
  exact hx8 rfl rfl rfl (⟨ccb (by rw [hk];first | done | rfl | (unfold jt;simp_all) | simp_all),trivial⟩)
 have h4:=tz2 r4;have hk:=aru hv hb hqe h4;(iterate 4 refine k9 (gft r4) ?_);refine rq rfl rfl rfl rfl rfl ?_ (hp:=r4);refine w_3 ?_
 exact hx8 rfl rfl rfl (⟨ccb (by rw [hk];first | done | rfl | (unfold jt;simp_all) | simp_all),trivial⟩)
def ao8 (n:Int) (l m:List Fd) (ps:List AS) (c:Int) (q:List SI):a6 bo6 26 [pI n,pP (fdl l),pP (fdl m),bcg ps c q] (a7 [pB (a2x n l m ps c q)]):=by
 refine hpx (nt:=57) Tryz.func26 ?_;refine sx7 ?_;refine m9 0 ?_;refine w_8 ?_;refine qcx aax (a6p n ps) ?_;refine w_2 ?_;refine ah rfl rfl (fun r0=>?_) (fun r0=>?_)
 ·
  have h0:=tz2 (cj r0);have hk:=a0g (n:=n) (l:=l) (m:=m) (ps:=ps) (c:=c) (q:=q) (fun e=>h0 e.1);(iterate 5 refine k9 (gtf r0) ?_);refine rq rfl rfl rfl rfl rfl ?_ (hp:=r0);refine qy ?_;(iterate 3 refine k9 rfl ?_);refine w_2 ?_;(iterate 3 refine k9 rfl ?_);refine w_7 ?_
  exact hx8 rfl rfl rfl (⟨ccb hk.symm,trivial⟩)
 have h0:=tz1 (ck r0);have hv:lvE n ps = 0:=h0;(iterate 3 refine qy ?_ (hg:=(gff r0)));refine qcx wu (sv n l m) ?_ (hg:=(gff r0));refine qy ?_ (hg:=(gff r0));refine w_2 ?_;refine ah rfl rfl (fun r1=>?_) (fun r1=>?_)
 ·
  have h1:=tz2 (cj (am r0 r1));have hk:=a0g (n:=n) (l:=l) (m:=m) (ps:=ps) (c:=c) (q:=q) (fun e=>h1 e.2.1);(iterate 3 refine k9 (gtf r1) ?_);refine rq rfl rfl rfl rfl rfl ?_ (hp:=r1);refine qy ?_;(iterate 3 refine k9 rfl ?_);refine w_7 ?_
  exact hx8 rfl rfl rfl (⟨ccb hk.symm,trivial⟩)
 have h1:=tz1 (ck (am r0 r1));have hb:be n l m = 0:=h1;(iterate 3 refine qy ?_ (hg:=(gff r1)));refine w_2 ?_;refine ah rfl rfl (fun r2=>?_) (fun r2=>?_)
 ·
  have h2:=tz1 (am r1 r2);have hk:=a0g (n:=n) (l:=l) (m:=m) (ps:=ps) (c:=c) (q:=q) (fun e=>by have:=e.2.2.1;omega);(iterate 3 refine k9 (gtf r2) ?_);refine rq rfl rfl rfl rfl rfl ?_ (hp:=r2);refine w_6 ?_
  exact hx8 rfl rfl rfl (⟨ccb hk.symm,trivial⟩)
 have h2:=tz2 (am r1 r2);have hc0:0 <= c:=by omega
 (iterate 3 refine qy ?_ (hg:=(gff r2)));refine w_2 ?_;refine ak _ rfl (fun r3=>?_) (fun r3=>?_)
 · have h3:=tz1 (am r2 r3);have hk:=a0g (n:=n) (l:=l) (m:=m) (ps:=ps) (c:=c) (q:=q) (fun e=>by have:=e.2.2.2;omega);refine v_4 ?_;exact ⟨ccb hk.symm,trivial⟩
 have h3:=tz2 (am r2 r3);have hc:c <= 31:=by omega
 have hl:l.length <= 16777216:=by have:=(ji hb).2.2.1;omega
 refine j9 ?_;refine qcx (wgx Tryz.func46) (b1g n l m ps hl) ?_;refine w_4 ?_;refine hcn (fun h4=>?_) (fun h4=>?_)
 · have hk:=beb (q:=q) ⟨hv,hb,hc0,hc⟩ h4;refine v_4 ?_;exact ⟨ccb hk.symm,trivial⟩
 have hk:=bdp (q:=q) ⟨hv,hb,hc0,hc⟩ h4;refine w_8 ?_;refine ah rfl rfl (fun r5=>?_) (fun r5=>?_)
 ·
  have h5:=tz1 r5;have hodd:=h5;(iterate 8 refine k9 (gtf r5) ?_);refine rq rfl rfl rfl rfl rfl ?_ (hp:=r5);refine w_2 ?_
  exact hx8 rfl rfl rfl (⟨ccb (by rw [hk];first | done | rfl | simp_all),trivial⟩)
 have h5:=tz2 r5;have hodd:=h5;(iterate 7 refine qy ?_ (hg:=(gff r5)));refine qcx (wgx Tryz.func66) (b4i n ps l m q) ?_ (hg:=(gff r5));refine w_3 ?_
 exact hx8 rfl rfl rfl (⟨ccb (by rw [hk];first | done | rfl | simp_all),trivial⟩)
def afr (n:Int) (l m:List Fd) (ps:List AS) (c:Int) (q:List SI):a6 bo6 27 [pI n,pP (fdl l),pP (fdl m),bcg ps c q] (a7 [pB (a2x n l m ps c q)]):=by
 refine hpx (nt:=67) Tryz.func27 ?_;refine sx7 ?_;refine m9 0 ?_;refine w_8 ?_;refine qcx akc (a98 n ps) ?_;refine w_2 ?_;refine ah rfl rfl (fun r0=>?_) (fun r0=>?_)
 ·
  have h0:=tz2 (cj r0);have hk:=a0g (n:=n) (l:=l) (m:=m) (ps:=ps) (c:=c) (q:=q) (fun e=>h0 e.1);(iterate 5 refine k9 (gtf r0) ?_);refine rq rfl rfl rfl rfl rfl ?_ (hp:=r0);refine qy ?_;(iterate 3 refine k9 rfl ?_);refine w_2 ?_;(iterate 3 refine k9 rfl ?_);refine w_7 ?_
  exact hx8 rfl rfl rfl (⟨ccb hk.symm,trivial⟩)
 have h0:=tz1 (ck r0);have hv:lvE n ps = 0:=h0;(iterate 3 refine qy ?_ (hg:=(gff r0)));refine qcx a2m (vo n l m) ?_ (hg:=(gff r0));refine qy ?_ (hg:=(gff r0));refine w_2 ?_;refine ah rfl rfl (fun r1=>?_) (fun r1=>?_)
 ·
  have h1:=tz2 (cj (am r0 r1));have hk:=a0g (n:=n) (l:=l) (m:=m) (ps:=ps) (c:=c) (q:=q) (fun e=>h1 e.2.1);(iterate 3 refine k9 (gtf r1) ?_);refine rq rfl rfl rfl rfl rfl ?_ (hp:=r1);refine qy ?_;(iterate 3 refine k9 rfl ?_);refine w_7 ?_
  exact hx8 rfl rfl rfl (⟨ccb hk.symm,trivial⟩)
 have h1:=tz1 (ck (am r0 r1));have hb:be n l m = 0:=h1;(iterate 3 refine qy ?_ (hg:=(gff r1)));refine w_2 ?_;refine ah rfl rfl (fun r2=>?_) (fun r2=>?_)
 ·
  have h2:=tz1 (am r1 r2);have hk:=a0g (n:=n) (l:=l) (m:=m) (ps:=ps) (c:=c) (q:=q) (fun e=>by have:=e.2.2.1;omega);(iterate 3 refine k9 (gtf r2) ?_);refine rq rfl rfl rfl rfl rfl ?_ (hp:=r2);refine w_6 ?_
  exact hx8 rfl rfl rfl (⟨ccb hk.symm,trivial⟩)
 have h2:=tz2 (am r1 r2);have hc0:0 <= c:=by omega
 (iterate 3 refine qy ?_ (hg:=(gff r2)));refine w_2 ?_;refine ak _ rfl (fun r3=>?_) (fun r3=>?_)
 · have h3:=tz1 (am r2 r3);have hk:=a0g (n:=n) (l:=l) (m:=m) (ps:=ps) (c:=c) (q:=q) (fun e=>by have:=e.2.2.2;omega);refine v_4 ?_;exact ⟨ccb hk.symm,trivial⟩
 have h3:=tz2 (am r2 r3);have hc:c <= 31:=by omega
 obtain ⟨hn0,hn8,_,_,_,hps⟩:=aar ⟨hv,hb⟩;have hl:l.length <= 16777216:=by have:=(ji hb).2.2.1;omega
 have hk:=b5p (q:=q) ⟨hv,hb,hc0,hc⟩;refine w_8 ?_;refine qcx (wgx Tryz.func48) (b9g n l m ps bnl (fun q hq=>(hps q hq).1)) ?_;refine w_2 ?_;refine kx (ka 0 (ka 1 (ka 2 (ka 7 kn)))) (kb 0 km) ⟨[(9,some (vI (a3d n l m ps)))],[]⟩ ?_ ?_
 ·
  refine w_5 ?_;refine qcx (wgx Tryz.func49) (axr l ps hl) ?_;refine w_3 ?_;refine hcd (fun h4=>?_) (fun h4=>?_)
  · have hx:=bc0 (n:=n) (l:=l) (m:=m) (ps:=ps) h4;refine w_5 ?_;exact ⟨⟨⟨_,rfl,(coi hx)⟩,tt⟩,uu⟩
  have hx:=bby (n:=n) (l:=l) (m:=m) (ps:=ps) h4;refine d6 ?_;exact ⟨⟨⟨_,rfl,(coi hx)⟩,tt⟩,uu⟩
 refine kx (ka 7 kn) (kb 0 km) ⟨[(9,some (vI (aeu n l m ps c q)))],[]⟩ ?_ ?_
 ·
  refine w_7 ?_;refine ah rfl rfl (fun r5=>?_) (fun r5=>?_)
  ·
   have h5:=tz2 (cj r5);have hodd:=h5;(iterate 7 refine qy ?_ (hg:=(gtt r5)));refine qcx (wgx Tryz.func67) (auu n ps l m q) ?_ (hg:=(gtt r5));refine w_2 ?_;refine ak _ rfl (fun r6=>?_) (fun r6=>?_)
   · have h6:=bn r5 r6;have hx:=ba0 (n:=n) (l:=l) (m:=m) (ps:=ps) hodd h6;refine w_5 ?_;exact ⟨⟨⟨_,rfl,(coi (by first | exact hx | exact hx.symm))⟩,tt⟩,uu⟩
   have h6:=bn r5 r6;have hx:=bda (n:=n) (l:=l) (m:=m) (ps:=ps) (c:=c) h6;refine d6 ?_;exact ⟨⟨⟨_,rfl,(coi (by first | exact hx | exact hx.symm))⟩,tt⟩,uu⟩
  have h5:=tz1 (ck r5);have hx:=bd0 (n:=n) (l:=l) (m:=m) (ps:=ps) (q:=q) (by simpa using h5);(iterate 8 refine k9 (gft r5) ?_);refine rq rfl rfl rfl rfl rfl ?_ (hp:=r5);refine w_3 ?_
  exact ⟨⟨⟨_,rfl,(coi (by first | exact hx | exact hx.symm))⟩,tt⟩,uu⟩
 refine v_9 ?_;exact ⟨ccb hk,trivial⟩
def b9m (d:Rcp) (hf:d.f.length <= 16777216) (hm:d.m.length <= 16777216) (hp:d.p.length <= 16777216) (c:Int) (q:List SI):a6 bo6 8 [d.pc,pI c,pP (sil q)] (a7 [pB true]):=by
 refine hpx (nt:=86) Tryz.func8 ?_;refine sx7 ?_;refine m9 0 ?_;refine w_5 ?_;refine qcx (wgx Tryz.func10) (bee d hf hm hp) ?_;refine lb ?_;refine qcx aiw (a9g) ?_;refine w_6 ?_;refine ah rfl rfl (fun r0=>?_) (fun r0=>?_)
 ·
  have h0:=cj r0;(iterate 3 refine k9 (gtf r0) ?_);refine rq rfl rfl rfl rfl rfl ?_ (hp:=r0);refine w_4 ?_;refine qcx aiw (a9g) ?_;refine w_2 ?_
  exact hx8 rfl rfl rfl (CoL.refl _)
 have h0:=ck r0;(iterate 3 refine qy ?_ (hg:=(gff r0)));refine w_2 ?_;refine ak _ rfl (fun r1=>?_) (fun r1=>?_)
 · have h1:=tz1 (am r0 r1);refine sx7 ?_;refine qcx aiw (a9g) ?_;refine v_2 ?_;exact CoL.refl _
 have h1:=tz2 (am r0 r1);have hok:okR d = true:=by simp_all
 obtain ⟨hf4,hm4,hp3⟩:=bf2 hok;have hn4:=bg2 d;have hpl:(d.ps 4).length = d.p.length:=by simp [Rcp.ps]
 refine w_7 ?_;refine qcx (wgx Tryz.func20) (baa (d.num 4) (d.ps 4) bnl) ?_;refine m9 1 ?_;refine w_4 ?_;refine bg (ka 1 (ka 2 (ka 7 (ka 8 (ka 9 (ka 41 (ka 42 kn))))))) km (fun i=>⟨[(43,some (vI i))],[(1,some (.arr true 1 28 2 (lf aC [d.ps 4,(ou (d.num 4) (d.ps 4))])))]⟩) 2 ⟨tt,⟨⟨_,rfl,(azl (CoP.refl _) (CoP.refl _))⟩,trivial⟩⟩ ?_;rintro i hi;refine w_5 ?_;refine hcd (fun h2=>?_) (fun h2=>?_)
 ·
  have hi2:i < 2:=by omega
  refine lb ?_;refine m9 2 ?_;refine w_9 ?_;refine qcx (wgx Tryz.func26) (ao8 (d.num 4) (d.fs 4) (d.ms 4) (([d.ps 4,(ou (d.num 4) (d.ps 4))]:List (List AS)).getD i default) c q) ?_;refine w_4 ?_;refine qcx (wgx Tryz.func27) (afr (d.num 4) (d.fs 4) (d.ms 4) (([d.ps 4,(ou (d.num 4) (d.ps 4))]:List (List AS)).getD i default) c q) ?_;refine w_3 ?_;refine hcb (fun h3=>?_) (fun h3=>?_)
  · exfalso;simp at h3
  refine w_7 ?_;refine qcx (wgx Tryz.func28) (b35 (d.num 4) (([d.ps 4,(ou (d.num 4) (d.ps 4))]:List (List AS)).getD i default) (d.fs 4) (d.ms 4)) ?_;refine ct ?_;refine hcd (fun h4=>?_) (fun h4=>?_)
  ·
   refine fj ?_;refine rc rfl rfl rfl rfl rfl rfl (wgx Tryz.func26) (ao8 (d.num 4) (d.fs 4) (d.ms 4) (([d.ps 4,(ou (d.num 4) (d.ps 4))]:List (List AS)).getD i default) c ((prS (d.num 4) (([d.ps 4,(ou (d.num 4) (d.ps 4))]:List (List AS)).getD i default) (d.fs 4) (d.ms 4)).map ay6)) (⟨CoC.refl _,CoC.refl _,CoC.refl _,CoC.agg ⟨CoP.refl _,CoP.refl _,b1a,trivial⟩,trivial⟩) rfl rfl ?_;refine w_4 ?_;refine rc rfl rfl rfl rfl rfl rfl (wgx Tryz.func27) (afr (d.num 4) (d.fs 4) (d.ms 4) (([d.ps 4,(ou (d.num 4) (d.ps 4))]:List (List AS)).getD i default) c ((prS (d.num 4) (([d.ps 4,(ou (d.num 4) (d.ps 4))]:List (List AS)).getD i default) (d.fs 4) (d.ms 4)).map ay6)) (⟨CoC.refl _,CoC.refl _,CoC.refl _,CoC.agg ⟨CoP.refl _,CoP.refl _,b1a,trivial⟩,trivial⟩) rfl rfl ?_;refine w_3 ?_;refine hcb (fun h5=>?_) (fun h5=>?_)
   · exfalso;simp at h5
   refine w_5 ?_;exact lpx (i + 1) kk
  refine w_5 ?_;exact lpx (i + 1) kk
 refine v_5 ?_;exact CoL.refl _
end
section
open Go.Proofs Go.Proofs.YtkkenjdfbojdlaaGreatDoor
open Go.RowKit Go.ChangeShapes Go.WideShapes Go.ChangeAt
def bi0:Rd bo6 4 1 b1n:=b72 Tryz.underlying4
def bds:RdB bo6 129 4 SI.c fun _ _=>True:=by
 intro H enc w sp held fuel cs x h;obtain ⟨hl,n,hf⟩:=ace Tryz.underlying129 h;obtain ⟨y0,e0⟩:=hf 0 _ rfl;obtain ⟨y1,e1⟩:=hf 1 _ rfl;obtain ⟨y2,e2⟩:=hf 2 _ rfl;obtain ⟨y3,e3⟩:=hf 3 _ rfl;obtain ⟨a0,_,h0⟩:=jz (fun _ _ _ _ _=>trivial) bi0.toB e0;obtain ⟨a1,_,h1⟩:=jz (fun _ _ _ _ _=>trivial) rd3.toB e1;obtain ⟨a2,_,h2⟩:=jz (fun _ _ _ _ _=>trivial) rd3.toB e2;obtain ⟨a3,_,h3⟩:=jz (fun _ _ _ _ _=>trivial) rd3.toB e3;refine ⟨hl.trans bnz,((a0,a1,a2,a3):SI),trivial,fun j hj=>?_⟩
 match j,hj with
 | 0,_=>exact h0 0 bnl
 | 1,_=>exact h1 0 bnl
 | 2,_=>exact h2 0 bnl
 | 3,_=>exact h3 0 bnl
def bhh:RdB bo6 32 1 (arx 4 SI.c) fun b l=>l.length <= b :=
 (a65 (B:=fun _ _=>True) (fun _ _ _ _ _=>trivial) Tryz.underlying32 bnz bnl bds).co id (fun b a h=>h.1) fun a j hj=>CoP.refl _
def bf0:bo6.readableRec 32 = true /\ 32 < bo6.types.size:=⟨by kernel_rfl,of_decide_eq_true bnz⟩
end
end Go.Hx

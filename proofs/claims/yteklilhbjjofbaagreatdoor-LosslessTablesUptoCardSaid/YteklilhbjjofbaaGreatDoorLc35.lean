/- A part of the proof: Jrw5. -/
import Derived.Test.YteklilhbjjofbaaGreatDoorLc34
set_option linter.all false
set_option maxRecDepth 100000
set_option maxHeartbeats 1000000
namespace Go.Hx
section
open Go.Proofs
def afh {a:Int} (h:a = 0 \/ a = 3):(bif decide (a = 0) then true else decide (a = 3)) = true:=by
 rcases h with h | h <;> rw [h] <;> rfl
def amg {n:Int} {d:Fd}:∀ j,j < [iw n d].length -> sub (([iw n d].getD j default).lhs ||| ([iw n d].getD j default).rhs) (ai n):=fun j hj=>by
 have hj:j < 1:=hj;obtain rfl:j = 0:=by omega
 exact abs
def avq {s:AS} {l:List AS} {i k:Nat} (hi:i < l.length) (hk:k = i):PV.raw (.int .u32 (gt .and .u32 (asI ((k7 s l i).getD k default)) (asI s))) = PV.raw (.int .u32 (asI (l.getD i default &&& s))):=by
 subst hk;rw [l8,an4 hi]
def ay4 {x:fq} (hx:x.rows.length <= 6):a9d x 6 = (aq x (x.attrs.toNat % 6)):=if_neg b5s
def av1 (x:fq) (hx:x.rows.length <= 6):a8 b6g 35 [x.pc,pI (6:Nat)] (ab [(aq x (x.attrs.toNat % 6)).pc,pB true]):=by
 have h:=ao6 x 6 b5s;rw [ay4 hx,show a2z x ((6:Nat):Int) = true by unfold a2z;simp;omega] at h;exact h
def avl (x:fq) (hx:¬ x.rows.length <= 6) (hx2:x.rows.length <= 16777216):a8 b6g 35 [x.pc,pI (6:Nat)] (ab [T0.pc,pB false]):=by
 have h:=ao6 x 6 b5s;rw [show a9d x 6 = T0 from if_pos b5s,show a2z x ((6:Nat):Int) = false by unfold a2z;simp;omega] at h;exact h
def arh (x:fq) (d:Rcp) (hx:x.rows.length <= 6) (hf:d.f.length <= 16777216) (hm:d.m.length <= 16777216) (hp:d.p.length <= 16777216):a8 b6g 8 [x.pc,d.pc] (ab [pB true]):=by
 refine hpx (nt:=154) Tryz.func8 ?_;have hna:(x.attrs.toNat % 6) <= 5:=by omega
 have hT:TOk (aq x (x.attrs.toNat % 6)):=arx b5s b5s;have hnl:(aq x (x.attrs.toNat % 6)).attrs.length = (x.attrs.toNat % 6):=a2i b5s;refine sx7 ?_;refine m9 0 ?_;refine m9 1 ?_;refine w_5 ?_;refine qcx (wgx Tryz.func35) (av1 x hx) ?_;refine w_3 ?_;refine m9 2 ?_;refine ke ?_;refine fc9 (wgx Tryz.func15) (ao7 d hf hm hp) trivial ?_;refine qk ?_;refine qcx yg (tj) ?_;refine w_6 ?_;(iterate 2 refine rq rfl rfl rfl rfl (gff (o8 rfl rfl)) ?_);refine w_2 ?_;refine ae rfl rfl (fun r0=>?_) (fun r0=>?_)
 ·
  have h0:=ez (ar (o8 rfl rfl) r0);(iterate 2 refine k9 (gtf r0) ?_);refine w_5 ?_;refine qcx yg (tj) ?_;refine w_2 ?_
  exact hx8 rfl rfl rfl (CoL.refl _)
 have h0:=f0 (ar (o8 rfl rfl) r0);(iterate 2 refine qy ?_ (hg:=(gff r0)));refine w_2 ?_;refine am _ rfl (fun r1=>?_) (fun r1=>?_)
 · have h1:=tz1 (ar r0 r1);refine sx7 ?_;refine qcx yg (tj) ?_;refine v_2 ?_;exact CoL.refl _
 have h1:=tz2 (ar r0 r1);have hok:d.f.length <= 4 /\ d.m.length <= 4 /\ d.p.length <= 3:=by simp_all
 have hfl:(d.fs 4).length <= 4:=by unfold Rcp.fs;rw [b3g];exact hok.1
 have hml:(d.ms 4).length <= 4:=by unfold Rcp.ms;rw [b3g];exact hok.2.1
 have hpl:(d.ps 4).length <= 3:=by unfold Rcp.ps;rw [b3g];exact hok.2.2
 refine w_4 ?_;refine qcx w5 (w4 (((aq x (x.attrs.toNat % 6)).attrs.length:Nat):Int)) ?_;refine up ?_;refine gm 14 900 true 2 43 (lf Fd.c []) b5x rfl (CoP.sl rfl (.inr rfl) (fun h=>h) (fun i j hi _=>absurd hi (b2y i))) (.inr rfl) rfl ?_;refine cj (ka 5 (ka 7 (ka 10 (ka 11 (ka 13 (ka 58 (ka 59 kn))))))) (kb 902 (kb 2 km)) (fun i=>⟨[(14,some (.v (.one (.ref 900 (ek (fdB (aq x (x.attrs.toNat % 6))) (((aq x (x.attrs.toNat % 6)).attrs.length:Nat):Int) (d.fs 4) i).length)))),(60,some (vI i))],[(900,some (.arr true 2 43 (ek (fdB (aq x (x.attrs.toNat % 6))) (((aq x (x.attrs.toNat % 6)).attrs.length:Nat):Int) (d.fs 4) i).length (lf Fd.c (ek (fdB (aq x (x.attrs.toNat % 6))) (((aq x (x.attrs.toNat % 6)).attrs.length:Nat):Int) (d.fs 4) i))))]⟩) ((d.fs 4).length) kk ?_;rintro i hi;have hlen:(ek (fdB (aq x (x.attrs.toNat % 6))) (((aq x (x.attrs.toNat % 6)).attrs.length:Nat):Int) (d.fs 4) i).length <= i:=wq;refine w_5 ?_;refine hcd (fun h2=>?_) (fun h2=>?_)
 ·
  refine w_7 ?_;refine m9 3 ?_;refine yp ?_;refine rc rfl rfl rfl rfl rfl rfl (wgx Tryz.func37) (auz (aq x (x.attrs.toNat % 6)) (iw (((aq x (x.attrs.toNat % 6)).attrs.length:Nat):Int) ((d.fs 4).getD i default)) hT.ok) (⟨CoC.refl _,CoC.agg ⟨(CoP.of_eq (congrArg (fun z=>PV.raw (.int .u32 z)) (l8 _ _))),(CoP.of_eq (congrArg (fun z=>PV.raw (.int .u32 z)) (l8 _ _))),trivial⟩,trivial⟩) rfl rfl ?_;refine da ?_;refine am _ rfl (fun r3=>?_) (fun r3=>?_)
  ·
   have h3:=r3;have hq:fdB (aq x (x.attrs.toNat % 6)) (iw (((aq x (x.attrs.toNat % 6)).attrs.length:Nat):Int) ((d.fs 4).getD i default)) = true:=r3;refine w_3 ?_;refine m9 4 ?_;refine r9 5 true ?_;refine w_6 ?_
   first | (refine lpz (i + 1) ⟨⟨⟨_, rfl, (fk (qi b5s hq))⟩, tt⟩, ⟨⟨_, rfl, (oo (qi b5s hq) (CoP.of_eq (congrArg (fun z => PV.raw (.int .u32 z)) (l8 _ _))) (CoP.of_eq (congrArg (fun z => PV.raw (.int .u32 z)) (l8 _ _))))⟩, uu⟩⟩ ?_; show i + 1 <= _; omega)
         | (refine lpz (i + 1) ⟨⟨⟨_,rfl,(n4 (qd b5s hq))⟩,tt⟩,⟨⟨_,rfl,(fw (qd b5s hq))⟩,uu⟩⟩ ?_;show i + 1 <= _;omega)
  have h3:=r3;have hq:fdB (aq x (x.attrs.toNat % 6)) (iw (((aq x (x.attrs.toNat % 6)).attrs.length:Nat):Int) ((d.fs 4).getD i default)) = false:=r3;refine w_5 ?_
  first | (refine lpz (i + 1) ⟨⟨⟨_, rfl, (fk (qi b5s hq))⟩, tt⟩, ⟨⟨_, rfl, (oo (qi b5s hq) (CoP.of_eq (congrArg (fun z => PV.raw (.int .u32 z)) (l8 _ _))) (CoP.of_eq (congrArg (fun z => PV.raw (.int .u32 z)) (l8 _ _))))⟩, uu⟩⟩ ?_; show i + 1 <= _; omega)
        | (refine lpz (i + 1) ⟨⟨⟨_,rfl,(n4 (qd b5s hq))⟩,tt⟩,⟨⟨_,rfl,(fw (qd b5s hq))⟩,uu⟩⟩ ?_;show i + 1 <= _;omega)
 obtain rfl:i = (d.fs 4).length:=by omega
 refine w_2 ?_;refine c3 14 rfl rfl rfl ?_;refine fl ?_;refine gm 17 901 true 2 45 (lf Fd.c []) b5x rfl (CoP.sl rfl (.inr rfl) (fun h=>h) (fun i j hi _=>absurd hi (b2y i))) (.inr rfl) rfl ?_;refine cj (ka 5 (ka 7 (ka 11 (ka 13 (ka 14 (ka 81 (ka 82 kn))))))) (kb 902 (kb 2 km)) (fun i=>⟨[(17,some (.v (.one (.ref 901 (ek (mvB (aq x (x.attrs.toNat % 6))) (((aq x (x.attrs.toNat % 6)).attrs.length:Nat):Int) (d.ms 4) i).length)))),(83,some (vI i))],[(901,some (.arr true 2 45 (ek (mvB (aq x (x.attrs.toNat % 6))) (((aq x (x.attrs.toNat % 6)).attrs.length:Nat):Int) (d.ms 4) i).length (lf Fd.c (ek (mvB (aq x (x.attrs.toNat % 6))) (((aq x (x.attrs.toNat % 6)).attrs.length:Nat):Int) (d.ms 4) i))))]⟩) ((d.ms 4).length) kk ?_;rintro i hi;have hlen:(ek (mvB (aq x (x.attrs.toNat % 6))) (((aq x (x.attrs.toNat % 6)).attrs.length:Nat):Int) (d.ms 4) i).length <= i:=wq;refine w_5 ?_;refine hcd (fun h4=>?_) (fun h4=>?_)
 ·
  refine w_7 ?_;refine m9 6 ?_;refine yp ?_;refine m9 7 ?_;refine rc rfl rfl rfl rfl rfl rfl (wgx Tryz.func31) (anq (aq x (x.attrs.toNat % 6)) [] [(iw (((aq x (x.attrs.toNat % 6)).attrs.length:Nat):Int) ((d.ms 4).getD i default))] hT amg) (⟨CoC.refl _,a0g,CoC.one (avc (CoP.of_eq (congrArg (fun z=>PV.raw (.int .u32 z)) (l8 _ _))) (CoP.of_eq (congrArg (fun z=>PV.raw (.int .u32 z)) (l8 _ _)))),trivial⟩) rfl rfl ?_;refine da ?_;refine am _ rfl (fun r5=>?_) (fun r5=>?_)
  ·
   have h5:=r5;have hq:mvB (aq x (x.attrs.toNat % 6)) (iw (((aq x (x.attrs.toNat % 6)).attrs.length:Nat):Int) ((d.ms 4).getD i default)) = true:=by simpa using r5
   refine w_3 ?_;refine m9 8 ?_;refine r9 9 true ?_;refine w_6 ?_
   first | (refine lpz (i + 1) ⟨⟨⟨_, rfl, (fk (qi b5s hq))⟩, tt⟩, ⟨⟨_, rfl, (oo (qi b5s hq) (CoP.of_eq (congrArg (fun z => PV.raw (.int .u32 z)) (l8 _ _))) (CoP.of_eq (congrArg (fun z => PV.raw (.int .u32 z)) (l8 _ _))))⟩, uu⟩⟩ ?_; show i + 1 <= _; omega)
         | (refine lpz (i + 1) ⟨⟨⟨_,rfl,(n4 (qd b5s hq))⟩,tt⟩,⟨⟨_,rfl,(fw (qd b5s hq))⟩,uu⟩⟩ ?_;show i + 1 <= _;omega)
  have h5:=r5;have hq:mvB (aq x (x.attrs.toNat % 6)) (iw (((aq x (x.attrs.toNat % 6)).attrs.length:Nat):Int) ((d.ms 4).getD i default)) = false:=by simpa using r5
  refine w_5 ?_
  first | (refine lpz (i + 1) ⟨⟨⟨_, rfl, (fk (qi b5s hq))⟩, tt⟩, ⟨⟨_, rfl, (oo (qi b5s hq) (CoP.of_eq (congrArg (fun z => PV.raw (.int .u32 z)) (l8 _ _))) (CoP.of_eq (congrArg (fun z => PV.raw (.int .u32 z)) (l8 _ _))))⟩, uu⟩⟩ ?_; show i + 1 <= _; omega)
        | (refine lpz (i + 1) ⟨⟨⟨_,rfl,(n4 (qd b5s hq))⟩,tt⟩,⟨⟨_,rfl,(fw (qd b5s hq))⟩,uu⟩⟩ ?_;show i + 1 <= _;omega)
 obtain rfl:i = (d.ms 4).length:=by omega
 refine w_3 ?_;refine c3 17 rfl rfl rfl ?_;refine w_6 ?_;refine cj (ka 5 (ka 7 (ka 11 (ka 13 (ka 14 (ka 17 (ka 106 kn))))))) (kb 2 km) (fun i=>⟨[(107,some (vI i))],[(902,some (.arr true 1 28 (d.ps 4).length (lf sC (k7 (ai (((aq x (x.attrs.toNat % 6)).attrs.length:Nat):Int)) (d.ps 4) i))))]⟩) ((d.ps 4).length) ⟨tt,⟨⟨_,rfl,(by rw [ajk];exact CoO.refl _)⟩,trivial⟩⟩ ?_;rintro i hi;refine w_5 ?_;refine hcd (fun h6=>?_) (fun h6=>?_)
 · refine afv ?_;exact lpx (i + 1) ⟨tt,⟨⟨_,rfl,(ash b5s rfl rfl (avq b5s rfl))⟩,uu⟩⟩
 obtain rfl:i = (d.ps 4).length:=by omega
 refine w_2 ?_;refine c3 11 rfl rfl rfl ?_;refine w_3 ?_;refine rc rfl rfl rfl rfl rfl rfl (wgx Tryz.func16) (awg (((aq x (x.attrs.toNat % 6)).attrs.length:Nat):Int) ((d.ps 4).map (· &&& (ai (((aq x (x.attrs.toNat % 6)).attrs.length:Nat):Int)))) (by rw [b3g];omega)) (⟨CoC.refl _,CoC.one (asr rfl),trivial⟩) rfl rfl ?_;refine w_8 ?_;refine qcx (wgx Tryz.func17) (ate (((aq x (x.attrs.toNat % 6)).attrs.length:Nat):Int) (j5 (((aq x (x.attrs.toNat % 6)).attrs.length:Nat):Int) ((d.ps 4).map (· &&& (ai (((aq x (x.attrs.toNat % 6)).attrs.length:Nat):Int))))) (ek (fdB (aq x (x.attrs.toNat % 6))) (((aq x (x.attrs.toNat % 6)).attrs.length:Nat):Int) (d.fs 4) (d.fs 4).length) (ek (mvB (aq x (x.attrs.toNat % 6))) (((aq x (x.attrs.toNat % 6)).attrs.length:Nat):Int) (d.ms 4) (d.ms 4).length)) ?_;refine w_8 ?_;have hwl:=aml (n:=(((aq x (x.attrs.toNat % 6)).attrs.length:Nat):Int)) (ps:=(d.ps 4).map (· &&& (ai (((aq x (x.attrs.toNat % 6)).attrs.length:Nat):Int)))) (k:=3) (by rw [b3g];exact hpl) b5s;have hfl2:(ek (fdB (aq x (x.attrs.toNat % 6))) (((aq x (x.attrs.toNat % 6)).attrs.length:Nat):Int) (d.fs 4) (d.fs 4).length).length <= (d.fs 4).length:=wq;have hml2:(ek (mvB (aq x (x.attrs.toNat % 6))) (((aq x (x.attrs.toNat % 6)).attrs.length:Nat):Int) (d.ms 4) (d.ms 4).length).length <= (d.ms 4).length:=wq
 have h03:lsC (((aq x (x.attrs.toNat % 6)).attrs.length:Nat):Int) (j5 (((aq x (x.attrs.toNat % 6)).attrs.length:Nat):Int) ((d.ps 4).map (· &&& (ai (((aq x (x.attrs.toNat % 6)).attrs.length:Nat):Int))))) (ek (fdB (aq x (x.attrs.toNat % 6))) (((aq x (x.attrs.toNat % 6)).attrs.length:Nat):Int) (d.fs 4) (d.fs 4).length) (ek (mvB (aq x (x.attrs.toNat % 6))) (((aq x (x.attrs.toNat % 6)).attrs.length:Nat):Int) (d.ms 4) (d.ms 4).length) = 0 \/ lsC (((aq x (x.attrs.toNat % 6)).attrs.length:Nat):Int) (j5 (((aq x (x.attrs.toNat % 6)).attrs.length:Nat):Int) ((d.ps 4).map (· &&& (ai (((aq x (x.attrs.toNat % 6)).attrs.length:Nat):Int))))) (ek (fdB (aq x (x.attrs.toNat % 6))) (((aq x (x.attrs.toNat % 6)).attrs.length:Nat):Int) (d.fs 4) (d.fs 4).length) (ek (mvB (aq x (x.attrs.toNat % 6))) (((aq x (x.attrs.toNat % 6)).attrs.length:Nat):Int) (d.ms 4) (d.ms 4).length) = 3:=awy b5s b5s hwl.2 (ag0 ar2) b5s b5s (fun e he=>(xr he).2) (fun e he=>(xr he).2);refine w_4 ?_;refine ae rfl rfl (fun r7=>?_) (fun r7=>?_)
 ·
  have h7:=tz2 (ez r7);(iterate 2 refine k9 (gtf r7) ?_);refine w_8 ?_;refine ae rfl rfl (fun r8=>?_) (fun r8=>?_)
  ·
   have h8:=tz1 r8;(iterate 2 refine k9 (gtf r8) ?_);refine w_3 ?_
   exact hx8 rfl rfl rfl (⟨ccb (by first | rfl | exact afh h03 | exact decide_eq_true (h03.resolve_left b5t)),trivial⟩)
  have h8:=tz2 r8;(iterate 2 refine qy ?_ (hg:=(gff r8)));refine w_3 ?_
  exact hx8 rfl rfl rfl (⟨ccb (by first | rfl | exact afh h03 | exact decide_eq_true (h03.resolve_left b5t)),trivial⟩)
 have h7:=tz1 (f0 r7);(iterate 2 refine qy ?_ (hg:=(gff r7)));refine w_2 ?_;refine am _ rfl (fun r9=>?_) (fun r9=>?_)
 ·
  have h9:=ez (ar r7 r9);refine w_5 ?_;refine ae rfl rfl (fun r10=>?_) (fun r10=>?_)
  ·
   have h10:=tz1 r10;(iterate 2 refine k9 (gtf r10) ?_);refine w_3 ?_
   exact hx8 rfl rfl rfl (⟨ccb (by first | rfl | exact afh h03 | exact decide_eq_true (h03.resolve_left b5t)),trivial⟩)
  have h10:=tz2 r10;(iterate 2 refine qy ?_ (hg:=(gff r10)));refine w_3 ?_
  exact hx8 rfl rfl rfl (⟨ccb (by first | rfl | exact afh h03 | exact decide_eq_true (h03.resolve_left b5t)),trivial⟩)
 have h9:=f0 (ar r7 r9);have hc:lsC (((aq x (x.attrs.toNat % 6)).attrs.length:Nat):Int) (j5 (((aq x (x.attrs.toNat % 6)).attrs.length:Nat):Int) ((d.ps 4).map (· &&& (ai (((aq x (x.attrs.toNat % 6)).attrs.length:Nat):Int))))) (ek (fdB (aq x (x.attrs.toNat % 6))) (((aq x (x.attrs.toNat % 6)).attrs.length:Nat):Int) (d.fs 4) (d.fs 4).length) (ek (mvB (aq x (x.attrs.toNat % 6))) (((aq x (x.attrs.toNat % 6)).attrs.length:Nat):Int) (d.ms 4) (d.ms 4).length) = 0:=by simp_all
 have hl:lsB (((aq x (x.attrs.toNat % 6)).attrs.length:Nat):Int) (j5 (((aq x (x.attrs.toNat % 6)).attrs.length:Nat):Int) ((d.ps 4).map (· &&& (ai (((aq x (x.attrs.toNat % 6)).attrs.length:Nat):Int))))) (ek (fdB (aq x (x.attrs.toNat % 6))) (((aq x (x.attrs.toNat % 6)).attrs.length:Nat):Int) (d.fs 4) (d.fs 4).length) (ek (mvB (aq x (x.attrs.toNat % 6))) (((aq x (x.attrs.toNat % 6)).attrs.length:Nat):Int) (d.ms 4) (d.ms 4).length) = true:=by simp_all
 obtain ⟨hj0,hjs,hjok⟩:=aiw hT amm hc hl (fun e he=>(xr he).1) (fun e he=>(xr he).1);refine w_5 ?_;refine qcx (wgx Tryz.func30) (af2 (aq x (x.attrs.toNat % 6)) (j5 (((aq x (x.attrs.toNat % 6)).attrs.length:Nat):Int) ((d.ps 4).map (· &&& (ai (((aq x (x.attrs.toNat % 6)).attrs.length:Nat):Int)))))) ?_;refine w_3 ?_;refine m9 10 ?_;refine w_8 ?_;refine ae rfl rfl (fun r11=>?_) (fun r11=>?_)
 · have h11:=tz1 r11;(iterate 2 refine qy ?_ (hg:=(gtt r11)));refine qcx (wgx Tryz.func32) (au0 (qs (aq x (x.attrs.toNat % 6)) (j5 (((aq x (x.attrs.toNat % 6)).attrs.length:Nat):Int) ((d.ps 4).map (· &&& (ai (((aq x (x.attrs.toNat % 6)).attrs.length:Nat):Int)))))) (aq x (x.attrs.toNat % 6)) hjok hT.ok) ?_ (hg:=(gtt r11));refine v_3 ?_;exact ⟨ccb (by first | rfl | exact hjs | exact hjs.symm | (rw [hjs];done) | simp_all),trivial⟩
 have h11:=tz2 r11;(iterate 3 refine k9 (gft r11) ?_);refine w_3 ?_
 exact hx8 rfl rfl rfl (⟨ccb (by first | rfl | exact hjs | exact hjs.symm | (rw [hjs];done) | simp_all),trivial⟩)
def aqa (x:fq) (d:Rcp) (hx:¬ x.rows.length <= 6) (hx2:x.rows.length <= 16777216) (hf:d.f.length <= 16777216) (hm:d.m.length <= 16777216) (hp:d.p.length <= 16777216):a8 b6g 8 [x.pc,d.pc] (ab [pB true]):=by
 refine hpx (nt:=154) Tryz.func8 ?_;refine sx7 ?_;refine m9 0 ?_;refine m9 1 ?_;refine w_5 ?_;refine qcx (wgx Tryz.func35) (avl x hx hx2) ?_;refine w_3 ?_;refine m9 2 ?_;refine ke ?_;refine fc9 (wgx Tryz.func15) (ao7 d hf hm hp) trivial ?_;refine qk ?_;refine qcx yg (tj) ?_;refine w_6 ?_;(iterate 2 refine rk rfl rfl rfl (gtf (o8 rfl rfl)) ?_);refine rq rfl rfl rfl rfl rfl ?_ (hp:=(o8 rfl rfl));refine qy ?_;(iterate 2 refine k9 rfl ?_);refine w_5 ?_;refine qcx yg (tj) ?_;refine v_2 ?_;exact CoL.refl _
def auo (x:fq) (d:Rcp) (hx2:x.rows.length <= 16777216) (hf:d.f.length <= 16777216) (hm:d.m.length <= 16777216) (hp:d.p.length <= 16777216):a8 b6g 8 [x.pc,d.pc] (ab [pB true]):=by
 by_cases hx:x.rows.length <= 6
 · exact arh x d hx hf hm hp
 exact aqa x d hx hx2 hf hm hp
end
end Go.Hx

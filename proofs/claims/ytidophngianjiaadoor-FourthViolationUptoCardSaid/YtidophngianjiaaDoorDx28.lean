/- A part of the proof: Y11 Bz12 Y15. -/
import Derived.Test.YtidophngianjiaaDoorDx16
import Derived.Test.YtidophngianjiaaDoorDx18
import Derived.Test.YtidophngianjiaaDoorDx22
import Derived.Test.YtidophngianjiaaDoorDx24
import Derived.Test.YtidophngianjiaaDoorDx26
import Derived.Test.YtidophngianjiaaDoorDx27
set_option linter.all false
section
namespace Go.Hx
open Go.Proofs
set_option maxRecDepth 100000
theorem aap {n:Int} {l m:List Fd} {x:AS} (hx:sub x (ah n)):ao Tryd.prog 29 [pI n,pP (fdl l),pP (fdl m),pA x] (ay [pA (je n l m x)]):=by
 have h:=af6 n l m x
 rw [aix hx] at h
 exact h
theorem aee:al Tryd.prog 12:=⟨Tryd.f12,Tryd.func12,by kernel_rfl,by kernel_rfl⟩
theorem a9z (n:Int) (l m:List Fd) (x p:AS) (hn:n ≤ 16):ao Tryd.prog 12 [pI n,pP (fdl l),pP (fdl m),pA x,pA p] (ay [pP (asl (dx n l m x p))]):=by
 refine am (nt:=43) ai Tryd.func12 rfl rfl l9 ?_;refine sx7 ?_;refine qy ?_;refine a6 ?_;refine sx7 ?_;(iterate 4 refine qy ?_)
 refine rc rfl rfl rfl rfl rfl rfl apy (af8 n l m x hn) (CoL.refl _) rfl rfl ?_;refine qy ?_;refine a6 ?_;refine sx7 ?_;refine qy ?_;refine a6 ?_;refine a7 ?_;refine sx7 ?_;refine qy ?_
 refine a6 ?_;refine af ?_;refine dm 12 900 true 1 34 (lf sC []) (by decide) rfl (CoP.sl rfl (.inr rfl) (fun h=>h) (fun i j hi _=>absurd hi (Nat.not_lt_zero i))) (.inr rfl) rfl ?_
 have hbl:=uj n l m x
 refine av (ι:=Nat) ⟨[(4,some _),(11,some _)],[]⟩ ⟨⟨c9,c9,trivial⟩,trivial⟩ (fun i=>⟨[(12,some (.v (.one (.ref 900 (gd p ((bp n l m x).take i)).length)))),(13,some (vI i))],[(900,some (.arr true 1 34 (gd p ((bp n l m x).take i)).length (lf sC (gd p ((bp n l m x).take i)))))]⟩) (fun i=>i ≤ (bp n l m x).length) (fun i=>(bp n l m x).length - i) (0) (Nat.zero_le _) ⟨⟨⟨_,rfl,(CoR.refl _)⟩,⟨_,rfl,(CoR.refl _)⟩,trivial⟩,⟨u9,trivial⟩⟩ ?_
 rintro i hi
 have hcl:(gd p ((bp n l m x).take i)).length ≤ i:=Nat.le_trans (a0w _ _) (by rw [List.length_take];omega)
 refine a7 ?_;refine sx7 ?_;(iterate 4 refine qy ?_);refine a6 ?_;refine a8 _ rfl (fun r0=>?_) (fun r0=>?_)
 ·
  have h0:=of_decide_eq_true r0
  try simp only [ty] at h0
  refine aa ?_;refine a7 ?_;refine af ?_;refine sx7 ?_;(iterate 7 refine qy ?_);refine a6 ?_;refine a8 _ rfl (fun r1=>?_) (fun r1=>?_)
  ·
   have h1:=r1
   have h1:=of_decide_eq_false (cb h1)
   try simp only [ty] at h1
   have hq:¬ (bp n l m x).getD i default &&& p = 0:=jd h1
   refine gy ?_;(iterate 7 refine qy ?_);refine m9 0 ?_;refine ra 1 true rfl rfl rfl rfl rfl rfl ?_;refine qy ?_;refine a6 ?_;refine gy ?_;(iterate 3 refine qy ?_);refine a6 ?_
   first | (refine ⟨i + 1, ?_, ?_, ?_⟩
            · show i + 1 ≤ _;omega
            · first | omega | (dsimp only;omega)
            · exact ⟨⟨⟨_,rfl,(ck (nj (by omega) hq))⟩,⟨_,rfl,(CoR.refl _)⟩,c9,c9,trivial⟩,⟨⟨_,rfl,(ca (nj (by omega) hq) (CoP.of_eq (congrArg (fun z=>PV.raw (.int .u32 z)) (fc _ _))))⟩,trivial⟩⟩)
         | (refine ⟨i + 1, ?_, ?_, ?_⟩
            · show i + 1 ≤ _;omega
            · first | omega | (dsimp only;omega)
            · exact ⟨⟨⟨_,rfl,(bn (nn (by omega) hq))⟩,⟨_,rfl,(CoR.refl _)⟩,c9,c9,trivial⟩,⟨⟨_,rfl,(bo (nn (by omega) hq))⟩,trivial⟩⟩)
  ·
   have h1:=r1
   have h1:=of_decide_eq_true (ce h1)
   try simp only [ty] at h1
   have hq:(bp n l m x).getD i default &&& p = 0:=lr h1
   refine aa ?_;refine gy ?_;(iterate 3 refine qy ?_);refine a6 ?_
   first | (refine ⟨i + 1, ?_, ?_, ?_⟩
            · show i + 1 ≤ _;omega
            · first | omega | (dsimp only;omega)
            · exact ⟨⟨⟨_,rfl,(ck (nj (by omega) hq))⟩,⟨_,rfl,(CoR.refl _)⟩,c9,c9,trivial⟩,⟨⟨_,rfl,(ca (nj (by omega) hq) (CoP.of_eq (congrArg (fun z=>PV.raw (.int .u32 z)) (fc _ _))))⟩,trivial⟩⟩)
         | (refine ⟨i + 1, ?_, ?_, ?_⟩
            · show i + 1 ≤ _;omega
            · first | omega | (dsimp only;omega)
            · exact ⟨⟨⟨_,rfl,(bn (nn (by omega) hq))⟩,⟨_,rfl,(CoR.refl _)⟩,c9,c9,trivial⟩,⟨⟨_,rfl,(bo (nn (by omega) hq))⟩,trivial⟩⟩)
 ·
  have h0:=of_decide_eq_false r0
  try simp only [ty] at h0
  obtain rfl:i = (bp n l m x).length:=by omega
  rw [show (bp n l m x).take (bp n l m x).length = (bp n l m x) from List.take_length]
  refine au ?_;refine a7 ?_;refine c8 12 rfl rfl rfl ?_;refine gy ?_;refine qy ?_;refine rc rfl rfl rfl rfl rfl rfl afw (a9h (gd p (bp n l m x)) (yn n l m x p)) (CoL.refl _) rfl rfl ?_
  refine qy ?_;refine a6 ?_
  exact hx8 rfl rfl rfl (⟨CoC.refl _,trivial⟩)
theorem aef:al Tryd.prog 14:=⟨Tryd.f14,Tryd.func14,by kernel_rfl,by kernel_rfl⟩
theorem a92 (n:Int) (l m:List Fd) (p:AS) (hn:n ≤ 16) (hp:sub p (ah n)):ao Tryd.prog 14 [pI n,pP (fdl l),pP (fdl m),pA p] (ay [(vF (cw n l m) p).pc,pB (vBo (cw n l m) p)]):=by
 refine am (nt:=52) ai Tryd.func14 rfl rfl l9 ?_
 have hsl:=a48 p
 refine sx7 ?_;refine m9 0 ?_;refine qy ?_;refine a6 ?_;refine sx7 ?_;refine qy ?_;refine rc rfl rfl rfl rfl rfl rfl aqh (ao9 p) (CoL.refl _) rfl rfl ?_;refine qy ?_;refine a6 ?_;refine a7 ?_
 refine sx7 ?_;refine qy ?_;refine a6 ?_;refine af ?_
 refine av (ι:=Nat) ⟨[(0,some _),(1,some _),(2,some _),(3,some _),(8,some _),(10,some _)],[(0,some _)]⟩ ⟨⟨c9,c9,c9,c9,c9,c9,trivial⟩,⟨u9,trivial⟩⟩ (fun i=>⟨[(11,some (vI i))],[]⟩) (fun i=>i ≤ (bg p).length ∧ ((bg p).take i).findSome? (ud n l m p) = none) (fun i=>(bg p).length - i) (0) (⟨Nat.zero_le _,rfl⟩) ⟨⟨⟨_,rfl,(CoR.refl _)⟩,trivial⟩,trivial⟩ ?_
 rintro i ⟨hi,hI⟩
 refine a7 ?_;refine sx7 ?_;(iterate 4 refine qy ?_);refine a6 ?_;refine a8 _ rfl (fun r0=>?_) (fun r0=>?_)
 ·
  have h0:=of_decide_eq_true r0
  try simp only [ty] at h0
  have hil:i < (bg p).length:=by omega
  have hxs:sub ((bg p).getD i default) p:=vg (it hil)
  refine aa ?_;refine a7 ?_;refine af ?_;refine a7 ?_;refine sx7 ?_;(iterate 8 refine qy ?_);refine rc rfl rfl rfl rfl rfl rfl ao4 (aap (l8 hxs hp)) (CoL.refl _) rfl rfl ?_
  refine rc rfl rfl rfl rfl rfl rfl aft (ako p (je n l m ((bg p).getD i default))) (CoL.refl _) rfl rfl ?_;refine a6 ?_;refine a8 _ rfl (fun r1=>?_) (fun r1=>?_)
  ·
   have h1:=r1
   have hq:p &&& ~~~(je n l m ((bg p).getD i default)) = 0:=of_decide_eq_true r1
   refine au ?_;refine gy ?_;(iterate 3 refine qy ?_);refine a6 ?_;refine ⟨i + 1, ?_, ?_, ?_⟩
   · exact ⟨by omega,(ey hil hI).trans (by first | exact a20 hq | exact a16 hq hc)⟩
   · first | omega | (dsimp only;omega)
   · exact ⟨⟨⟨_,rfl,(CoR.refl _)⟩,c9,c9,c9,c9,c9,c9,trivial⟩,⟨u9,trivial⟩⟩
  ·
   have h1:=r1
   have hq:¬ p &&& ~~~(je n l m ((bg p).getD i default)) = 0:=of_decide_eq_false r1
   refine aa ?_;refine sx7 ?_;(iterate 8 refine qy ?_);refine rc rfl rfl rfl rfl rfl rfl aee (a9z n l m ((bg p).getD i default) p hn) (CoL.refl _) rfl rfl ?_;refine qy ?_;refine a6 ?_;refine sx7 ?_
   (iterate 3 refine qy ?_);refine a6 ?_;refine a8 _ rfl (fun r2=>?_) (fun r2=>?_)
   ·
    have h2:=of_decide_eq_true r2
    try simp only [ty] at h2
    have hc:1 < (dx n l m ((bg p).getD i default) p).length:=by omega
    have hcl:(dx n l m ((bg p).getD i default) p).length ≤ 8589934592:=Nat.le_trans (md _) (yn n l m ((bg p).getD i default) p)
    refine a7 ?_;refine d8 (E:=dg) ai c7 [0,1,2,3,4,5,6,7,8,9] ?_;(iterate 8 refine qy ?_);refine s9 ?_;refine qy ?_;refine a6 ?_;refine ⟨by kernel_rfl, ?_⟩;refine dc ?_
    refine ⟨.inr rfl, ?_⟩
    have he:a2k (cw n l m p) = (⟨((bg p).getD i default),(dx n l m ((bg p).getD i default) p).getD 0 default⟩,true):=by
     rw [show cw n l m p = some _ from ld hil hI (ad9 hq hc)]
     rfl
    unfold vF vBo
    exact f9 rfl rfl (by rw [he];exact ⟨CoC.agg ⟨CoP.refl _,CoP.refl _,trivial⟩,CoC.refl _,trivial⟩)
   ·
    have h2:=of_decide_eq_false r2
    try simp only [ty] at h2
    have hc:¬ 1 < (dx n l m ((bg p).getD i default) p).length:=by omega
    refine aa ?_;refine gy ?_;(iterate 3 refine qy ?_);refine a6 ?_;refine ⟨i + 1, ?_, ?_, ?_⟩
    · exact ⟨by omega,(ey hil hI).trans (by first | exact a20 hq | exact a16 hq hc)⟩
    · first | omega | (dsimp only;omega)
    · exact ⟨⟨⟨_,rfl,(CoR.refl _)⟩,c9,c9,c9,c9,c9,c9,trivial⟩,⟨u9,trivial⟩⟩
 ·
  have h0:=of_decide_eq_false r0
  try simp only [ty] at h0
  obtain rfl:i = (bg p).length:=by omega
  rw [show (bg p).take (bg p).length = (bg p) from List.take_length] at hI
  refine au ?_;refine sx7 ?_;refine qy ?_;refine s9 ?_;refine qy ?_;refine a6 ?_;refine dc ?_;refine ⟨.inr rfl, ?_⟩
  have he:a2k (cw n l m p) = (⟨0,0⟩,false):=by
   rw [show cw n l m p = none from hI]
   rfl
  unfold vF vBo
  exact f9 rfl rfl (by rw [he];exact ⟨CoC.agg ⟨CoP.of_eq rfl,CoP.of_eq rfl,trivial⟩,CoC.refl _,trivial⟩)
end Go.Hx
end
section
namespace Go.Hx
theorem t6 {n:Int} {l m:List Fd} {p:AS} (h:bsz p = 1):vBo (cw n l m) p = false:=by
 cases hv:vBo (cw n l m) p with
 | false=>rfl
 | true =>
  obtain ⟨h1,_⟩:=a4f (py n l m) hv
  obtain ⟨_,_,h3⟩:=py n l m p _ (a0q hv)
  have hz:mn (cw n l m) p = 0:=by
   apply Classical.byContradiction
   intro hn
   have h0:(0:AS) ≠ mn (cw n l m) p:=fun e=>hn e.symm
   have hs:sub 0 (mn (cw n l m) p):=by unfold sub;simp
   have:=tl hs h0
   omega
  have hr:(vF (cw n l m) p).rhs = 0:=by
   have:=(apf (a:=(vF (cw n l m) p).lhs) (b:=(vF (cw n l m) p).rhs) (k:=0)).1 (by rw [BitVec.ushiftRight_zero];exact hz)
   have:=this.2
   rwa [BitVec.ushiftRight_zero] at this
  exact absurd (by rw [hr,show ~~~(0:AS) = BitVec.allOnes 32 by decide,BitVec.and_allOnes]) h3
end Go.Hx
end
section
namespace Go.Hx
open Go.Proofs
set_option maxRecDepth 100000
set_option maxHeartbeats 1000000
def q8 (n:Int) (q:BitVec 8):AS:=q.setWidth 32 &&& ah n
theorem a0x {n:Int} {q:BitVec 8}:sub (q8 n q) (ah n):=l5
theorem a6j {x:Mx} (h:x.ok = true) (h5:x.d.num ≤ 6) {s:AS} (hs:sub s (ah x.d.num)):ck4 x.d.num x.d.fds x.mv s = 0:=by
 obtain ⟨_,_,hb⟩:=aaw h
 obtain ⟨h0,_⟩:=x5 x.d
 rw [v2 (by omega)]
 exact yd hb (a9m hs (um (by omega)))
theorem ash (a:List AS):ao Tryd.prog 11 [pP (asl a),pP (asl a)] (ay [pB true]):=by
 have h:=agi a a
 rw [decide_eq_true rfl] at h
 exact h
theorem ars {n:Int} {l m:List Fd} (hz:ck4 n l m 0 = 0) (hf:ck4 n l m (ah n) = 0):ao Tryd.prog 15 [pI n,pP (fdl l),pP (fdl m)] (ay [pB (!vBo (cw n l m) (ah n)),pI 0]):=by
 have h:=as8 n l m
 rw [hz,show is4 n l m = !vBo (cw n l m) (ah n) by unfold is4;rw [if_pos hz,x7 hf];rfl] at h
 exact h
theorem ai0 (x:Mx) (s:BitVec 8 × BitVec 8) (hl:x.d.l.length ≤ 16777216) (hm:x.m.length ≤ 16777216):ao Tryd.prog 3 [x.pc, .agg [u8C s.1 0,u8C s.2 0]] (ay [pB true]):=by
 refine am (nt:=71) ai Tryd.func3 rfl rfl l9 ?_;refine sx7 ?_;refine m9 0 ?_;refine m9 1 ?_;refine qy ?_;refine a6 ?_;refine sx7 ?_;refine qy ?_
 refine rc rfl rfl rfl rfl rfl rfl aky (ali x hl hm) (CoL.refl _) rfl rfl ?_;(iterate 9 refine qy ?_);refine a6 ?_;refine a7 ?_;refine sx7 ?_
 refine rc rfl rfl rfl rfl rfl rfl xf (mz) (CoL.refl _) rfl rfl ?_;(iterate 6 refine qy ?_);refine ct rfl rfl (fun r0=>?_) (fun r0=>?_)
 ·
  have h0:=r0
  have h0:=cb h0
  (iterate 2 refine k9 (gtf r0) ?_);refine rq rfl rfl rfl rfl rfl ?_ (hp:=r0);refine a6 ?_;refine a8 _ rfl (fun _=>?_) (fun e=>by cases e);refine sx7 ?_
  refine rc rfl rfl rfl rfl rfl rfl xf (mz) (CoL.refl _) rfl rfl ?_;refine qy ?_;refine a6 ?_
  exact hx8 rfl rfl rfl (CoL.refl _)
 ·
  have h0:=r0
  have h0:=ce h0
  (iterate 2 refine qy ?_ (hg:=(gff r0)));refine qy ?_;refine a6 ?_;refine a8 _ rfl (fun r1=>?_) (fun r1=>?_)
  ·
   have h1:=r1
   have h1:=qo r0 h1
   have h1:=of_decide_eq_true h1
   try simp only [ty] at h1
   refine sx7 ?_;refine rc rfl rfl rfl rfl rfl rfl xf (mz) (CoL.refl _) rfl rfl ?_;refine qy ?_;refine a6 ?_
   exact hx8 rfl rfl rfl (CoL.refl _)
  ·
   have h1:=r1
   have h1:=qo r0 h1
   have h1:=of_decide_eq_false h1
   try simp only [ty] at h1
   have h5:x.d.num ≤ 6:=(x5 x.d).2
   have hok:x.ok = true:=by simp_all
   obtain ⟨hx6,hx4,_⟩:=aaw hok
   have hfl:x.d.fds.length ≤ 6:=by unfold Dps.fds;rw [List.length_map];exact hx6
   have hml:x.mv.length ≤ 4:=by unfold Mx.mv;rw [List.length_map];exact hx4
   have hc:ck4 x.d.num x.d.fds x.mv ((q8 x.d.num s.1) ||| (q8 x.d.num s.2)) = 0:=a6j hok h5 (pn a0x a0x)
   refine aa ?_;refine sx7 ?_;refine qy ?_;refine rc rfl rfl rfl rfl rfl rfl ue (p6 x.d.num) (CoL.refl _) rfl rfl ?_;refine qy ?_;refine a6 ?_;refine a7 ?_
   refine d8 (E:=dg) ai c7 [0,1,2,3,4,5,6,7,8,9,10,11,12,13,14,15,16,17,18,19,20] ?_;(iterate 2 refine qy ?_)
   refine rc rfl rfl rfl rfl rfl rfl abq (a01 x.d.fds.length false (lf Fd.c x.d.fds) (by omega)) (CoL.refl _) rfl rfl ?_;refine qy ?_
   refine rc rfl rfl rfl rfl rfl rfl a1y (a2o x.mv.length false (lf Fd.c x.mv) (by omega)) (CoL.refl _) rfl rfl ?_;(iterate 10 refine qy ?_)
   refine rc rfl rfl rfl rfl rfl rfl akr (ada hc) (⟨CoC.refl _,CoC.refl _,CoC.refl _,cci (ll _ _),cci (ll _ _),trivial⟩) rfl rfl ?_;(iterate 5 refine qy ?_);refine a6 ?_;refine ⟨by kernel_rfl, ?_⟩
   refine sx7 ?_;(iterate 17 refine qy ?_)
   refine rc rfl rfl rfl rfl rfl rfl aee (a9z x.d.num x.d.fds x.mv (q8 x.d.num s.1) (q8 x.d.num s.2) (by omega)) (⟨CoC.refl _,CoC.refl _,CoC.refl _,cci (ll _ _),cci (ll _ _),trivial⟩) rfl rfl ?_
   refine rc rfl rfl rfl rfl rfl rfl a5d (ash (dx x.d.num x.d.fds x.mv (q8 x.d.num s.1) (q8 x.d.num s.2))) (CoL.refl _) rfl rfl ?_;(iterate 2 refine qy ?_);refine a6 ?_
   exact hx8 rfl rfl rfl (CoL.refl _)
theorem aj1 (x:Mx) (s:BitVec 8) (hl:x.d.l.length ≤ 16777216) (hm:x.m.length ≤ 16777216):ao Tryd.prog 4 [x.pc,pP (u8C s 0)] (ay [pB true]):=by
 refine am (nt:=110) ai Tryd.func4 rfl rfl l9 ?_;refine sx7 ?_;refine m9 0 ?_;refine qy ?_;refine a6 ?_;refine sx7 ?_;refine qy ?_
 refine rc rfl rfl rfl rfl rfl rfl aky (ali x hl hm) (CoL.refl _) rfl rfl ?_;(iterate 9 refine qy ?_);refine a6 ?_;refine a7 ?_;refine sx7 ?_
 refine rc rfl rfl rfl rfl rfl rfl xf (mz) (CoL.refl _) rfl rfl ?_;(iterate 6 refine qy ?_);refine ct rfl rfl (fun r0=>?_) (fun r0=>?_)
 ·
  have h0:=r0
  have h0:=cb h0
  (iterate 2 refine k9 (gtf r0) ?_);refine rq rfl rfl rfl rfl rfl ?_ (hp:=r0);refine a6 ?_;refine a8 _ rfl (fun _=>?_) (fun e=>by cases e);refine sx7 ?_
  refine rc rfl rfl rfl rfl rfl rfl xf (mz) (CoL.refl _) rfl rfl ?_;refine qy ?_;refine a6 ?_
  exact hx8 rfl rfl rfl (CoL.refl _)
 ·
  have h0:=r0
  have h0:=ce h0
  (iterate 2 refine qy ?_ (hg:=(gff r0)));refine qy ?_;refine a6 ?_;refine a8 _ rfl (fun r1=>?_) (fun r1=>?_)
  ·
   have h1:=r1
   have h1:=qo r0 h1
   have h1:=of_decide_eq_true h1
   try simp only [ty] at h1
   refine sx7 ?_;refine rc rfl rfl rfl rfl rfl rfl xf (mz) (CoL.refl _) rfl rfl ?_;refine qy ?_;refine a6 ?_
   exact hx8 rfl rfl rfl (CoL.refl _)
  ·
   have h1:=r1
   have h1:=qo r0 h1
   have h1:=of_decide_eq_false h1
   try simp only [ty] at h1
   have h5:x.d.num ≤ 6:=(x5 x.d).2
   have hok:x.ok = true:=by simp_all
   obtain ⟨hx6,hx4,_⟩:=aaw hok
   have hfl:x.d.fds.length ≤ 6:=by unfold Dps.fds;rw [List.length_map];exact hx6
   have hml:x.mv.length ≤ 4:=by unfold Mx.mv;rw [List.length_map];exact hx4
   have hc:ck4 x.d.num x.d.fds x.mv (q8 x.d.num s) = 0:=a6j hok h5 a0x
   have hc0:ck4 x.d.num x.d.fds x.mv 0 = 0:=xv hc (by unfold sub;simp)
   have hcf:ck4 x.d.num x.d.fds x.mv (ah x.d.num) = 0:=a6j hok h5 (by unfold sub;simp)
   refine aa ?_;refine sx7 ?_;(iterate 3 refine qy ?_);refine rc rfl rfl rfl rfl rfl rfl ue (p6 x.d.num) (CoL.refl _) rfl rfl ?_;(iterate 2 refine qy ?_);refine a6 ?_;refine sx7 ?_;(iterate 2 refine qy ?_)
   refine rc rfl rfl rfl rfl rfl rfl abq (a01 x.d.fds.length false (lf Fd.c x.d.fds) (by omega)) (CoL.refl _) rfl rfl ?_;refine qy ?_
   refine rc rfl rfl rfl rfl rfl rfl a1y (a2o x.mv.length false (lf Fd.c x.mv) (by omega)) (CoL.refl _) rfl rfl ?_;refine qy ?_
   refine rc rfl rfl rfl rfl rfl rfl x3 (a87 hc) (⟨CoC.refl _,CoC.refl _,CoC.refl _,cci (ll _ _),trivial⟩) rfl rfl ?_;(iterate 4 refine qy ?_);refine m9 1 ?_;refine s9 ?_;(iterate 2 refine qy ?_)
   refine a6 ?_;refine sx7 ?_;(iterate 4 refine qy ?_)
   refine rc rfl rfl rfl rfl rfl rfl aef (a92 x.d.num x.d.fds x.mv (q8 x.d.num s) (by omega) a0x) (⟨CoC.refl _,CoC.refl _,CoC.refl _,cci (ll _ _),trivial⟩) rfl rfl ?_;(iterate 3 refine qy ?_);refine m9 2 ?_
   refine s9 ?_;refine qy ?_;refine a6 ?_;refine sx7 ?_;(iterate 2 refine qy ?_);refine rc rfl rfl rfl rfl rfl rfl abq (a01 x.d.fds.length false (lf Fd.c x.d.fds) (by omega)) (CoL.refl _) rfl rfl ?_;refine qy ?_
   refine rc rfl rfl rfl rfl rfl rfl a1y (a2o x.mv.length false (lf Fd.c x.mv) (by omega)) (CoL.refl _) rfl rfl ?_;refine rc rfl rfl rfl rfl rfl rfl aps (ars hc0 hcf) (CoL.refl _) rfl rfl ?_;(iterate 5 refine qy ?_)
   refine a6 ?_;refine sx7 ?_;(iterate 4 refine qy ?_);refine rc rfl rfl rfl rfl rfl rfl ue (p6 x.d.num) (CoL.refl _) rfl rfl ?_
   refine rc rfl rfl rfl rfl rfl rfl aef (a92 x.d.num x.d.fds x.mv (ah x.d.num) (by omega) (by unfold sub;simp)) (CoL.refl _) rfl rfl ?_;(iterate 3 refine qy ?_);refine m9 3 ?_;refine s9 ?_;refine qy ?_
   refine a6 ?_;refine sx7 ?_;(iterate 12 refine qy ?_);refine ct rfl rfl (fun r2=>?_) (fun r2=>?_)
   ·
    have h2:=r2
    (iterate 3 refine qy ?_ (hg:=(gtt r2)));(iterate 2 refine qy ?_);refine ct rfl rfl (fun r3=>?_) (fun r3=>?_)
    ·
     have h3:=r3
     have h3:=ef r2 h3
     (iterate 4 refine qy ?_ (hg:=(gtt r3)));(iterate 2 refine qy ?_);refine ct rfl rfl (fun r4=>?_) (fun r4=>?_)
     ·
      have h4:=r4
      have h4:=ef r3 h4
      refine qy ?_ (hg:=(gtt r4));refine rc rfl rfl rfl rfl rfl rfl nb (ng (q8 x.d.num s)) (⟨cci (ll _ _),trivial⟩) rfl (gtt r4) ?_;(iterate 2 refine qy ?_ (hg:=(gtt r4)))
      refine ct rfl rfl (fun r5=>?_) (fun r5=>?_)
      ·
       have h5:=r5
       have h5:=of_decide_eq_false (cb h5)
       try simp only [ty] at h5
       (iterate 2 refine k9 (gtf r5) ?_);refine rq rfl rfl rfl rfl (gtt r4) ?_ (hp:=r5);(iterate 2 refine qy ?_);refine a6 ?_
       exact hx8 rfl rfl rfl (⟨ccb (by first | (simp;done) | (simp_all;done) | (by_cases h1:bsz (q8 x.d.num s) = 1;(rw [t6 h1];simp [h1]);(have h2:¬ ((bsz (q8 x.d.num s):Nat):Int) = 1:=by omega);simp [h2])),trivial⟩)
      ·
       have h5:=r5
       have h5:=of_decide_eq_true (ce h5)
       try simp only [ty] at h5
       (iterate 2 refine qy ?_ (hg:=(gff r5)));refine qy ?_ (hg:=(gtt r4));(iterate 2 refine qy ?_);refine a6 ?_
       exact hx8 rfl rfl rfl (⟨ccb (by first | (simp;done) | (simp_all;done) | (by_cases h1:bsz (q8 x.d.num s) = 1;(rw [t6 h1];simp [h1]);(have h2:¬ ((bsz (q8 x.d.num s):Nat):Int) = 1:=by omega);simp [h2])),trivial⟩)
     ·
      have h4:=r4
      have h4:=ef r3 h4
      (iterate 4 refine k9 (gft r4) ?_);(iterate 2 refine k9 rfl ?_);refine k9 (gft r4) ?_;refine rq rfl rfl rfl rfl rfl ?_ (hp:=r4);refine qy ?_;refine a6 ?_
      exact hx8 rfl rfl rfl (⟨ccb (by first | (simp;done) | (simp_all;done) | (by_cases h1:bsz (q8 x.d.num s) = 1;(rw [t6 h1];simp [h1]);(have h2:¬ ((bsz (q8 x.d.num s):Nat):Int) = 1:=by omega);simp [h2])),trivial⟩)
    ·
     have h3:=r3
     have h3:=ef r2 h3
     (iterate 4 refine k9 (gft r3) ?_);refine rq rfl rfl rfl rfl rfl ?_ (hp:=r3);refine qy ?_;(iterate 7 refine k9 rfl ?_);(iterate 2 refine qy ?_);refine a6 ?_
     exact hx8 rfl rfl rfl (⟨ccb (by first | (simp;done) | (simp_all;done) | (by_cases h1:bsz (q8 x.d.num s) = 1;(rw [t6 h1];simp [h1]);(have h2:¬ ((bsz (q8 x.d.num s):Nat):Int) = 1:=by omega);simp [h2])),trivial⟩)
   ·
    have h2:=r2
    (iterate 3 refine k9 (gft r2) ?_);refine rq rfl rfl rfl rfl rfl ?_ (hp:=r2);refine qy ?_;(iterate 4 refine k9 rfl ?_);(iterate 2 refine qy ?_);(iterate 7 refine k9 rfl ?_);(iterate 2 refine qy ?_);refine a6 ?_
    exact hx8 rfl rfl rfl (⟨ccb (by first | (simp;done) | (simp_all;done) | (by_cases h1:bsz (q8 x.d.num s) = 1;(rw [t6 h1];simp [h1]);(have h2:¬ ((bsz (q8 x.d.num s):Nat):Int) = 1:=by omega);simp [h2])),trivial⟩)
end Go.Hx
end

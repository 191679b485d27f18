/- A part of the proof: Y1 Bz4. -/
import Derived.Test.YtidophngianjiaaDoorDx18
import Derived.Test.YtidophngianjiaaDoorDx19
import Derived.Test.YtidophngianjiaaDoorDx23
set_option linter.all false
section
namespace Go.Hx
open Go.Proofs
set_option maxRecDepth 100000
set_option maxHeartbeats 1000000
theorem lr {a b:AS} (h:bz .and .u32 (asI a) (asI b) = 0):a &&& b = 0:=dt.1 ((fc a b).symm.trans h)
theorem jd {a b:AS} (h:¬ bz .and .u32 (asI a) (asI b) = 0):¬ a &&& b = 0:=fun e=>h ((fc a b).trans (congrArg asI e))
theorem abi {a b:AS} (h:bz .andNot .u32 (asI a) (asI b) = 0):a &&& ~~~b = 0:=dt.1 ((fw a b).symm.trans h)
theorem a68 {a b:AS} (h:¬ bz .andNot .u32 (asI a) (asI b) = 0):¬ a &&& ~~~b = 0:=fun e=>h ((fw a b).trans (congrArg asI e))
theorem xe {m:Fd} {x:AS} (h:¬ x &&& m.lhs = 0):c4 m x = false:=by unfold c4;rw [decide_eq_false h];rfl
theorem y6 {m:Fd} {x:AS} (h:x &&& m.rhs = 0):c4 m x = false:=by simp [c4,h]
theorem a7u (a b:AS):decide (bz .and .u32 (asI a) (asI b) = 0) = decide (a &&& b = 0):=by
 by_cases h:bz .and .u32 (asI a) (asI b) = 0
 · rw [decide_eq_true h,decide_eq_true (lr h)]
 · rw [decide_eq_false h,decide_eq_false (jd h)]
theorem anq (a b:AS):decide (bz .andNot .u32 (asI a) (asI b) = 0) = decide (a &&& ~~~b = 0):=by
 by_cases h:bz .andNot .u32 (asI a) (asI b) = 0
 · rw [decide_eq_true h,decide_eq_true (abi h)]
 · rw [decide_eq_false h,decide_eq_false (a68 h)]
theorem ye (m:Fd) (x:AS):(bif (bif decide (bz .and .u32 (asI x) (asI m.lhs) = 0) then !decide (bz .and .u32 (asI x) (asI m.rhs) = 0) else false) then !decide (bz .andNot .u32 (asI x) (asI m.rhs) = 0) else false) = c4 m x:=by
 rw [a7u,a7u,anq]
 unfold c4
 by_cases h1:x &&& m.lhs = 0 <;> by_cases h2:x &&& m.rhs = 0 <;> by_cases h3:x &&& ~~~m.rhs = 0 <;> simp only [h1,h2,h3,decide_true,decide_false,ne_eq,not_true_eq_false,not_false_eq_true,Bool.not_true,Bool.not_false,cond_true,cond_false,Bool.and_self,Bool.and_true,Bool.true_and,Bool.and_false,Bool.false_and]
theorem n9 {m:Fd} {l:List AS} {i:Nat} (c:Bool) (h:i < l.length) (hs:c4 m (l.getD i default) = true):true = (c || (l.take (i + 1)).any (c4 m)):=by
 rw [b8 h,List.any_append];simp only [List.any_cons,List.any_nil,hs,Bool.or_true,Bool.or_false]
theorem vm {m:Fd} {l:List AS} {i:Nat} (c:Bool) (h:i < l.length) (hs:c4 m (l.getD i default) = false):(c || (l.take i).any (c4 m)) = (c || (l.take (i + 1)).any (c4 m)):=by
 rw [b8 h,List.any_append];simp only [List.any_cons,List.any_nil,hs,Bool.or_true,Bool.or_false]
def abs (x:Nat × List AS × Bool):Nat:=x.1 + (bif x.2.2 then 1 else 0)
theorem ane {f:Nat} {l l':List AS} {c:Bool} (h:0 < f):abs (f - 1,l',c) < abs (f,l,true):=by
 cases c <;> simp only [abs,cond_true,cond_false] <;> omega
theorem afm:al Tryd.prog 35:=⟨Tryd.f35,Tryd.func35,by kernel_rfl,by kernel_rfl⟩
theorem a9q (n:Int) (ms:List Fd) (x:AS) (h0:0 ≤ n) (h1:n ≤ 16):ao Tryd.prog 35 [pI n,pP (fdl ms),pA x] (ay [pP (asl (ord (blks ms (ah n &&& ~~~x))))]):=by
 refine am (nt:=76) ai Tryd.func35 rfl rfl l9 ?_
 refine kr 1 rfl fun hn=>?_
 have hrest:bz .andNot .u32 (IntKind.wrap .u32 (1 * 2 ^ (min n.toNat 32)) - 1) (asI x) = asI (ah n &&& ~~~x):=by rw [xb h0 h1,fw]
 refine sx7 ?_;refine qy ?_;refine a6 ?_;refine sx7 ?_;refine qy ?_;refine a6 ?_
 refine dm 7 900 true 1 34 (lf sC []) (by decide) rfl (CoP.sl rfl (.inr rfl) (fun h=>h) (fun i j hi _=>absurd hi (Nat.not_lt_zero i))) (.inr rfl) rfl ?_
 refine ji (ι:=Unit) ⟨[(1,some _)],[]⟩ ⟨⟨c9,trivial⟩,trivial⟩ (fun _i=>⟨[(7,some (.v (.one (.ref 900 (fe (ah n &&& ~~~x)).length))))],[(900,some (.arr true 1 34 (fe (ah n &&& ~~~x)).length (lf sC (fe (ah n &&& ~~~x)))))]⟩) (fun _i=>True) ?_ ?_
 ·
  refine sx7 ?_;(iterate 2 refine qy ?_);refine rq rfl rfl rfl rfl rfl ?_ (hp:=⟨a0j h0 h1,wa h0 h1⟩);(iterate 3 refine qy ?_);refine a6 ?_;refine sx7 ?_;(iterate 2 refine qy ?_);refine a6 ?_
  refine a8 _ rfl (fun r0=>?_) (fun r0=>?_)
  ·
   have h0:=r0
   have h0:=of_decide_eq_false (cb h0)
   try simp only [ty] at h0
   have hne:¬ (ah n &&& ~~~x) = 0:=fun e=>h0 (hrest.trans (congrArg asI e))
   refine gy ?_;(iterate 2 refine qy ?_);refine m9 0 ?_;refine ra 1 true rfl rfl rfl rfl rfl rfl ?_;refine qy ?_;refine a6 ?_;refine ⟨(), ?_, ?_⟩
   · trivial
   · exact ⟨⟨⟨_,rfl,(by first | exact ck (xr hne) | exact bn (yc hz))⟩,c9,trivial⟩,⟨⟨_,rfl,(by first | exact ca (xr hne) (CoP.of_eq (congrArg (fun z=>PV.raw (.int .u32 z)) hrest)) | exact bo (yc hz))⟩,trivial⟩⟩
  ·
   have h0:=r0
   have h0:=of_decide_eq_true (ce h0)
   try simp only [ty] at h0
   have hz:(ah n &&& ~~~x) = 0:=dt.1 (hrest.symm.trans h0)
   refine aa ?_;refine ⟨(), ?_, ?_⟩
   · trivial
   · exact ⟨⟨⟨_,rfl,(by first | exact ck (xr hne) | exact bn (yc hz))⟩,c9,trivial⟩,⟨⟨_,rfl,(by first | exact ca (xr hne) (CoP.of_eq (congrArg (fun z=>PV.raw (.int .u32 z)) hrest)) | exact bo (yc hz))⟩,trivial⟩⟩
 · rintro _ _
   refine a7 ?_;refine sx7 ?_;refine qy ?_;refine a6 ?_;refine af ?_
   refine av (ι:=(Nat × List AS × Bool)) ⟨[(1,some _)],[]⟩ ⟨⟨c9,trivial⟩,trivial⟩ (fun y=>⟨[(7,some (.v (.one (.ref 900 y.2.1.length)))),(9,some (vB y.2.2))],[(900,some (.arr true 1 34 y.2.1.length (lf sC y.2.1)))]⟩) (fun y=>BkI ms (blks ms (ah n &&& ~~~x)) y) (fun y=>abs y) ((18446744073709551616,fe (ah n &&& ~~~x),true)) (ajb ms (ah n &&& ~~~x)) ⟨⟨zy,zy,trivial⟩,⟨u9,trivial⟩⟩ ?_
   rintro ⟨f,l,ag⟩ hI
   refine a7 ?_;refine sx7 ?_;refine qy ?_;refine a6 ?_;refine a8 _ rfl (fun r1=>?_) (fun r1=>?_)
   ·
    have h1:=r1
    obtain rfl:ag = true:=r1
    obtain ⟨hI2,hf⟩:=alr hI
    have hok:=hI.ok
    refine aa ?_;refine af ?_;refine sx7 ?_;refine qy ?_;refine a6 ?_;refine sx7 ?_;(iterate 3 refine qy ?_);refine a6 ?_;refine af ?_
    refine av (ι:=Nat) ⟨[(1,some _),(26,some _),(27,some _)],[]⟩ ⟨⟨c9,c9,c9,trivial⟩,trivial⟩ (fun j=>⟨[(7,some (.v (.one (.ref 900 (bf (ms.take j) l).length)))),(9,some (vB (gp (ms.take j) l))),(28,some (vI j))],[(900,some (.arr true 1 34 (bf (ms.take j) l).length (lf sC (bf (ms.take j) l))))]⟩) (fun j=>j ≤ ms.length) (fun j=>ms.length - j) (0) (Nat.zero_le _) ⟨⟨zy,⟨_,rfl,(CoR.refl _)⟩,zy,trivial⟩,⟨u9,trivial⟩⟩ ?_
    rintro j hj
    have hokj:OkB (bf (ms.take j) l):=ym hok
    have hlj:=a2j (adw (m:=(ms.getD j default)) hokj)
    refine sx7 ?_;refine qy ?_;refine a6 ?_;refine a7 ?_;refine a8 _ rfl (fun r2=>?_) (fun r2=>?_)
    ·
     have h2:=of_decide_eq_true r2
     try simp only [ty] at h2
     refine aa ?_;refine a7 ?_;refine af ?_;refine sx7 ?_;(iterate 2 refine qy ?_);refine m9 2 ?_;refine s9 ?_;refine a6 ?_;refine sx7 ?_;(iterate 3 refine qy ?_);refine a6 ?_;refine af ?_
     refine ajl 32 rfl rfl rfl ?_
     refine av (ι:=(Nat × Bool)) ⟨[(1,some _),(11,some _),(26,some _),(27,some _),(28,some _),(33,some _)],[(2,some _)]⟩ ⟨⟨c9,c9,c9,c9,c9,c9,trivial⟩,⟨u9,trivial⟩⟩ (fun y=>⟨[(7,some (.v (.one (.ref (bif y.2 then 900 else 951) (stB (ms.getD j default) (bf (ms.take j) l) y.1).length)))),(9,some (vB (gp (ms.take j) l || ((bf (ms.take j) l).take y.1).any (c4 (ms.getD j default))))),(34,some (vI y.1)),(32,some (bif y.2 then .v (.one (.win 900 (stB (ms.getD j default) (bf (ms.take j) l) y.1).length 0 (bf (ms.take j) l).length)) else bd (.sl (bf (ms.take j) l).length 1 false (vj (bf (ms.take j) l) y.1))))],[(bif y.2 then 900 else 951,some (.arr true 1 34 (stB (ms.getD j default) (bf (ms.take j) l) y.1).length (lf sC (stB (ms.getD j default) (bf (ms.take j) l) y.1))))]⟩) (fun y=>y.1 ≤ (bf (ms.take j) l).length) (fun y=>(bf (ms.take j) l).length - y.1) ((0,true)) (Nat.zero_le _) ⟨⟨⟨_,rfl,(bn (a0i _ _))⟩,⟨_,rfl,(cob (by simp))⟩,⟨_,rfl,(CoR.refl _)⟩,⟨_,rfl,(CoR.of_eq (by rw [a0i];rfl))⟩,trivial⟩,⟨⟨_,rfl,(bo (a0i _ _))⟩,trivial⟩⟩ ?_
     rintro ⟨i,b⟩ hi
     have hi:i ≤ (bf (ms.take j) l).length:=hi
     have hsl:=aoz (ms.getD j default) (bf (ms.take j) l) i
     have hsl2:=a9w (ms.getD j default) (bf (ms.take j) l) i
     rcases b with _ | _
     ·
      show HW _ _ _ ⟨_ :: _,_⟩ _
      refine sx7 ?_;refine qy ?_;refine a6 ?_;refine a7 ?_;refine a8 _ rfl (fun r3=>?_) (fun r3=>?_)
      ·
       have h3:=of_decide_eq_true r3
       try simp only [ty] at h3
       have hil:i < (bf (ms.take j) l).length:=by omega
       refine aa ?_;refine a7 ?_;refine af ?_;refine sx7 ?_;(iterate 2 refine qy ?_)
       refine rq (out:=⟨_, .v (.one (.p (asC ((bf (ms.take j) l).getD i default))))⟩) rfl rfl rfl (congrArg (fun z=>some (Out.mk _ (HR.v (HC.one (HV.p z))))) (am5 (bf (ms.take j) l) i)) rfl ?_
       (iterate 2 refine qy ?_);refine a6 ?_
       refine ji (ι:=Unit) ⟨[(1,some _),(7,some _),(9,some _),(11,some _),(12,some _),(13,some _),(26,some _),(27,some _),(28,some _),(32,some _),(33,some _),(34,some _)],[(2,some _)]⟩ ⟨⟨c9,c9,c9,c9,c9,c9,c9,c9,c9,c9,c9,c9,trivial⟩,⟨u9,trivial⟩⟩ (fun _i=>⟨[(57,some (vB (c4 (ms.getD j default) ((bf (ms.take j) l).getD i default))))],[(951,some (.arr true 1 34 (stB (ms.getD j default) (bf (ms.take j) l) i).length (lf sC (stB (ms.getD j default) (bf (ms.take j) l) i))))]⟩) (fun _i=>True) ?_ ?_
       ·
        refine gy ?_;(iterate 6 refine qy ?_);refine ct rfl rfl (fun r4=>?_) (fun r4=>?_)
        ·
         have h4:=of_decide_eq_true r4
         try simp only [ty] at h4
         have g1:((bf (ms.take j) l).getD i default) &&& (ms.getD j default).lhs = 0:=lr h4
         (iterate 5 refine qy ?_ (hg:=(gtt r4)));(iterate 2 refine qy ?_);refine ct rfl rfl (fun r5=>?_) (fun r5=>?_)
         ·
          have h5:=r5
          have h5:=ef r4 h5
          have h5:=of_decide_eq_false (cb h5)
          try simp only [ty] at h5
          have g2:¬ ((bf (ms.take j) l).getD i default) &&& (ms.getD j default).rhs = 0:=jd h5
          (iterate 5 refine qy ?_ (hg:=(gtt r5)));refine qy ?_;refine a6 ?_;refine ⟨(), ?_, ?_⟩
          · trivial
          · exact ⟨⟨⟨_,rfl,(cob (by first | exact ye _ _ | exact (xe g1).symm | exact (y6 g2).symm))⟩,c9,c9,c9,c9,c9,c9,c9,c9,c9,c9,c9,c9,trivial⟩,⟨u9,u9,trivial⟩⟩
         ·
          have h5:=r5
          have h5:=ef r4 h5
          have h5:=of_decide_eq_true (ce h5)
          try simp only [ty] at h5
          have g2:((bf (ms.take j) l).getD i default) &&& (ms.getD j default).rhs = 0:=lr h5
          (iterate 5 refine k9 (gft r5) ?_);refine rq rfl rfl rfl rfl rfl ?_ (hp:=r5);refine a6 ?_;refine ⟨(), ?_, ?_⟩
          · trivial
          · exact ⟨⟨⟨_,rfl,(cob (by first | exact ye _ _ | exact (xe g1).symm | exact (y6 g2).symm))⟩,c9,c9,c9,c9,c9,c9,c9,c9,c9,c9,c9,c9,trivial⟩,⟨u9,u9,trivial⟩⟩
        ·
         have h4:=of_decide_eq_false r4
         try simp only [ty] at h4
         have g1:¬ ((bf (ms.take j) l).getD i default) &&& (ms.getD j default).lhs = 0:=jd h4
         (iterate 5 refine k9 (gft r4) ?_);refine rq rfl rfl rfl rfl rfl ?_ (hp:=r4);refine qy ?_;(iterate 5 refine k9 rfl ?_);refine qy ?_;refine a6 ?_;refine ⟨(), ?_, ?_⟩
         · trivial
         · exact ⟨⟨⟨_,rfl,(cob (by first | exact ye _ _ | exact (xe g1).symm | exact (y6 g2).symm))⟩,c9,c9,c9,c9,c9,c9,c9,c9,c9,c9,c9,c9,trivial⟩,⟨u9,u9,trivial⟩⟩
       · rintro _ _
         refine a8 _ rfl (fun r6=>?_) (fun r6=>?_)
         ·
          have h6:=r6
          have hs:c4 (ms.getD j default) ((bf (ms.take j) l).getD i default) = true:=r6
          have hl2:(stB (ms.getD j default) (bf (ms.take j) l) (i + 1)).length = (stB (ms.getD j default) (bf (ms.take j) l) i).length + 1:=by rw [a51 hil hs,List.length_append,List.length_set];rfl
          refine sx7 ?_;(iterate 7 refine qy ?_);refine s9 ?_;refine a6 ?_;refine sx7 ?_;(iterate 5 refine qy ?_);refine m9 3 ?_;refine ra 4 true rfl rfl rfl rfl rfl rfl ?_;refine qy ?_;refine a6 ?_
          refine gy ?_;refine qy ?_;refine a6 ?_;refine gy ?_;(iterate 2 refine qy ?_);refine a6 ?_
          first | (refine ⟨(i + 1, false), ?_, ?_, ?_⟩
                   · show i + 1 ≤ _;omega
                   · first | omega | (dsimp only;omega)
                   · exact ⟨⟨⟨_,rfl,(CoR.of_eq (congrArg (fun z=>HR.v (.one (.ref 951 z))) hl2.symm))⟩,⟨_,rfl,(cob (n9 _ hil hs))⟩,⟨_,rfl,(CoR.refl _)⟩,⟨_,rfl,(CoC.one (xx rfl))⟩,c9,c9,c9,c9,c9,c9,trivial⟩,⟨⟨_,rfl,(nf hil hs rfl (fc _ _) (CoP.of_eq (congrArg (fun z=>PV.raw (.int .u32 z)) (fw _ _))))⟩,u9,trivial⟩⟩)
                | (refine ⟨(i + 1,false), ?_, ?_, ?_⟩
                   · show i + 1 ≤ _;omega
                   · first | omega | (dsimp only;omega)
                   · exact ⟨⟨⟨_,rfl,(bn (j9 hil hs))⟩,⟨_,rfl,(cob (vm _ hil hs))⟩,⟨_,rfl,(CoR.refl _)⟩,⟨_,rfl,(CoC.one (xx rfl))⟩,c9,c9,c9,c9,c9,c9,trivial⟩,⟨⟨_,rfl,(bo (j9 hil hs))⟩,u9,trivial⟩⟩)
         ·
          have h6:=r6
          have hs:c4 (ms.getD j default) ((bf (ms.take j) l).getD i default) = false:=r6
          refine aa ?_;refine gy ?_;(iterate 2 refine qy ?_);refine a6 ?_
          first | (refine ⟨(i + 1, false), ?_, ?_, ?_⟩
                   · show i + 1 ≤ _;omega
                   · first | omega | (dsimp only;omega)
                   · exact ⟨⟨⟨_,rfl,(CoR.of_eq (congrArg (fun z=>HR.v (.one (.ref 951 z))) hl2.symm))⟩,⟨_,rfl,(cob (n9 _ hil hs))⟩,⟨_,rfl,(CoR.refl _)⟩,⟨_,rfl,(CoC.one (xx rfl))⟩,c9,c9,c9,c9,c9,c9,trivial⟩,⟨⟨_,rfl,(nf hil hs rfl (fc _ _) (CoP.of_eq (congrArg (fun z=>PV.raw (.int .u32 z)) (fw _ _))))⟩,u9,trivial⟩⟩)
                | (refine ⟨(i + 1,false), ?_, ?_, ?_⟩
                   · show i + 1 ≤ _;omega
                   · first | omega | (dsimp only;omega)
                   · exact ⟨⟨⟨_,rfl,(bn (j9 hil hs))⟩,⟨_,rfl,(cob (vm _ hil hs))⟩,⟨_,rfl,(CoR.refl _)⟩,⟨_,rfl,(CoC.one (xx rfl))⟩,c9,c9,c9,c9,c9,c9,trivial⟩,⟨⟨_,rfl,(bo (j9 hil hs))⟩,u9,trivial⟩⟩)
      ·
       have h3:=of_decide_eq_false r3
       try simp only [ty] at h3
       obtain rfl:i = (bf (ms.take j) l).length:=by omega
       refine ww 7 900 rfl rfl rfl rfl ?_;refine au ?_;refine gy ?_;(iterate 2 refine qy ?_);refine a6 ?_;refine ⟨j + 1, ?_, ?_, ?_⟩
       · show j + 1 ≤ _;omega
       · first | omega | (dsimp only;omega)
       · exact ⟨⟨⟨_,rfl,(bn (by rw [ul (by omega),se]))⟩,⟨_,rfl,(cob (by rw [a6i (by omega),List.take_length]))⟩,zy,c9,c9,c9,trivial⟩,⟨⟨_,rfl,(bo (by rw [ul (by omega),se]))⟩,trivial⟩⟩
     ·
      show HW _ _ _ ⟨_ :: _,_⟩ _
      refine sx7 ?_;refine qy ?_;refine a6 ?_;refine a7 ?_;refine a8 _ rfl (fun r7=>?_) (fun r7=>?_)
      ·
       have h7:=of_decide_eq_true r7
       try simp only [ty] at h7
       have hil:i < (bf (ms.take j) l).length:=by omega
       refine aa ?_;refine a7 ?_;refine af ?_;refine sx7 ?_;(iterate 2 refine qy ?_)
       refine rq (out:=⟨_, .v (.one (.p (asC ((bf (ms.take j) l).getD i default))))⟩) rfl rfl rfl (congrArg (fun z=>some (Out.mk _ (HR.v (HC.one (HV.p z))))) ((show lf sC (stB (ms.getD j default) (bf (ms.take j) l) i) (0 + i) 0 = _ by rw [Nat.zero_add];exact congrArg asC (amv hil)))) rfl ?_
       (iterate 2 refine qy ?_);refine a6 ?_
       refine ji (ι:=Unit) ⟨[(1,some _),(7,some _),(9,some _),(11,some _),(12,some _),(13,some _),(26,some _),(27,some _),(28,some _),(32,some _),(33,some _),(34,some _)],[(2,some _)]⟩ ⟨⟨c9,c9,c9,c9,c9,c9,c9,c9,c9,c9,c9,c9,trivial⟩,⟨u9,trivial⟩⟩ (fun _i=>⟨[(57,some (vB (c4 (ms.getD j default) ((bf (ms.take j) l).getD i default))))],[(900,some (.arr true 1 34 (stB (ms.getD j default) (bf (ms.take j) l) i).length (lf sC (stB (ms.getD j default) (bf (ms.take j) l) i))))]⟩) (fun _i=>True) ?_ ?_
       ·
        refine gy ?_;(iterate 6 refine qy ?_);refine ct rfl rfl (fun r8=>?_) (fun r8=>?_)
        ·
         have h8:=of_decide_eq_true r8
         try simp only [ty] at h8
         have g1:((bf (ms.take j) l).getD i default) &&& (ms.getD j default).lhs = 0:=lr h8
         (iterate 5 refine qy ?_ (hg:=(gtt r8)));(iterate 2 refine qy ?_);refine ct rfl rfl (fun r9=>?_) (fun r9=>?_)
         ·
          have h9:=r9
          have h9:=ef r8 h9
          have h9:=of_decide_eq_false (cb h9)
          try simp only [ty] at h9
          have g2:¬ ((bf (ms.take j) l).getD i default) &&& (ms.getD j default).rhs = 0:=jd h9
          (iterate 5 refine qy ?_ (hg:=(gtt r9)));refine qy ?_;refine a6 ?_;refine ⟨(), ?_, ?_⟩
          · trivial
          · exact ⟨⟨⟨_,rfl,(cob (by first | exact ye _ _ | exact (xe g1).symm | exact (y6 g2).symm))⟩,c9,c9,c9,c9,c9,c9,c9,c9,c9,c9,c9,c9,trivial⟩,⟨u9,u9,trivial⟩⟩
         ·
          have h9:=r9
          have h9:=ef r8 h9
          have h9:=of_decide_eq_true (ce h9)
          try simp only [ty] at h9
          have g2:((bf (ms.take j) l).getD i default) &&& (ms.getD j default).rhs = 0:=lr h9
          (iterate 5 refine k9 (gft r9) ?_);refine rq rfl rfl rfl rfl rfl ?_ (hp:=r9);refine a6 ?_;refine ⟨(), ?_, ?_⟩
          · trivial
          · exact ⟨⟨⟨_,rfl,(cob (by first | exact ye _ _ | exact (xe g1).symm | exact (y6 g2).symm))⟩,c9,c9,c9,c9,c9,c9,c9,c9,c9,c9,c9,c9,trivial⟩,⟨u9,u9,trivial⟩⟩
        ·
         have h8:=of_decide_eq_false r8
         try simp only [ty] at h8
         have g1:¬ ((bf (ms.take j) l).getD i default) &&& (ms.getD j default).lhs = 0:=jd h8
         (iterate 5 refine k9 (gft r8) ?_);refine rq rfl rfl rfl rfl rfl ?_ (hp:=r8);refine qy ?_;(iterate 5 refine k9 rfl ?_);refine qy ?_;refine a6 ?_;refine ⟨(), ?_, ?_⟩
         · trivial
         · exact ⟨⟨⟨_,rfl,(cob (by first | exact ye _ _ | exact (xe g1).symm | exact (y6 g2).symm))⟩,c9,c9,c9,c9,c9,c9,c9,c9,c9,c9,c9,c9,trivial⟩,⟨u9,u9,trivial⟩⟩
       · rintro _ _
         refine a8 _ rfl (fun r10=>?_) (fun r10=>?_)
         ·
          have h10:=r10
          have hs:c4 (ms.getD j default) ((bf (ms.take j) l).getD i default) = true:=r10
          have hl2:(stB (ms.getD j default) (bf (ms.take j) l) (i + 1)).length = (stB (ms.getD j default) (bf (ms.take j) l) i).length + 1:=by rw [a51 hil hs,List.length_append,List.length_set];rfl
          refine sx7 ?_;(iterate 7 refine qy ?_);refine s9 ?_;refine a6 ?_;refine a7 ?_;refine amr 7 32 rfl rfl rfl rfl rfl rfl (fun ad cap hcap=>?_) ?_
          ·
           refine gy ?_;(iterate 5 refine qy ?_);refine m9 5 ?_;refine ra 6 true rfl rfl rfl rfl rfl rfl ?_;refine qy ?_;refine a6 ?_;refine ag8 7 32 rfl rfl rfl rfl (by dsimp only at *;omega) rfl ?_
           refine gy ?_;refine qy ?_;refine a6 ?_;refine gy ?_;(iterate 2 refine qy ?_);refine a6 ?_
           first | (refine ⟨(i + 1, true), ?_, ?_, ?_⟩
                    · show i + 1 ≤ _;omega
                    · first | omega | (dsimp only;omega)
                    · exact ⟨⟨⟨_,rfl,(CoR.of_eq (congrArg (fun z=>HR.v (.one (.ref 900 z))) hl2.symm))⟩,⟨_,rfl,(cob (n9 _ hil hs))⟩,⟨_,rfl,(CoR.refl _)⟩,⟨_,rfl,(CoR.of_eq (congrArg (fun z=>HR.v (.one (.win 900 z 0 _))) hl2.symm))⟩,c9,c9,c9,c9,c9,c9,trivial⟩,⟨⟨_,rfl,(nf hil hs rfl (fc _ _) (CoP.of_eq (congrArg (fun z=>PV.raw (.int .u32 z)) (fw _ _))))⟩,u9,trivial⟩⟩)
                 | (refine ⟨(i + 1,false), ?_, ?_, ?_⟩
                    · show i + 1 ≤ _;omega
                    · first | omega | (dsimp only;omega)
                    · exact ⟨⟨⟨_,rfl,(CoR.of_eq (congrArg (fun z=>HR.v (.one (.ref 951 z))) hl2.symm))⟩,⟨_,rfl,(cob (n9 _ hil hs))⟩,⟨_,rfl,(CoR.refl _)⟩,⟨_,rfl,(CoC.one (a6p hil))⟩,c9,c9,c9,c9,c9,c9,trivial⟩,⟨⟨_,rfl,(nf hil hs rfl (fc _ _) (CoP.of_eq (congrArg (fun z=>PV.raw (.int .u32 z)) (fw _ _))))⟩,u9,trivial⟩⟩)
                 | (refine ⟨(i + 1,true), ?_, ?_, ?_⟩
                    · show i + 1 ≤ _;omega
                    · first | omega | (dsimp only;omega)
                    · exact ⟨⟨⟨_,rfl,(bn (j9 hil hs))⟩,⟨_,rfl,(cob (vm _ hil hs))⟩,⟨_,rfl,(CoR.refl _)⟩,⟨_,rfl,(CoR.of_eq (congrArg (fun z=>HR.v (.one (.win 900 z 0 _))) (congrArg List.length (j9 hil hs)).symm))⟩,c9,c9,c9,c9,c9,c9,trivial⟩,⟨⟨_,rfl,(bo (j9 hil hs))⟩,u9,trivial⟩⟩)
          ·
           refine gy ?_;(iterate 5 refine qy ?_);refine m9 950 ?_;refine ra 951 true rfl rfl rfl rfl rfl rfl ?_;refine qy ?_;refine a6 ?_;refine gy ?_;refine qy ?_;refine a6 ?_;refine gy ?_
           (iterate 2 refine qy ?_);refine a6 ?_
           first | (refine ⟨(i + 1, true), ?_, ?_, ?_⟩
                    · show i + 1 ≤ _;omega
                    · first | omega | (dsimp only;omega)
                    · exact ⟨⟨⟨_,rfl,(CoR.of_eq (congrArg (fun z=>HR.v (.one (.ref 900 z))) hl2.symm))⟩,⟨_,rfl,(cob (n9 _ hil hs))⟩,⟨_,rfl,(CoR.refl _)⟩,⟨_,rfl,(CoR.of_eq (congrArg (fun z=>HR.v (.one (.win 900 z 0 _))) hl2.symm))⟩,c9,c9,c9,c9,c9,c9,trivial⟩,⟨⟨_,rfl,(nf hil hs rfl (fc _ _) (CoP.of_eq (congrArg (fun z=>PV.raw (.int .u32 z)) (fw _ _))))⟩,u9,trivial⟩⟩)
                 | (refine ⟨(i + 1,false), ?_, ?_, ?_⟩
                    · show i + 1 ≤ _;omega
                    · first | omega | (dsimp only;omega)
                    · exact ⟨⟨⟨_,rfl,(CoR.of_eq (congrArg (fun z=>HR.v (.one (.ref 951 z))) hl2.symm))⟩,⟨_,rfl,(cob (n9 _ hil hs))⟩,⟨_,rfl,(CoR.refl _)⟩,⟨_,rfl,(CoC.one (a6p hil))⟩,c9,c9,c9,c9,c9,c9,trivial⟩,⟨⟨_,rfl,(nf hil hs rfl (fc _ _) (CoP.of_eq (congrArg (fun z=>PV.raw (.int .u32 z)) (fw _ _))))⟩,u9,trivial⟩⟩)
                 | (refine ⟨(i + 1,true), ?_, ?_, ?_⟩
                    · show i + 1 ≤ _;omega
                    · first | omega | (dsimp only;omega)
                    · exact ⟨⟨⟨_,rfl,(bn (j9 hil hs))⟩,⟨_,rfl,(cob (vm _ hil hs))⟩,⟨_,rfl,(CoR.refl _)⟩,⟨_,rfl,(CoR.of_eq (congrArg (fun z=>HR.v (.one (.win 900 z 0 _))) (congrArg List.length (j9 hil hs)).symm))⟩,c9,c9,c9,c9,c9,c9,trivial⟩,⟨⟨_,rfl,(bo (j9 hil hs))⟩,u9,trivial⟩⟩)
         ·
          have h10:=r10
          have hs:c4 (ms.getD j default) ((bf (ms.take j) l).getD i default) = false:=r10
          refine aa ?_;refine gy ?_;(iterate 2 refine qy ?_);refine a6 ?_
          first | (refine ⟨(i + 1, true), ?_, ?_, ?_⟩
                   · show i + 1 ≤ _;omega
                   · first | omega | (dsimp only;omega)
                   · exact ⟨⟨⟨_,rfl,(CoR.of_eq (congrArg (fun z=>HR.v (.one (.ref 900 z))) hl2.symm))⟩,⟨_,rfl,(cob (n9 _ hil hs))⟩,⟨_,rfl,(CoR.refl _)⟩,⟨_,rfl,(CoR.of_eq (congrArg (fun z=>HR.v (.one (.win 900 z 0 _))) hl2.symm))⟩,c9,c9,c9,c9,c9,c9,trivial⟩,⟨⟨_,rfl,(nf hil hs rfl (fc _ _) (CoP.of_eq (congrArg (fun z=>PV.raw (.int .u32 z)) (fw _ _))))⟩,u9,trivial⟩⟩)
                | (refine ⟨(i + 1,false), ?_, ?_, ?_⟩
                   · show i + 1 ≤ _;omega
                   · first | omega | (dsimp only;omega)
                   · exact ⟨⟨⟨_,rfl,(CoR.of_eq (congrArg (fun z=>HR.v (.one (.ref 951 z))) hl2.symm))⟩,⟨_,rfl,(cob (n9 _ hil hs))⟩,⟨_,rfl,(CoR.refl _)⟩,⟨_,rfl,(CoC.one (a6p hil))⟩,c9,c9,c9,c9,c9,c9,trivial⟩,⟨⟨_,rfl,(nf hil hs rfl (fc _ _) (CoP.of_eq (congrArg (fun z=>PV.raw (.int .u32 z)) (fw _ _))))⟩,u9,trivial⟩⟩)
                | (refine ⟨(i + 1,true), ?_, ?_, ?_⟩
                   · show i + 1 ≤ _;omega
                   · first | omega | (dsimp only;omega)
                   · exact ⟨⟨⟨_,rfl,(bn (j9 hil hs))⟩,⟨_,rfl,(cob (vm _ hil hs))⟩,⟨_,rfl,(CoR.refl _)⟩,⟨_,rfl,(CoR.of_eq (congrArg (fun z=>HR.v (.one (.win 900 z 0 _))) (congrArg List.length (j9 hil hs)).symm))⟩,c9,c9,c9,c9,c9,c9,trivial⟩,⟨⟨_,rfl,(bo (j9 hil hs))⟩,u9,trivial⟩⟩)
      ·
       have h7:=of_decide_eq_false r7
       try simp only [ty] at h7
       obtain rfl:i = (bf (ms.take j) l).length:=by omega
       refine au ?_;refine gy ?_;(iterate 2 refine qy ?_);refine a6 ?_;refine ⟨j + 1, ?_, ?_, ?_⟩
       · show j + 1 ≤ _;omega
       · first | omega | (dsimp only;omega)
       · exact ⟨⟨⟨_,rfl,(bn (by rw [ul (by omega),se]))⟩,⟨_,rfl,(cob (by rw [a6i (by omega),List.take_length]))⟩,zy,c9,c9,c9,trivial⟩,⟨⟨_,rfl,(bo (by rw [ul (by omega),se]))⟩,trivial⟩⟩
    ·
     have h2:=of_decide_eq_false r2
     try simp only [ty] at h2
     obtain rfl:j = ms.length:=by omega
     rw [show ms.take ms.length = ms from List.take_length]
     refine au ?_;refine ⟨(f - 1,bf ms l,gp ms l), ?_, ?_, ?_⟩
     · exact hI2
     · exact ane hf
     · exact ⟨⟨zy,zy,c9,trivial⟩,⟨u9,trivial⟩⟩
   ·
    have h1:=r1
    obtain rfl:ag = false:=r1
    have hl:l = (blks ms (ah n &&& ~~~x)):=hI.f rfl
    subst hl
    refine au ?_;refine a7 ?_;refine c8 7 rfl rfl rfl ?_;refine gy ?_;refine qy ?_
    refine rc rfl rfl rfl rfl rfl rfl a10 (a1j (blks ms (ah n &&& ~~~x)) (Nat.le_trans (a2j hI.ok) (by decide))) (CoL.refl _) rfl rfl ?_;refine qy ?_;refine a6 ?_
    exact hx8 rfl rfl rfl (CoL.refl _)
end Go.Hx
end
section
namespace Go.Hx
theorem am4 {f:Fd} {k:Nat} (h:k < (bi f.rhs).length):(sgl f).getD k default = ⟨f.lhs,eu ((bi f.rhs).getD k default)⟩:=by
 unfold sgl
 simp [List.getD_eq_getElem?_getD,List.getElem?_eq_getElem h]
theorem a14 (f:Fd):(sgl f).length = (bi f.rhs).length:=by unfold sgl;rw [List.length_map]
theorem a9n {fs ms:List Fd} {i k:Nat} (h:k < (bi (fs.getD i default).rhs).length):gh fs ms i (k + 1) = gh fs ms i k ++ [⟨(fs.getD i default).lhs,eu ((bi (fs.getD i default).rhs).getD k default)⟩]:=by
 rw [aei (by rw [a14];exact h),am4 h]
theorem aa3 {fs ms:List Fd} {i:Nat} (h:i < fs.length):gh fs ms (i + 1) 0 = gh fs ms i (bi (fs.getD i default).rhs).length:=by rw [afu h,a14]
theorem apf {a b:AS} {k:Nat}:(a ||| b) >>> k = 0 ↔ a >>> k = 0 ∧ b >>> k = 0:=by
 rw [BitVec.ushiftRight_or_distrib]
 constructor
 · intro h
   refine ⟨ew fun i hi=>?_,ew fun i hi=>?_⟩ <;>
   · have:=congrArg (fun z:AS=>z.getLsbD i) h
     simp only [BitVec.getLsbD_or] at this
     cases h1:(a >>> k).getLsbD i <;> cases h2:(b >>> k).getLsbD i <;> simp_all
 · rintro ⟨h1,h2⟩
   rw [h1,h2]
   simp
theorem a9m {a b:AS} {k:Nat} (h:sub a b) (hb:b >>> k = 0):a >>> k = 0:=by
 apply ew
 intro i hi
 have:=congrArg (fun z:AS=>z.getLsbD i) hb
 simp only [BitVec.getLsbD_ushiftRight] at this ⊢
 cases ha:a.getLsbD (k + i) with
 | false=>simp
 | true=>rw [ar.1 h _ (oz ha) ha] at this;simp at this
def ow (b:AS) (f:Fd):Bool:=!decide ((f.rhs &&& ~~~f.lhs) &&& b = 0)
def my (l:List Fd) (o b:AS):AS:=if bsz b = 1 then (if l.any (ow b) = true then o ||| b else o) else o
def ly (l:List Fd) (o:AS) (bs:List AS):AS:=bs.foldl (my l) o
theorem vt {l:List Fd} {o:AS} {bs:List AS} {i:Nat} (h:i < bs.length):ly l o (bs.take (i + 1)) = my l (ly l o (bs.take i)) (bs.getD i default):=by
 unfold ly
 rw [b8 h,List.foldl_append]
 rfl
section
variable {l:List Fd} {o:AS} {bs:List AS} {i:Nat}
theorem a81 (h:i < bs.length) (hq:¬ bsz (bs.getD i default) = 1):ly l o (bs.take i) = ly l o (bs.take (i + 1)):=by rw [vt h,my,if_neg hq]
theorem a83 (h:i < bs.length) (hq:bsz (bs.getD i default) = 1) (ha:l.any (ow (bs.getD i default)) = false):ly l o (bs.take i) = ly l o (bs.take (i + 1)):=by rw [vt h,my,if_pos hq,if_neg (by rw [ha];decide)]
theorem a5e (h:i < bs.length) (hq:bsz (bs.getD i default) = 1) (ha:l.any (ow (bs.getD i default)) = true):ly l o (bs.take i) ||| bs.getD i default = ly l o (bs.take (i + 1)):=by rw [vt h,my,if_pos hq,if_pos ha]
end
def bp (n:Int) (l m:List Fd) (x:AS):List AS:=ord (blks (ep l m) (ah n &&& ~~~x))
def ai2 (n:Int) (l m:List Fd) (x:AS):List AS:=if ckB n l m x = 0 then bp n l m x else []
def je (n:Int) (l m:List Fd) (x:AS):AS:=ly l x (bp n l m x)
def aaq (n:Int) (l m:List Fd) (x:AS):AS:=if ckB n l m x = 0 then je n l m x else 0
theorem agh (ms:List Fd) (rest:AS):OkB (blks ms rest):=by
 have:∀ (f:Nat) (l:List AS),OkB l → OkB (nu ms f l):=by
  intro f
  induction f with
  | zero=>intro l h;exact h
  | succ f ih =>
   intro l h
   unfold nu
   split
   · exact ih _ (ym h)
   · exact ym h
 exact this _ _ (a44 rest)
theorem uj (n:Int) (l m:List Fd) (x:AS):(bp n l m x).length ≤ 4294967296:=Nat.le_trans (md _) (a2j (agh _ _))
def gd (p:AS) (bs:List AS):List AS:=(bs.filter fun b=>!decide (b &&& p = 0)).map fun b=>b &&& p
theorem nj {p:AS} {bs:List AS} {i:Nat} (h:i < bs.length) (hq:¬ bs.getD i default &&& p = 0):gd p (bs.take (i + 1)) = gd p (bs.take i) ++ [bs.getD i default &&& p]:=by
 unfold gd
 rw [b8 h,List.filter_append,List.map_append,List.filter_cons,if_pos (by rw [decide_eq_false hq];rfl)]
 rfl
theorem nn {p:AS} {bs:List AS} {i:Nat} (h:i < bs.length) (hq:bs.getD i default &&& p = 0):gd p (bs.take (i + 1)) = gd p (bs.take i):=by
 unfold gd
 rw [b8 h,List.filter_append,List.map_append,List.filter_cons,if_neg (by rw [decide_eq_true hq];decide)]
 simp
theorem a0w (p:AS) (bs:List AS):(gd p bs).length ≤ bs.length:=by
 unfold gd
 rw [List.length_map]
 exact List.length_filter_le _ _
def dx (n:Int) (l m:List Fd) (x p:AS):List AS:=ord (gd p (bp n l m x))
theorem yn (n:Int) (l m:List Fd) (x p:AS):(gd p (bp n l m x)).length ≤ 8589934592:=Nat.le_trans (a0w _ _) (Nat.le_trans (uj _ _ _ _) (by decide))
def ck4 (n:Int) (l m:List Fd) (s:AS):Int:=if n < 0 ∨ 8 < n then 7 else ckB n l m s
theorem alk {n:Int} {l m:List Fd} {s:AS} (h:n < 0 ∨ 8 < n):ck4 n l m s = 7:=if_pos h
theorem v2 {n:Int} {l m:List Fd} {s:AS} (h:¬ (n < 0 ∨ 8 < n)):ck4 n l m s = ckB n l m s:=if_neg h
theorem wc {n:Int} {l m:List Fd} {s:AS} (h:ck4 n l m s = 0):0 ≤ n ∧ n ≤ 8 ∧ ckB n l m s = 0:=by
 unfold ck4 at h
 split at h
 · cases h
 · exact ⟨by omega,by omega,h⟩
theorem a2n {n:Int} {l m:List Fd} {s t:AS} (h:ckB n l m s = 0) (ht:sub t s):ckB n l m t = 0:=yd (sn h).1 (a9m ht (sn h).2)
theorem xv {n:Int} {l m:List Fd} {s t:AS} (h:ck4 n l m s = 0) (ht:sub t s):ck4 n l m t = 0:=by
 obtain ⟨h1,h2,h3⟩:=wc h
 rw [v2 (by omega)]
 exact a2n h3 ht
def agt (n:Int) (l m:List Fd) (x p:AS):List AS:=if ck4 n l m (x ||| p) = 0 then dx n l m x p else []
def ud (n:Int) (l m:List Fd) (p x:AS):Option Fd:=if p &&& ~~~(je n l m x) = 0 then none else if 1 < (dx n l m x p).length then some ⟨x,(dx n l m x p).getD 0 default⟩ else none
def cw (n:Int) (l m:List Fd) (p:AS):Option Fd:=(bg p).findSome? (ud n l m p)
def a2k:Option Fd → Fd × Bool
 | some v=>(v,true)
 | none=>(⟨0,0⟩,false)
def tu (n:Int) (l m:List Fd) (p:AS):Fd × Bool:=if ck4 n l m p = 0 then a2k (cw n l m p) else (⟨0,0⟩,false)
theorem aoh {n:Int} {l m:List Fd} {p:AS} (h:¬ ck4 n l m p = 0):tu n l m p = (⟨0,0⟩,false):=if_neg h
theorem x7 {n:Int} {l m:List Fd} {p:AS} (h:ck4 n l m p = 0):tu n l m p = a2k (cw n l m p):=if_pos h
theorem ey {α β:Type} [Inhabited α] {f:α → Option β} {l:List α} {i:Nat} (h:i < l.length) (hn:(l.take i).findSome? f = none):(l.take (i + 1)).findSome? f = f (l.getD i default):=by
 rw [b8 h,List.findSome?_append,hn]
 simp only [List.findSome?_cons,List.findSome?_nil,Option.none_or]
 cases f (l.getD i default) <;> rfl
theorem ld {α β:Type} [Inhabited α] {f:α → Option β} {l:List α} {i:Nat} {v:β} (h:i < l.length) (hn:(l.take i).findSome? f = none) (hv:f (l.getD i default) = some v):l.findSome? f = some v:=by
 have h1:=ey h hn
 rw [hv] at h1
 rw [← List.take_append_drop (i + 1) l,List.findSome?_append,h1]
 rfl
theorem vg {s z:AS} (h:z ∈ bg s):sub z s:=by
 unfold bg at h
 split at h
 · cases h
 · exact a49.1 h
theorem it {α:Type} [Inhabited α] {l:List α} {i:Nat} (h:i < l.length):l.getD i default ∈ l:=by
 rw [List.getD_eq_getElem?_getD,List.getElem?_eq_getElem h]
 exact List.getElem_mem h
theorem a5g {n:Int} {l m:List Fd} {x p c:AS}:c ∈ dx n l m x p ↔ ∃ b ∈ blks (ep l m) (ah n &&& ~~~x),b &&& p ≠ 0 ∧ c = b &&& p:=by
 unfold dx gd bp
 rw [i6,List.mem_map]
 constructor
 · rintro ⟨b,hb,rfl⟩
   rw [List.mem_filter,i6] at hb
   exact ⟨b,hb.1,by simpa using hb.2,rfl⟩
 · rintro ⟨b,hb,h,rfl⟩
   exact ⟨b,List.mem_filter.2 ⟨i6.2 hb,by simpa using h⟩,rfl⟩
def abg (V:AS → Option Fd):Prop:=∀ p v,V p = some v → sub (v.lhs ||| v.rhs) p ∧ v.lhs ||| v.rhs ≠ p ∧ p &&& ~~~v.rhs ≠ p
theorem py (n:Int) (l m:List Fd):abg (cw n l m):=by
 intro p v h
 unfold cw at h
 obtain ⟨x,hx,hv⟩:=List.exists_of_findSome?_eq_some h
 have hxp:=vg hx
 unfold ud at hv
 split at hv
 · cases hv
 · split at hv
   · rename_i hlen
     cases hv
     have hbk:=(xj (ep l m) (ah n &&& ~~~x)).1
     have m0:=it (l:=dx n l m x p) (i:=0) (by omega)
     have m1:=it (l:=dx n l m x p) (i:=1) hlen
     have hnd:=w6 (gd p (bp n l m x))
     have hne:(dx n l m x p).getD 0 default ≠ (dx n l m x p).getD 1 default:=by
      intro e
      rw [List.getD_eq_getElem?_getD,List.getD_eq_getElem?_getD,List.getElem?_eq_getElem (show 0 < (dx n l m x p).length by omega),List.getElem?_eq_getElem hlen,Option.getD_some,Option.getD_some] at e
      have:=(List.getElem_inj (xs:=dx n l m x p) hnd).1 e
      omega
     generalize (dx n l m x p).getD 0 default = c0 at *
     generalize (dx n l m x p).getD 1 default = c1 at *
     obtain ⟨b0,hb0,hz0,rfl⟩:=a5g.1 m0
     obtain ⟨b1,hb1,hz1,rfl⟩:=a5g.1 m1
     dsimp only
     refine ⟨pn hxp l5,fun e=>?_,fun e=>?_⟩
     · obtain ⟨a,ha,h1,h2⟩:=qe hz1
       have h3:=congrArg (fun z:AS=>z.getLsbD a) e
       simp only [BitVec.getLsbD_or,BitVec.getLsbD_and,h2,Bool.and_true] at h3
       have hr:=ar.1 (hbk.sub hb1) a ha h1
       rw [bh ha,Bool.and_eq_true] at hr
       have hxa:x.getLsbD a = false:=by simpa using hr.2
       rw [hxa,Bool.false_or] at h3
       exact hne (by rw [hbk.one hb0 hb1 h3 h1])
     · obtain ⟨a,ha,h1,h2⟩:=qe hz0
       have h3:=congrArg (fun z:AS=>z.getLsbD a) e
       simp only [bh ha,BitVec.getLsbD_and,h1,h2] at h3
       simp at h3
   · cases hv
section
variable {V:AS → Option Fd}
def vF (V:AS → Option Fd) (s:AS):Fd:=(a2k (V s)).1
def vBo (V:AS → Option Fd) (s:AS):Bool:=(a2k (V s)).2
def mn (V:AS → Option Fd) (s:AS):AS:=(vF V s).lhs ||| (vF V s).rhs
def qg (V:AS → Option Fd) (s:AS):AS:=s &&& ~~~(vF V s).rhs
theorem a0q {s:AS} (h:vBo V s = true):V s = some (vF V s):=by
 unfold vBo at h
 unfold vF
 cases hv:V s with
 | none=>rw [hv] at h;cases h
 | some v=>rfl
def uc (V:AS → Option Fd):Nat → List AS → List AS → List AS
 | 0,_,out=>out
 | n + 1,todo,out =>
  if todo.length = 0 then out
  else if vBo V (todo.getD (todo.length - 1) default) = true then uc V n (todo.take (todo.length - 1) ++ [mn V (todo.getD (todo.length - 1) default),qg V (todo.getD (todo.length - 1) default)]) out
  else uc V n (todo.take (todo.length - 1)) (out ++ [todo.getD (todo.length - 1) default])
def ve (V:AS → Option Fd) (p0:AS) (x:Nat × List AS × List AS):Prop:=uc V x.1 x.2.1 x.2.2 = uc V 6562 [p0] [] ∧ jx x.2.1 < x.1 ∧ x.2.2.length + x.1 ≤ 6562
theorem ad8 {n:Int} (h8:n ≤ 8):ve V (ah n) (6562,[ah n],[]):=by
 refine ⟨rfl, ?_,Nat.le_refl _⟩
 show 3 ^ bsz (ah n) + 0 < 6562
 have h1:=aif (n:=n) (m:=8) h8 (by omega)
 have h2:3 ^ bsz (ah n) ≤ 3 ^ 8:=Nat.pow_le_pow_right (by omega) h1
 have h3:3 ^ 8 = 6561:=rfl
 omega
theorem ut {p0:AS} {x:Nat × List AS × List AS} (h:ve V p0 x):x.2.1.length < 6562 ∧ x.2.2.length ≤ 6562 ∧ 0 < x.1:=by
 have:=a6o x.2.1
 obtain ⟨h1,h2,h3⟩:=h
 omega
theorem ajq {p0:AS} {x:Nat × List AS × List AS} (h:ve V p0 x) (h0:x.2.1.length = 0):x.2.2 = uc V 6562 [p0] []:=by
 have hp:=(ut h).2.2
 obtain ⟨h1,h2,h3⟩:=h
 obtain ⟨m,hm⟩:∃ m,x.1 = m + 1:=⟨x.1 - 1,by omega⟩
 rw [hm] at h1
 unfold uc at h1
 rw [if_pos h0] at h1
 exact h1
theorem a4f (hV:abg V) {s:AS} (h:vBo V s = true):bsz (mn V s) < bsz s ∧ bsz (qg V s) < bsz s:=by
 obtain ⟨h1,h2,h3⟩:=hV s _ (a0q h)
 exact ⟨tl h1 h2,tl qq h3⟩
theorem af1 (hV:abg V) {p0:AS} {x:Nat × List AS × List AS} (h:ve V p0 x) (h0:0 < x.2.1.length) (hv:vBo V (x.2.1.getD (x.2.1.length - 1) default) = true) :
 ve V p0 (x.1 - 1,x.2.1.take (x.2.1.length - 1) ++ [mn V (x.2.1.getD (x.2.1.length - 1) default),qg V (x.2.1.getD (x.2.1.length - 1) default)],x.2.2):=by
 have hp:=(ut h).2.2
 obtain ⟨h1,h2,h3⟩:=h
 obtain ⟨m,hm⟩:∃ m,x.1 = m + 1:=⟨x.1 - 1,by omega⟩
 rw [hm] at h1
 unfold uc at h1
 rw [if_neg (by omega),if_pos hv] at h1
 refine ⟨by rw [hm];exact h1, ?_,by dsimp only;omega⟩
 have e:=zt (x.2.1.take (x.2.1.length - 1)) [x.2.1.getD (x.2.1.length - 1) default]
 rw [← a3q h0] at e
 have e1:jx [x.2.1.getD (x.2.1.length - 1) default] = 3 ^ bsz (x.2.1.getD (x.2.1.length - 1) default):=by simp [jx]
 generalize x.2.1.getD (x.2.1.length - 1) default = s at *
 dsimp only
 rw [zt]
 have e2:jx [mn V s,qg V s] = 3 ^ bsz (mn V s) + 3 ^ bsz (qg V s):=by simp [jx]
 obtain ⟨g1,g2⟩:=a4f hV hv
 obtain ⟨b,hb⟩:∃ b,bsz s = b + 1:=⟨bsz s - 1,by omega⟩
 have p1:3 ^ bsz (mn V s) ≤ 3 ^ b:=Nat.pow_le_pow_right (by omega) (by omega)
 have p2:3 ^ bsz (qg V s) ≤ 3 ^ b:=Nat.pow_le_pow_right (by omega) (by omega)
 have p3:3 ^ bsz s = 3 ^ b * 3:=by rw [hb,Nat.pow_succ]
 have p4:0 < 3 ^ b:=Nat.pow_pos (by omega)
 omega
theorem adt {p0:AS} {x:Nat × List AS × List AS} (h:ve V p0 x) (h0:0 < x.2.1.length) (hv:vBo V (x.2.1.getD (x.2.1.length - 1) default) = false) :
 ve V p0 (x.1 - 1,x.2.1.take (x.2.1.length - 1),x.2.2 ++ [x.2.1.getD (x.2.1.length - 1) default]):=by
 have hp:=(ut h).2.2
 obtain ⟨h1,h2,h3⟩:=h
 obtain ⟨m,hm⟩:∃ m,x.1 = m + 1:=⟨x.1 - 1,by omega⟩
 rw [hm] at h1
 unfold uc at h1
 rw [if_neg (by omega),if_neg (by rw [hv];decide)] at h1
 refine ⟨by rw [hm];exact h1, ?_,by dsimp only;rw [List.length_append,List.length_singleton];omega⟩
 have e:=zt (x.2.1.take (x.2.1.length - 1)) [x.2.1.getD (x.2.1.length - 1) default]
 rw [← a3q h0] at e
 have e1:jx [x.2.1.getD (x.2.1.length - 1) default] = 3 ^ bsz (x.2.1.getD (x.2.1.length - 1) default):=by simp [jx]
 have p4:0 < 3 ^ bsz (x.2.1.getD (x.2.1.length - 1) default):=Nat.pow_pos (by omega)
 dsimp only
 omega
def lvG (V:AS → Option Fd):Nat → AS → List AS
 | 0,s=>[s]
 | n + 1,s=>if vBo V s = true then lvG V n (mn V s) ++ lvG V n (qg V s) else [s]
end
def apg (n:Int) (l m:List Fd):List AS:=uc (cw n l m) 6562 [ah n] []
def a7v (n:Int) (l m:List Fd):List AS:=if ck4 n l m 0 = 0 then a05 (apg n l m) else []
theorem aq1 {n:Int} {l m:List Fd} (h:ck4 n l m 0 = 0):a7v n l m = a05 (apg n l m):=if_pos h
theorem aph {n:Int} {l m:List Fd} (h:¬ ck4 n l m 0 = 0):a7v n l m = []:=if_neg h
end Go.Hx
end

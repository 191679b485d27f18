/- A part of the proof: Y1 Bz4. -/
import Derived.Test.YtidophngianjiaaGreatDoorBx19
import Derived.Test.YtidophngianjiaaGreatDoorBx32
set_option linter.all false
section
namespace Go.Hx
open Go.Proofs
set_option maxRecDepth 100000
set_option maxHeartbeats 1000000
theorem p7 {a b:AS} (h:d4 .and .u32 (asI a) (asI b) = 0):a &&& b = 0:=ep.1 ((i6 a b).symm.trans h)
theorem md {a b:AS} (h:¬ d4 .and .u32 (asI a) (asI b) = 0):¬ a &&& b = 0:=fun e=>h ((i6 a b).trans (congrArg asI e))
theorem aiy {a b:AS} (h:d4 .andNot .u32 (asI a) (asI b) = 0):a &&& ~~~b = 0:=ep.1 ((i7 a b).symm.trans h)
theorem acx {a b:AS} (h:¬ d4 .andNot .u32 (asI a) (asI b) = 0):¬ a &&& ~~~b = 0:=fun e=>h ((i7 a b).trans (congrArg asI e))
theorem a1s {m:Fd} {x:AS} (h:¬ x &&& m.lhs = 0):dc m x = false:=by unfold dc;rw [decide_eq_false h];rfl
theorem a2r {m:Fd} {x:AS} (h:x &&& m.rhs = 0):dc m x = false:=by simp [dc,h]
theorem adp (a b:AS):decide (d4 .and .u32 (asI a) (asI b) = 0) = decide (a &&& b = 0):=by
 by_cases h:d4 .and .u32 (asI a) (asI b) = 0
 · rw [decide_eq_true h,decide_eq_true (p7 h)]
 · rw [decide_eq_false h,decide_eq_false (md h)]
theorem azw (a b:AS):decide (d4 .andNot .u32 (asI a) (asI b) = 0) = decide (a &&& ~~~b = 0):=by
 by_cases h:d4 .andNot .u32 (asI a) (asI b) = 0
 · rw [decide_eq_true h,decide_eq_true (aiy h)]
 · rw [decide_eq_false h,decide_eq_false (acx h)]
theorem a1n (m:Fd) (x:AS):(bif (bif decide (d4 .and .u32 (asI x) (asI m.lhs) = 0) then !decide (d4 .and .u32 (asI x) (asI m.rhs) = 0) else false) then !decide (d4 .andNot .u32 (asI x) (asI m.rhs) = 0) else false) = dc m x:=by
 rw [adp,adp,azw]
 unfold dc
 by_cases h1:x &&& m.lhs = 0 <;> by_cases h2:x &&& m.rhs = 0 <;> by_cases h3:x &&& ~~~m.rhs = 0 <;> simp only [h1,h2,h3,decide_true,decide_false,ne_eq,not_true_eq_false,not_false_eq_true,Bool.not_true,Bool.not_false,cond_true,cond_false,Bool.and_self,Bool.and_true,Bool.true_and,Bool.and_false,Bool.false_and]
theorem sd {m:Fd} {l:List AS} {i:Nat} (c:Bool) (h:i < l.length) (hs:dc m (l.getD i default) = true):true = (c || (l.take (i + 1)).any (dc m)):=by
 rw [be h,List.any_append];simp only [List.any_cons,List.any_nil,hs,Bool.or_true,Bool.or_false]
theorem a0r {m:Fd} {l:List AS} {i:Nat} (c:Bool) (h:i < l.length) (hs:dc m (l.getD i default) = false):(c || (l.take i).any (dc m)) = (c || (l.take (i + 1)).any (dc m)):=by
 rw [be h,List.any_append];simp only [List.any_cons,List.any_nil,hs,Bool.or_true,Bool.or_false]
def aig (x:Nat × List AS × Bool):Nat:=x.1 + (bif x.2.2 then 1 else 0)
theorem aw2 {f:Nat} {l l':List AS} {c:Bool} (h:0 < f):aig (f - 1,l',c) < aig (f,l,true):=by
 cases c <;> simp only [aig,cond_true,cond_false] <;> omega
theorem ahs:goodFn Tryz.prog 108:=⟨Tryz.f108,Tryz.func108,by kernel_rfl,by kernel_rfl⟩
theorem agt (n:Int) (ms:List Fd) (x:AS) (h0:0 ≤ n) (h1:n ≤ 16):ai Tryz.prog 108 [pI n,pP (fdl ms),pA x] (ao [pP (asl (ord (blks ms (af n &&& ~~~x))))]):=by
 refine ah (nt:=76) ae Tryz.func108 rfl rfl l9 ?_
 refine d9 1 rfl fun hn=>?_
 have hrest:d4 .andNot .u32 (IntKind.wrap .u32 (1 * 2 ^ (min n.toNat 32)) - 1) (asI x) = asI (af n &&& ~~~x):=by rw [tu h0 h1,i7]
 refine sx7 ?_;refine qy ?_;refine a6 ?_;refine sx7 ?_;refine qy ?_;refine a6 ?_
 refine db 7 900 true 1 38 (lf sC []) (by decide) rfl (CoP.sl rfl (.inr rfl) (fun h=>h) (fun i j hi _=>absurd hi (Nat.not_lt_zero i))) (.inr rfl) rfl ?_
 refine dm (ι:=Unit) ⟨[(1,some _)],[]⟩ ⟨⟨c9,trivial⟩,trivial⟩ (fun _i=>⟨[(7,some (.v (.one (.ref 900 (im (af n &&& ~~~x)).length))))],[(900,some (.arr true 1 38 (im (af n &&& ~~~x)).length (lf sC (im (af n &&& ~~~x)))))]⟩) (fun _i=>True) ?_ ?_
 ·
  refine sx7 ?_;(iterate 2 refine qy ?_);refine rq rfl rfl rfl rfl rfl ?_ (hp:=⟨a4c h0 h1,a0c h0 h1⟩);(iterate 3 refine qy ?_);refine a6 ?_;refine sx7 ?_;(iterate 2 refine qy ?_);refine a6 ?_
  refine a8 _ rfl (fun r0=>?_) (fun r0=>?_)
  ·
   have h0:=r0
   have h0:=of_decide_eq_false (av h0)
   try simp only [ty] at h0
   have hne:¬ (af n &&& ~~~x) = 0:=fun e=>h0 (hrest.trans (congrArg asI e))
   refine gy ?_;(iterate 2 refine qy ?_);refine m9 0 ?_;refine ra 1 true rfl rfl rfl rfl rfl rfl ?_;refine qy ?_;refine a6 ?_;refine ⟨(), ?_, ?_⟩
   · trivial
   · exact ⟨⟨⟨_,rfl,(by first | exact d7 (a2c hne) | exact ci (a2q hz))⟩,c9,trivial⟩,⟨⟨_,rfl,(by first | exact cw (a2c hne) (CoP.of_eq (congrArg (fun z=>PV.raw (.int .u32 z)) hrest)) | exact c6 (a2q hz))⟩,trivial⟩⟩
  ·
   have h0:=r0
   have h0:=of_decide_eq_true (aw h0)
   try simp only [ty] at h0
   have hz:(af n &&& ~~~x) = 0:=ep.1 (hrest.symm.trans h0)
   refine aa ?_;refine ⟨(), ?_, ?_⟩
   · trivial
   · exact ⟨⟨⟨_,rfl,(by first | exact d7 (a2c hne) | exact ci (a2q hz))⟩,c9,trivial⟩,⟨⟨_,rfl,(by first | exact cw (a2c hne) (CoP.of_eq (congrArg (fun z=>PV.raw (.int .u32 z)) hrest)) | exact c6 (a2q hz))⟩,trivial⟩⟩
 · rintro _ _
   refine a7 ?_;refine sx7 ?_;refine qy ?_;refine a6 ?_;refine ab ?_
   refine aj (ι:=(Nat × List AS × Bool)) ⟨[(1,some _)],[]⟩ ⟨⟨c9,trivial⟩,trivial⟩ (fun y=>⟨[(7,some (.v (.one (.ref 900 y.2.1.length)))),(9,some (vB y.2.2))],[(900,some (.arr true 1 38 y.2.1.length (lf sC y.2.1)))]⟩) (fun y=>BkI ms (blks ms (af n &&& ~~~x)) y) (fun y=>aig y) ((18446744073709551616,im (af n &&& ~~~x),true)) (aqq ms (af n &&& ~~~x)) ⟨⟨zy,zy,trivial⟩,⟨u9,trivial⟩⟩ ?_
   rintro ⟨f,l,ag⟩ hI
   refine a7 ?_;refine sx7 ?_;refine qy ?_;refine a6 ?_;refine a8 _ rfl (fun r1=>?_) (fun r1=>?_)
   ·
    have h1:=r1
    obtain rfl:ag = true:=r1
    obtain ⟨hI2,hf⟩:=aux hI
    have hok:=hI.ok
    refine aa ?_;refine ab ?_;refine sx7 ?_;refine qy ?_;refine a6 ?_;refine sx7 ?_;(iterate 3 refine qy ?_);refine a6 ?_;refine ab ?_
    refine aj (ι:=Nat) ⟨[(1,some _),(26,some _),(27,some _)],[]⟩ ⟨⟨c9,c9,c9,trivial⟩,trivial⟩ (fun j=>⟨[(7,some (.v (.one (.ref 900 (c7 (ms.take j) l).length)))),(9,some (vB (jo (ms.take j) l))),(28,some (vI j))],[(900,some (.arr true 1 38 (c7 (ms.take j) l).length (lf sC (c7 (ms.take j) l))))]⟩) (fun j=>j ≤ ms.length) (fun j=>ms.length - j) (0) (Nat.zero_le _) ⟨⟨zy,⟨_,rfl,(CoR.refl _)⟩,zy,trivial⟩,⟨u9,trivial⟩⟩ ?_
    rintro j hj
    have hokj:OkB (c7 (ms.take j) l):=a26 hok
    have hlj:=a8q (amc (m:=(ms.getD j default)) hokj)
    refine sx7 ?_;refine qy ?_;refine a6 ?_;refine a7 ?_;refine a8 _ rfl (fun r2=>?_) (fun r2=>?_)
    ·
     have h2:=of_decide_eq_true r2
     try simp only [ty] at h2
     refine aa ?_;refine a7 ?_;refine ab ?_;refine sx7 ?_;(iterate 2 refine qy ?_);refine m9 2 ?_;refine s9 ?_;refine a6 ?_;refine sx7 ?_;(iterate 3 refine qy ?_);refine a6 ?_;refine ab ?_
     refine aou 32 rfl rfl rfl ?_
     refine aj (ι:=(Nat × Bool)) ⟨[(1,some _),(11,some _),(26,some _),(27,some _),(28,some _),(33,some _)],[(2,some _)]⟩ ⟨⟨c9,c9,c9,c9,c9,c9,trivial⟩,⟨u9,trivial⟩⟩ (fun y=>⟨[(7,some (.v (.one (.ref (bif y.2 then 900 else 951) (stB (ms.getD j default) (c7 (ms.take j) l) y.1).length)))),(9,some (vB (jo (ms.take j) l || ((c7 (ms.take j) l).take y.1).any (dc (ms.getD j default))))),(34,some (vI y.1)),(32,some (bif y.2 then .v (.one (.win 900 (stB (ms.getD j default) (c7 (ms.take j) l) y.1).length 0 (c7 (ms.take j) l).length)) else bt (.sl (c7 (ms.take j) l).length 1 false (a0k (c7 (ms.take j) l) y.1))))],[(bif y.2 then 900 else 951,some (.arr true 1 38 (stB (ms.getD j default) (c7 (ms.take j) l) y.1).length (lf sC (stB (ms.getD j default) (c7 (ms.take j) l) y.1))))]⟩) (fun y=>y.1 ≤ (c7 (ms.take j) l).length) (fun y=>(c7 (ms.take j) l).length - y.1) ((0,true)) (Nat.zero_le _) ⟨⟨⟨_,rfl,(ci (a4b _ _))⟩,⟨_,rfl,(cob (by simp))⟩,⟨_,rfl,(CoR.refl _)⟩,⟨_,rfl,(CoR.of_eq (by rw [a4b];rfl))⟩,trivial⟩,⟨⟨_,rfl,(c6 (a4b _ _))⟩,trivial⟩⟩ ?_
     rintro ⟨i,b⟩ hi
     have hi:i ≤ (c7 (ms.take j) l).length:=hi
     have hsl:=b0x (ms.getD j default) (c7 (ms.take j) l) i
     have hsl2:=agu (ms.getD j default) (c7 (ms.take j) l) i
     rcases b with _ | _
     ·
      show HW _ _ _ ⟨_ :: _,_⟩ _
      refine sx7 ?_;refine qy ?_;refine a6 ?_;refine a7 ?_;refine a8 _ rfl (fun r3=>?_) (fun r3=>?_)
      ·
       have h3:=of_decide_eq_true r3
       try simp only [ty] at h3
       have hil:i < (c7 (ms.take j) l).length:=by omega
       refine aa ?_;refine a7 ?_;refine ab ?_;refine sx7 ?_;(iterate 2 refine qy ?_)
       refine rq (out:=⟨_, .v (.one (.p (asC ((c7 (ms.take j) l).getD i default))))⟩) rfl rfl rfl (congrArg (fun z=>some (Out.mk _ (HR.v (HC.one (HV.p z))))) (au6 (c7 (ms.take j) l) i)) rfl ?_
       (iterate 2 refine qy ?_);refine a6 ?_
       refine dm (ι:=Unit) ⟨[(1,some _),(7,some _),(9,some _),(11,some _),(12,some _),(13,some _),(26,some _),(27,some _),(28,some _),(32,some _),(33,some _),(34,some _)],[(2,some _)]⟩ ⟨⟨c9,c9,c9,c9,c9,c9,c9,c9,c9,c9,c9,c9,trivial⟩,⟨u9,trivial⟩⟩ (fun _i=>⟨[(57,some (vB (dc (ms.getD j default) ((c7 (ms.take j) l).getD i default))))],[(951,some (.arr true 1 38 (stB (ms.getD j default) (c7 (ms.take j) l) i).length (lf sC (stB (ms.getD j default) (c7 (ms.take j) l) i))))]⟩) (fun _i=>True) ?_ ?_
       ·
        refine gy ?_;(iterate 6 refine qy ?_);refine b4 rfl rfl (fun r4=>?_) (fun r4=>?_)
        ·
         have h4:=of_decide_eq_true r4
         try simp only [ty] at h4
         have g1:((c7 (ms.take j) l).getD i default) &&& (ms.getD j default).lhs = 0:=p7 h4
         (iterate 5 refine qy ?_ (hg:=(gtt r4)));(iterate 2 refine qy ?_);refine b4 rfl rfl (fun r5=>?_) (fun r5=>?_)
         ·
          have h5:=r5
          have h5:=df r4 h5
          have h5:=of_decide_eq_false (av h5)
          try simp only [ty] at h5
          have g2:¬ ((c7 (ms.take j) l).getD i default) &&& (ms.getD j default).rhs = 0:=md h5
          (iterate 5 refine qy ?_ (hg:=(gtt r5)));refine qy ?_;refine a6 ?_;refine ⟨(), ?_, ?_⟩
          · trivial
          · exact ⟨⟨⟨_,rfl,(cob (by first | exact a1n _ _ | exact (a1s g1).symm | exact (a2r g2).symm))⟩,c9,c9,c9,c9,c9,c9,c9,c9,c9,c9,c9,c9,trivial⟩,⟨u9,u9,trivial⟩⟩
         ·
          have h5:=r5
          have h5:=df r4 h5
          have h5:=of_decide_eq_true (aw h5)
          try simp only [ty] at h5
          have g2:((c7 (ms.take j) l).getD i default) &&& (ms.getD j default).rhs = 0:=p7 h5
          (iterate 5 refine k9 (gft r5) ?_);refine rq rfl rfl rfl rfl rfl ?_ (hp:=r5);refine a6 ?_;refine ⟨(), ?_, ?_⟩
          · trivial
          · exact ⟨⟨⟨_,rfl,(cob (by first | exact a1n _ _ | exact (a1s g1).symm | exact (a2r g2).symm))⟩,c9,c9,c9,c9,c9,c9,c9,c9,c9,c9,c9,c9,trivial⟩,⟨u9,u9,trivial⟩⟩
        ·
         have h4:=of_decide_eq_false r4
         try simp only [ty] at h4
         have g1:¬ ((c7 (ms.take j) l).getD i default) &&& (ms.getD j default).lhs = 0:=md h4
         (iterate 5 refine k9 (gft r4) ?_);refine rq rfl rfl rfl rfl rfl ?_ (hp:=r4);refine qy ?_;(iterate 5 refine k9 rfl ?_);refine qy ?_;refine a6 ?_;refine ⟨(), ?_, ?_⟩
         · trivial
         · exact ⟨⟨⟨_,rfl,(cob (by first | exact a1n _ _ | exact (a1s g1).symm | exact (a2r g2).symm))⟩,c9,c9,c9,c9,c9,c9,c9,c9,c9,c9,c9,c9,trivial⟩,⟨u9,u9,trivial⟩⟩
       · rintro _ _
         refine a8 _ rfl (fun r6=>?_) (fun r6=>?_)
         ·
          have h6:=r6
          have hs:dc (ms.getD j default) ((c7 (ms.take j) l).getD i default) = true:=r6
          have hl2:(stB (ms.getD j default) (c7 (ms.take j) l) (i + 1)).length = (stB (ms.getD j default) (c7 (ms.take j) l) i).length + 1:=by rw [aav hil hs,List.length_append,List.length_set];rfl
          refine sx7 ?_;(iterate 7 refine qy ?_);refine s9 ?_;refine a6 ?_;refine sx7 ?_;(iterate 5 refine qy ?_);refine m9 3 ?_;refine ra 4 true rfl rfl rfl rfl rfl rfl ?_;refine qy ?_;refine a6 ?_
          refine gy ?_;refine qy ?_;refine a6 ?_;refine gy ?_;(iterate 2 refine qy ?_);refine a6 ?_
          first | (refine ⟨(i + 1, false), ?_, ?_, ?_⟩
                   · show i + 1 ≤ _;omega
                   · first | omega | (dsimp only;omega)
                   · exact ⟨⟨⟨_,rfl,(CoR.of_eq (congrArg (fun z=>HR.v (.one (.ref 951 z))) hl2.symm))⟩,⟨_,rfl,(cob (sd _ hil hs))⟩,⟨_,rfl,(CoR.refl _)⟩,⟨_,rfl,(CoC.one (a2i rfl))⟩,c9,c9,c9,c9,c9,c9,trivial⟩,⟨⟨_,rfl,(rt hil hs rfl (i6 _ _) (CoP.of_eq (congrArg (fun z=>PV.raw (.int .u32 z)) (i7 _ _))))⟩,u9,trivial⟩⟩)
                | (refine ⟨(i + 1,false), ?_, ?_, ?_⟩
                   · show i + 1 ≤ _;omega
                   · first | omega | (dsimp only;omega)
                   · exact ⟨⟨⟨_,rfl,(ci (ln hil hs))⟩,⟨_,rfl,(cob (a0r _ hil hs))⟩,⟨_,rfl,(CoR.refl _)⟩,⟨_,rfl,(CoC.one (a2i rfl))⟩,c9,c9,c9,c9,c9,c9,trivial⟩,⟨⟨_,rfl,(c6 (ln hil hs))⟩,u9,trivial⟩⟩)
         ·
          have h6:=r6
          have hs:dc (ms.getD j default) ((c7 (ms.take j) l).getD i default) = false:=r6
          refine aa ?_;refine gy ?_;(iterate 2 refine qy ?_);refine a6 ?_
          first | (refine ⟨(i + 1, false), ?_, ?_, ?_⟩
                   · show i + 1 ≤ _;omega
                   · first | omega | (dsimp only;omega)
                   · exact ⟨⟨⟨_,rfl,(CoR.of_eq (congrArg (fun z=>HR.v (.one (.ref 951 z))) hl2.symm))⟩,⟨_,rfl,(cob (sd _ hil hs))⟩,⟨_,rfl,(CoR.refl _)⟩,⟨_,rfl,(CoC.one (a2i rfl))⟩,c9,c9,c9,c9,c9,c9,trivial⟩,⟨⟨_,rfl,(rt hil hs rfl (i6 _ _) (CoP.of_eq (congrArg (fun z=>PV.raw (.int .u32 z)) (i7 _ _))))⟩,u9,trivial⟩⟩)
                | (refine ⟨(i + 1,false), ?_, ?_, ?_⟩
                   · show i + 1 ≤ _;omega
                   · first | omega | (dsimp only;omega)
                   · exact ⟨⟨⟨_,rfl,(ci (ln hil hs))⟩,⟨_,rfl,(cob (a0r _ hil hs))⟩,⟨_,rfl,(CoR.refl _)⟩,⟨_,rfl,(CoC.one (a2i rfl))⟩,c9,c9,c9,c9,c9,c9,trivial⟩,⟨⟨_,rfl,(c6 (ln hil hs))⟩,u9,trivial⟩⟩)
      ·
       have h3:=of_decide_eq_false r3
       try simp only [ty] at h3
       obtain rfl:i = (c7 (ms.take j) l).length:=by omega
       refine rr 7 900 rfl rfl rfl rfl ?_;refine ak ?_;refine gy ?_;(iterate 2 refine qy ?_);refine a6 ?_;refine ⟨j + 1, ?_, ?_, ?_⟩
       · show j + 1 ≤ _;omega
       · first | omega | (dsimp only;omega)
       · exact ⟨⟨⟨_,rfl,(ci (by rw [zq (by omega),y9]))⟩,⟨_,rfl,(cob (by rw [aef (by omega),List.take_length]))⟩,zy,c9,c9,c9,trivial⟩,⟨⟨_,rfl,(c6 (by rw [zq (by omega),y9]))⟩,trivial⟩⟩
     ·
      show HW _ _ _ ⟨_ :: _,_⟩ _
      refine sx7 ?_;refine qy ?_;refine a6 ?_;refine a7 ?_;refine a8 _ rfl (fun r7=>?_) (fun r7=>?_)
      ·
       have h7:=of_decide_eq_true r7
       try simp only [ty] at h7
       have hil:i < (c7 (ms.take j) l).length:=by omega
       refine aa ?_;refine a7 ?_;refine ab ?_;refine sx7 ?_;(iterate 2 refine qy ?_)
       refine rq (out:=⟨_, .v (.one (.p (asC ((c7 (ms.take j) l).getD i default))))⟩) rfl rfl rfl (congrArg (fun z=>some (Out.mk _ (HR.v (HC.one (HV.p z))))) ((show lf sC (stB (ms.getD j default) (c7 (ms.take j) l) i) (0 + i) 0 = _ by rw [Nat.zero_add];exact congrArg asC (atz hil)))) rfl ?_
       (iterate 2 refine qy ?_);refine a6 ?_
       refine dm (ι:=Unit) ⟨[(1,some _),(7,some _),(9,some _),(11,some _),(12,some _),(13,some _),(26,some _),(27,some _),(28,some _),(32,some _),(33,some _),(34,some _)],[(2,some _)]⟩ ⟨⟨c9,c9,c9,c9,c9,c9,c9,c9,c9,c9,c9,c9,trivial⟩,⟨u9,trivial⟩⟩ (fun _i=>⟨[(57,some (vB (dc (ms.getD j default) ((c7 (ms.take j) l).getD i default))))],[(900,some (.arr true 1 38 (stB (ms.getD j default) (c7 (ms.take j) l) i).length (lf sC (stB (ms.getD j default) (c7 (ms.take j) l) i))))]⟩) (fun _i=>True) ?_ ?_
       ·
        refine gy ?_;(iterate 6 refine qy ?_);refine b4 rfl rfl (fun r8=>?_) (fun r8=>?_)
        ·
         have h8:=of_decide_eq_true r8
         try simp only [ty] at h8
         have g1:((c7 (ms.take j) l).getD i default) &&& (ms.getD j default).lhs = 0:=p7 h8
         (iterate 5 refine qy ?_ (hg:=(gtt r8)));(iterate 2 refine qy ?_);refine b4 rfl rfl (fun r9=>?_) (fun r9=>?_)
         ·
          have h9:=r9
          have h9:=df r8 h9
          have h9:=of_decide_eq_false (av h9)
          try simp only [ty] at h9
          have g2:¬ ((c7 (ms.take j) l).getD i default) &&& (ms.getD j default).rhs = 0:=md h9
          (iterate 5 refine qy ?_ (hg:=(gtt r9)));refine qy ?_;refine a6 ?_;refine ⟨(), ?_, ?_⟩
          · trivial
          · exact ⟨⟨⟨_,rfl,(cob (by first | exact a1n _ _ | exact (a1s g1).symm | exact (a2r g2).symm))⟩,c9,c9,c9,c9,c9,c9,c9,c9,c9,c9,c9,c9,trivial⟩,⟨u9,u9,trivial⟩⟩
         ·
          have h9:=r9
          have h9:=df r8 h9
          have h9:=of_decide_eq_true (aw h9)
          try simp only [ty] at h9
          have g2:((c7 (ms.take j) l).getD i default) &&& (ms.getD j default).rhs = 0:=p7 h9
          (iterate 5 refine k9 (gft r9) ?_);refine rq rfl rfl rfl rfl rfl ?_ (hp:=r9);refine a6 ?_;refine ⟨(), ?_, ?_⟩
          · trivial
          · exact ⟨⟨⟨_,rfl,(cob (by first | exact a1n _ _ | exact (a1s g1).symm | exact (a2r g2).symm))⟩,c9,c9,c9,c9,c9,c9,c9,c9,c9,c9,c9,c9,trivial⟩,⟨u9,u9,trivial⟩⟩
        ·
         have h8:=of_decide_eq_false r8
         try simp only [ty] at h8
         have g1:¬ ((c7 (ms.take j) l).getD i default) &&& (ms.getD j default).lhs = 0:=md h8
         (iterate 5 refine k9 (gft r8) ?_);refine rq rfl rfl rfl rfl rfl ?_ (hp:=r8);refine qy ?_;(iterate 5 refine k9 rfl ?_);refine qy ?_;refine a6 ?_;refine ⟨(), ?_, ?_⟩
         · trivial
         · exact ⟨⟨⟨_,rfl,(cob (by first | exact a1n _ _ | exact (a1s g1).symm | exact (a2r g2).symm))⟩,c9,c9,c9,c9,c9,c9,c9,c9,c9,c9,c9,c9,trivial⟩,⟨u9,u9,trivial⟩⟩
       · rintro _ _
         refine a8 _ rfl (fun r10=>?_) (fun r10=>?_)
         ·
          have h10:=r10
          have hs:dc (ms.getD j default) ((c7 (ms.take j) l).getD i default) = true:=r10
          have hl2:(stB (ms.getD j default) (c7 (ms.take j) l) (i + 1)).length = (stB (ms.getD j default) (c7 (ms.take j) l) i).length + 1:=by rw [aav hil hs,List.length_append,List.length_set];rfl
          refine sx7 ?_;(iterate 7 refine qy ?_);refine s9 ?_;refine a6 ?_;refine a7 ?_;refine auy 7 32 rfl rfl rfl rfl rfl rfl (fun ad cap hcap=>?_) ?_
          ·
           refine gy ?_;(iterate 5 refine qy ?_);refine m9 5 ?_;refine ra 6 true rfl rfl rfl rfl rfl rfl ?_;refine qy ?_;refine a6 ?_;refine ar3 7 32 rfl rfl rfl rfl (by dsimp only at *;omega) rfl ?_
           refine gy ?_;refine qy ?_;refine a6 ?_;refine gy ?_;(iterate 2 refine qy ?_);refine a6 ?_
           first | (refine ⟨(i + 1, true), ?_, ?_, ?_⟩
                    · show i + 1 ≤ _;omega
                    · first | omega | (dsimp only;omega)
                    · exact ⟨⟨⟨_,rfl,(CoR.of_eq (congrArg (fun z=>HR.v (.one (.ref 900 z))) hl2.symm))⟩,⟨_,rfl,(cob (sd _ hil hs))⟩,⟨_,rfl,(CoR.refl _)⟩,⟨_,rfl,(CoR.of_eq (congrArg (fun z=>HR.v (.one (.win 900 z 0 _))) hl2.symm))⟩,c9,c9,c9,c9,c9,c9,trivial⟩,⟨⟨_,rfl,(rt hil hs rfl (i6 _ _) (CoP.of_eq (congrArg (fun z=>PV.raw (.int .u32 z)) (i7 _ _))))⟩,u9,trivial⟩⟩)
                 | (refine ⟨(i + 1,false), ?_, ?_, ?_⟩
                    · show i + 1 ≤ _;omega
                    · first | omega | (dsimp only;omega)
                    · exact ⟨⟨⟨_,rfl,(CoR.of_eq (congrArg (fun z=>HR.v (.one (.ref 951 z))) hl2.symm))⟩,⟨_,rfl,(cob (sd _ hil hs))⟩,⟨_,rfl,(CoR.refl _)⟩,⟨_,rfl,(CoC.one (aed hil))⟩,c9,c9,c9,c9,c9,c9,trivial⟩,⟨⟨_,rfl,(rt hil hs rfl (i6 _ _) (CoP.of_eq (congrArg (fun z=>PV.raw (.int .u32 z)) (i7 _ _))))⟩,u9,trivial⟩⟩)
                 | (refine ⟨(i + 1,true), ?_, ?_, ?_⟩
                    · show i + 1 ≤ _;omega
                    · first | omega | (dsimp only;omega)
                    · exact ⟨⟨⟨_,rfl,(ci (ln hil hs))⟩,⟨_,rfl,(cob (a0r _ hil hs))⟩,⟨_,rfl,(CoR.refl _)⟩,⟨_,rfl,(CoR.of_eq (congrArg (fun z=>HR.v (.one (.win 900 z 0 _))) (congrArg List.length (ln hil hs)).symm))⟩,c9,c9,c9,c9,c9,c9,trivial⟩,⟨⟨_,rfl,(c6 (ln hil hs))⟩,u9,trivial⟩⟩)
          ·
           refine gy ?_;(iterate 5 refine qy ?_);refine m9 950 ?_;refine ra 951 true rfl rfl rfl rfl rfl rfl ?_;refine qy ?_;refine a6 ?_;refine gy ?_;refine qy ?_;refine a6 ?_;refine gy ?_
           (iterate 2 refine qy ?_);refine a6 ?_
           first | (refine ⟨(i + 1, true), ?_, ?_, ?_⟩
                    · show i + 1 ≤ _;omega
                    · first | omega | (dsimp only;omega)
                    · exact ⟨⟨⟨_,rfl,(CoR.of_eq (congrArg (fun z=>HR.v (.one (.ref 900 z))) hl2.symm))⟩,⟨_,rfl,(cob (sd _ hil hs))⟩,⟨_,rfl,(CoR.refl _)⟩,⟨_,rfl,(CoR.of_eq (congrArg (fun z=>HR.v (.one (.win 900 z 0 _))) hl2.symm))⟩,c9,c9,c9,c9,c9,c9,trivial⟩,⟨⟨_,rfl,(rt hil hs rfl (i6 _ _) (CoP.of_eq (congrArg (fun z=>PV.raw (.int .u32 z)) (i7 _ _))))⟩,u9,trivial⟩⟩)
                 | (refine ⟨(i + 1,false), ?_, ?_, ?_⟩
                    · show i + 1 ≤ _;omega
                    · first | omega | (dsimp only;omega)
                    · exact ⟨⟨⟨_,rfl,(CoR.of_eq (congrArg (fun z=>HR.v (.one (.ref 951 z))) hl2.symm))⟩,⟨_,rfl,(cob (sd _ hil hs))⟩,⟨_,rfl,(CoR.refl _)⟩,⟨_,rfl,(CoC.one (aed hil))⟩,c9,c9,c9,c9,c9,c9,trivial⟩,⟨⟨_,rfl,(rt hil hs rfl (i6 _ _) (CoP.of_eq (congrArg (fun z=>PV.raw (.int .u32 z)) (i7 _ _))))⟩,u9,trivial⟩⟩)
                 | (refine ⟨(i + 1,true), ?_, ?_, ?_⟩
                    · show i + 1 ≤ _;omega
                    · first | omega | (dsimp only;omega)
                    · exact ⟨⟨⟨_,rfl,(ci (ln hil hs))⟩,⟨_,rfl,(cob (a0r _ hil hs))⟩,⟨_,rfl,(CoR.refl _)⟩,⟨_,rfl,(CoR.of_eq (congrArg (fun z=>HR.v (.one (.win 900 z 0 _))) (congrArg List.length (ln hil hs)).symm))⟩,c9,c9,c9,c9,c9,c9,trivial⟩,⟨⟨_,rfl,(c6 (ln hil hs))⟩,u9,trivial⟩⟩)
         ·
          have h10:=r10
          have hs:dc (ms.getD j default) ((c7 (ms.take j) l).getD i default) = false:=r10
          refine aa ?_;refine gy ?_;(iterate 2 refine qy ?_);refine a6 ?_
          first | (refine ⟨(i + 1, true), ?_, ?_, ?_⟩
                   · show i + 1 ≤ _;omega
                   · first | omega | (dsimp only;omega)
                   · exact ⟨⟨⟨_,rfl,(CoR.of_eq (congrArg (fun z=>HR.v (.one (.ref 900 z))) hl2.symm))⟩,⟨_,rfl,(cob (sd _ hil hs))⟩,⟨_,rfl,(CoR.refl _)⟩,⟨_,rfl,(CoR.of_eq (congrArg (fun z=>HR.v (.one (.win 900 z 0 _))) hl2.symm))⟩,c9,c9,c9,c9,c9,c9,trivial⟩,⟨⟨_,rfl,(rt hil hs rfl (i6 _ _) (CoP.of_eq (congrArg (fun z=>PV.raw (.int .u32 z)) (i7 _ _))))⟩,u9,trivial⟩⟩)
                | (refine ⟨(i + 1,false), ?_, ?_, ?_⟩
                   · show i + 1 ≤ _;omega
                   · first | omega | (dsimp only;omega)
                   · exact ⟨⟨⟨_,rfl,(CoR.of_eq (congrArg (fun z=>HR.v (.one (.ref 951 z))) hl2.symm))⟩,⟨_,rfl,(cob (sd _ hil hs))⟩,⟨_,rfl,(CoR.refl _)⟩,⟨_,rfl,(CoC.one (aed hil))⟩,c9,c9,c9,c9,c9,c9,trivial⟩,⟨⟨_,rfl,(rt hil hs rfl (i6 _ _) (CoP.of_eq (congrArg (fun z=>PV.raw (.int .u32 z)) (i7 _ _))))⟩,u9,trivial⟩⟩)
                | (refine ⟨(i + 1,true), ?_, ?_, ?_⟩
                   · show i + 1 ≤ _;omega
                   · first | omega | (dsimp only;omega)
                   · exact ⟨⟨⟨_,rfl,(ci (ln hil hs))⟩,⟨_,rfl,(cob (a0r _ hil hs))⟩,⟨_,rfl,(CoR.refl _)⟩,⟨_,rfl,(CoR.of_eq (congrArg (fun z=>HR.v (.one (.win 900 z 0 _))) (congrArg List.length (ln hil hs)).symm))⟩,c9,c9,c9,c9,c9,c9,trivial⟩,⟨⟨_,rfl,(c6 (ln hil hs))⟩,u9,trivial⟩⟩)
      ·
       have h7:=of_decide_eq_false r7
       try simp only [ty] at h7
       obtain rfl:i = (c7 (ms.take j) l).length:=by omega
       refine ak ?_;refine gy ?_;(iterate 2 refine qy ?_);refine a6 ?_;refine ⟨j + 1, ?_, ?_, ?_⟩
       · show j + 1 ≤ _;omega
       · first | omega | (dsimp only;omega)
       · exact ⟨⟨⟨_,rfl,(ci (by rw [zq (by omega),y9]))⟩,⟨_,rfl,(cob (by rw [aef (by omega),List.take_length]))⟩,zy,c9,c9,c9,trivial⟩,⟨⟨_,rfl,(c6 (by rw [zq (by omega),y9]))⟩,trivial⟩⟩
    ·
     have h2:=of_decide_eq_false r2
     try simp only [ty] at h2
     obtain rfl:j = ms.length:=by omega
     rw [show ms.take ms.length = ms from List.take_length]
     refine ak ?_;refine ⟨(f - 1,c7 ms l,jo ms l), ?_, ?_, ?_⟩
     · exact hI2
     · exact aw2 hf
     · exact ⟨⟨zy,zy,c9,trivial⟩,⟨u9,trivial⟩⟩
   ·
    have h1:=r1
    obtain rfl:ag = false:=r1
    have hl:l = (blks ms (af n &&& ~~~x)):=hI.f rfl
    subst hl
    refine ak ?_;refine a7 ?_;refine bn 7 rfl rfl rfl ?_;refine gy ?_;refine qy ?_
    refine rc rfl rfl rfl rfl rfl rfl a6v (a58 (blks ms (af n &&& ~~~x)) (Nat.le_trans (a8q hI.ok) (by decide))) (CoL.refl _) rfl rfl ?_;refine qy ?_;refine a6 ?_
    exact hx8 rfl rfl rfl (CoL.refl _)
end Go.Hx
end
section
namespace Go.Hx
theorem awi {f:Fd} {k:Nat} (h:k < (az f.rhs).length):(sgl f).getD k default = ⟨f.lhs,fu ((az f.rhs).getD k default)⟩:=by
 unfold sgl
 simp [List.getD_eq_getElem?_getD,List.getElem?_eq_getElem h]
theorem a5t (f:Fd):(sgl f).length = (az f.rhs).length:=by unfold sgl;rw [List.length_map]
theorem ag5 {fs ms:List Fd} {i k:Nat} (h:k < (az (fs.getD i default).rhs).length):jc fs ms i (k + 1) = jc fs ms i k ++ [⟨(fs.getD i default).lhs,fu ((az (fs.getD i default).rhs).getD k default)⟩]:=by
 rw [amu (by rw [a5t];exact h),awi h]
theorem ahi {fs ms:List Fd} {i:Nat} (h:i < fs.length):jc fs ms (i + 1) 0 = jc fs ms i (az (fs.getD i default).rhs).length:=by rw [an8 h,a5t]
theorem b0g {a b:AS} {k:Nat}:(a ||| b) >>> k = 0 ↔ a >>> k = 0 ∧ b >>> k = 0:=by
 rw [BitVec.ushiftRight_or_distrib]
 constructor
 · intro h
   refine ⟨gt fun i hi=>?_,gt fun i hi=>?_⟩ <;>
   · have:=congrArg (fun z:AS=>z.getLsbD i) h
     simp only [BitVec.getLsbD_or] at this
     cases h1:(a >>> k).getLsbD i <;> cases h2:(b >>> k).getLsbD i <;> simp_all
 · rintro ⟨h1,h2⟩
   rw [h1,h2]
   simp
theorem ahn {a b:AS} {k:Nat} (h:sub a b) (hb:b >>> k = 0):a >>> k = 0:=by
 apply gt
 intro i hi
 have:=congrArg (fun z:AS=>z.getLsbD i) hb
 simp only [BitVec.getLsbD_ushiftRight] at this ⊢
 cases ha:a.getLsbD (k + i) with
 | false=>simp
 | true=>rw [b5.1 h _ (u0 ha) ha] at this;simp at this
def ug (b:AS) (f:Fd):Bool:=!decide ((f.rhs &&& ~~~f.lhs) &&& b = 0)
def qw (l:List Fd) (o b:AS):AS:=if bsz b = 1 then (if l.any (ug b) = true then o ||| b else o) else o
def p9 (l:List Fd) (o:AS) (bs:List AS):AS:=bs.foldl (qw l) o
theorem a1h {l:List Fd} {o:AS} {bs:List AS} {i:Nat} (h:i < bs.length):p9 l o (bs.take (i + 1)) = qw l (p9 l o (bs.take i)) (bs.getD i default):=by
 unfold p9
 rw [be h,List.foldl_append]
 rfl
section
variable {l:List Fd} {o:AS} {bs:List AS} {i:Nat}
theorem ado (h:i < bs.length) (hq:¬ bsz (bs.getD i default) = 1):p9 l o (bs.take i) = p9 l o (bs.take (i + 1)):=by rw [a1h h,qw,if_neg hq]
theorem abm (h:i < bs.length) (hq:bsz (bs.getD i default) = 1) (ha:l.any (ug (bs.getD i default)) = false):p9 l o (bs.take i) = p9 l o (bs.take (i + 1)):=by rw [a1h h,qw,if_pos hq,if_neg (by rw [ha];decide)]
theorem ad3 (h:i < bs.length) (hq:bsz (bs.getD i default) = 1) (ha:l.any (ug (bs.getD i default)) = true):p9 l o (bs.take i) ||| bs.getD i default = p9 l o (bs.take (i + 1)):=by rw [a1h h,qw,if_pos hq,if_pos ha]
end
def cr (n:Int) (l m:List Fd) (x:AS):List AS:=ord (blks (fq l m) (af n &&& ~~~x))
def ari (n:Int) (l m:List Fd) (x:AS):List AS:=if ckB n l m x = 0 then cr n l m x else []
def mc (n:Int) (l m:List Fd) (x:AS):AS:=p9 l x (cr n l m x)
def ail (n:Int) (l m:List Fd) (x:AS):AS:=if ckB n l m x = 0 then mc n l m x else 0
theorem aqo (ms:List Fd) (rest:AS):OkB (blks ms rest):=by
 have:∀ (f:Nat) (l:List AS),OkB l → OkB (sk ms f l):=by
  intro f
  induction f with
  | zero=>intro l h;exact h
  | succ f ih =>
   intro l h
   unfold sk
   split
   · exact ih _ (a26 h)
   · exact a26 h
 exact this _ _ (a9n rest)
theorem yh (n:Int) (l m:List Fd) (x:AS):(cr n l m x).length ≤ 4294967296:=Nat.le_trans (ot _) (a8q (aqo _ _))
def jb (p:AS) (bs:List AS):List AS:=(bs.filter fun b=>!decide (b &&& p = 0)).map fun b=>b &&& p
theorem sa {p:AS} {bs:List AS} {i:Nat} (h:i < bs.length) (hq:¬ bs.getD i default &&& p = 0):jb p (bs.take (i + 1)) = jb p (bs.take i) ++ [bs.getD i default &&& p]:=by
 unfold jb
 rw [be h,List.filter_append,List.map_append,List.filter_cons,if_pos (by rw [decide_eq_false hq];rfl)]
 rfl
theorem s6 {p:AS} {bs:List AS} {i:Nat} (h:i < bs.length) (hq:bs.getD i default &&& p = 0):jb p (bs.take (i + 1)) = jb p (bs.take i):=by
 unfold jb
 rw [be h,List.filter_append,List.map_append,List.filter_cons,if_neg (by rw [decide_eq_true hq];decide)]
 simp
theorem a47 (p:AS) (bs:List AS):(jb p bs).length ≤ bs.length:=by
 unfold jb
 rw [List.length_map]
 exact List.length_filter_le _ _
def ge (n:Int) (l m:List Fd) (x p:AS):List AS:=ord (jb p (cr n l m x))
theorem a2d (n:Int) (l m:List Fd) (x p:AS):(jb p (cr n l m x)).length ≤ 8589934592:=Nat.le_trans (a47 _ _) (Nat.le_trans (yh _ _ _ _) (by decide))
def ck4 (n:Int) (l m:List Fd) (s:AS):Int:=if n < 0 ∨ 8 < n then 7 else ckB n l m s
theorem aah {n:Int} {l m:List Fd} {s:AS} (h:n < 0 ∨ 8 < n):ck4 n l m s = 7:=if_pos h
theorem vn {n:Int} {l m:List Fd} {s:AS} (h:¬ (n < 0 ∨ 8 < n)):ck4 n l m s = ckB n l m s:=if_neg h
theorem kz {n:Int} {l m:List Fd} {s:AS} (h:ck4 n l m s = 0):0 ≤ n ∧ n ≤ 8 ∧ ckB n l m s = 0:=by
 unfold ck4 at h
 split at h
 · cases h
 · exact ⟨by omega,by omega,h⟩
theorem a80 {n:Int} {l m:List Fd} {s t:AS} (h:ckB n l m s = 0) (ht:sub t s):ckB n l m t = 0:=a2w (uw h).1 (ahn ht (uw h).2)
theorem a7m {n:Int} {l m:List Fd} {s t:AS} (h:ck4 n l m s = 0) (ht:sub t s):ck4 n l m t = 0:=by
 obtain ⟨h1,h2,h3⟩:=kz h
 rw [vn (by omega)]
 exact a80 h3 ht
def aqn (n:Int) (l m:List Fd) (x p:AS):List AS:=if ck4 n l m (x ||| p) = 0 then ge n l m x p else []
def wo (n:Int) (l m:List Fd) (p x:AS):Option Fd:=if p &&& ~~~(mc n l m x) = 0 then none else if 1 < (ge n l m x p).length then some ⟨x,(ge n l m x p).getD 0 default⟩ else none
def bc (n:Int) (l m:List Fd) (p:AS):Option Fd:=(cb p).findSome? (wo n l m p)
def a7b:Option Fd → Fd × Bool
 | some v=>(v,true)
 | none=>(⟨0,0⟩,false)
def yc (n:Int) (l m:List Fd) (p:AS):Fd × Bool:=if ck4 n l m p = 0 then a7b (bc n l m p) else (⟨0,0⟩,false)
theorem b0s {n:Int} {l m:List Fd} {p:AS} (h:¬ ck4 n l m p = 0):yc n l m p = (⟨0,0⟩,false):=if_neg h
theorem ade {n:Int} {l m:List Fd} {p:AS} (h:ck4 n l m p = 0):yc n l m p = a7b (bc n l m p):=if_pos h
theorem gz {α β:Type} [Inhabited α] {f:α → Option β} {l:List α} {i:Nat} (h:i < l.length) (hn:(l.take i).findSome? f = none):(l.take (i + 1)).findSome? f = f (l.getD i default):=by
 rw [be h,List.findSome?_append,hn]
 simp only [List.findSome?_cons,List.findSome?_nil,Option.none_or]
 cases f (l.getD i default) <;> rfl
theorem oo {α β:Type} [Inhabited α] {f:α → Option β} {l:List α} {i:Nat} {v:β} (h:i < l.length) (hn:(l.take i).findSome? f = none) (hv:f (l.getD i default) = some v):l.findSome? f = some v:=by
 have h1:=gz h hn
 rw [hv] at h1
 rw [← List.take_append_drop (i + 1) l,List.findSome?_append,h1]
 rfl
theorem vf {s z:AS} (h:z ∈ cb s):sub z s:=by
 unfold cb at h
 split at h
 · cases h
 · exact aa4.1 h
theorem gv {α:Type} [Inhabited α] {l:List α} {i:Nat} (h:i < l.length):l.getD i default ∈ l:=by
 rw [List.getD_eq_getElem?_getD,List.getElem?_eq_getElem h]
 exact List.getElem_mem h
theorem a4k {n:Int} {l m:List Fd} {x p c:AS}:c ∈ ge n l m x p ↔ ∃ b ∈ blks (fq l m) (af n &&& ~~~x),b &&& p ≠ 0 ∧ c = b &&& p:=by
 unfold ge jb cr
 rw [gh,List.mem_map]
 constructor
 · rintro ⟨b,hb,rfl⟩
   rw [List.mem_filter,gh] at hb
   exact ⟨b,hb.1,by simpa using hb.2,rfl⟩
 · rintro ⟨b,hb,h,rfl⟩
   exact ⟨b,List.mem_filter.2 ⟨gh.2 hb,by simpa using h⟩,rfl⟩
def w5 (V:AS → Option Fd):Prop:=∀ p v,V p = some v → sub (v.lhs ||| v.rhs) p ∧ v.lhs ||| v.rhs ≠ p ∧ p &&& ~~~v.rhs ≠ p
theorem gm (n:Int) (l m:List Fd):w5 (bc n l m):=by
 intro p v h
 unfold bc at h
 obtain ⟨x,hx,hv⟩:=List.exists_of_findSome?_eq_some h
 have hxp:=vf hx
 unfold wo at hv
 split at hv
 · cases hv
 · split at hv
   · rename_i hlen
     cases hv
     have hbk:=(x6 (fq l m) (af n &&& ~~~x)).1
     have m0:=gv (l:=ge n l m x p) (i:=0) (by omega)
     have m1:=gv (l:=ge n l m x p) (i:=1) hlen
     have hnd:=oc (jb p (cr n l m x))
     have hne:(ge n l m x p).getD 0 default ≠ (ge n l m x p).getD 1 default:=by
      intro e
      rw [List.getD_eq_getElem?_getD,List.getD_eq_getElem?_getD,List.getElem?_eq_getElem (show 0 < (ge n l m x p).length by omega),List.getElem?_eq_getElem hlen,Option.getD_some,Option.getD_some] at e
      have:=(List.getElem_inj (xs:=ge n l m x p) hnd).1 e
      omega
     generalize (ge n l m x p).getD 0 default = c0 at *
     generalize (ge n l m x p).getD 1 default = c1 at *
     obtain ⟨b0,hb0,hz0,rfl⟩:=a4k.1 m0
     obtain ⟨b1,hb1,hz1,rfl⟩:=a4k.1 m1
     dsimp only
     refine ⟨xm hxp sc,fun e=>?_,fun e=>?_⟩
     · obtain ⟨a,ha,h1,h2⟩:=s8 hz1
       have h3:=congrArg (fun z:AS=>z.getLsbD a) e
       simp only [BitVec.getLsbD_or,BitVec.getLsbD_and,h2,Bool.and_true] at h3
       have hr:=b5.1 (hbk.sub hb1) a ha h1
       rw [bw ha,Bool.and_eq_true] at hr
       have hxa:x.getLsbD a = false:=by simpa using hr.2
       rw [hxa,Bool.false_or] at h3
       exact hne (by rw [hbk.one hb0 hb1 h3 h1])
     · obtain ⟨a,ha,h1,h2⟩:=s8 hz0
       have h3:=congrArg (fun z:AS=>z.getLsbD a) e
       simp only [bw ha,BitVec.getLsbD_and,h1,h2] at h3
       simp at h3
   · cases hv
section
variable {V:AS → Option Fd}
def vF (V:AS → Option Fd) (s:AS):Fd:=(a7b (V s)).1
def vBo (V:AS → Option Fd) (s:AS):Bool:=(a7b (V s)).2
def i9 (V:AS → Option Fd) (s:AS):AS:=(vF V s).lhs ||| (vF V s).rhs
def gl (V:AS → Option Fd) (s:AS):AS:=s &&& ~~~(vF V s).rhs
theorem um {s:AS} (h:vBo V s = true):V s = some (vF V s):=by
 unfold vBo at h
 unfold vF
 cases hv:V s with
 | none=>rw [hv] at h;cases h
 | some v=>rfl
def tz (V:AS → Option Fd):Nat → List AS → List AS → List AS
 | 0,_,out=>out
 | n + 1,todo,out =>
  if todo.length = 0 then out
  else if vBo V (todo.getD (todo.length - 1) default) = true then tz V n (todo.take (todo.length - 1) ++ [i9 V (todo.getD (todo.length - 1) default),gl V (todo.getD (todo.length - 1) default)]) out
  else tz V n (todo.take (todo.length - 1)) (out ++ [todo.getD (todo.length - 1) default])
def a0v (V:AS → Option Fd) (p0:AS) (x:Nat × List AS × List AS):Prop:=tz V x.1 x.2.1 x.2.2 = tz V 6562 [p0] [] ∧ jq x.2.1 < x.1 ∧ x.2.2.length + x.1 ≤ 6562
theorem a9x {n:Int} (h8:n ≤ 8):a0v V (af n) (6562,[af n],[]):=by
 refine ⟨rfl, ?_,Nat.le_refl _⟩
 show 3 ^ bsz (af n) + 0 < 6562
 have h1:=yi (n:=n) (m:=8) h8 (by omega)
 have h2:3 ^ bsz (af n) ≤ 3 ^ 8:=Nat.pow_le_pow_right (by omega) h1
 have h3:3 ^ 8 = 6561:=rfl
 omega
theorem zi {p0:AS} {x:Nat × List AS × List AS} (h:a0v V p0 x):x.2.1.length < 6562 ∧ x.2.2.length ≤ 6562 ∧ 0 < x.1:=by
 have:=aen x.2.1
 obtain ⟨h1,h2,h3⟩:=h
 omega
theorem aon {p0:AS} {x:Nat × List AS × List AS} (h:a0v V p0 x) (h0:x.2.1.length = 0):x.2.2 = tz V 6562 [p0] []:=by
 have hp:=(zi h).2.2
 obtain ⟨h1,h2,h3⟩:=h
 obtain ⟨m,hm⟩:∃ m,x.1 = m + 1:=⟨x.1 - 1,by omega⟩
 rw [hm] at h1
 unfold tz at h1
 rw [if_pos h0] at h1
 exact h1
theorem mh (hV:w5 V) {s:AS} (h:vBo V s = true):bsz (i9 V s) < bsz s ∧ bsz (gl V s) < bsz s:=by
 obtain ⟨h1,h2,h3⟩:=hV s _ (um h)
 exact ⟨a5e h1 h2,a5e o8 h3⟩
theorem amx (hV:w5 V) {p0:AS} {x:Nat × List AS × List AS} (h:a0v V p0 x) (h0:0 < x.2.1.length) (hv:vBo V (x.2.1.getD (x.2.1.length - 1) default) = true) :
 a0v V p0 (x.1 - 1,x.2.1.take (x.2.1.length - 1) ++ [i9 V (x.2.1.getD (x.2.1.length - 1) default),gl V (x.2.1.getD (x.2.1.length - 1) default)],x.2.2):=by
 have hp:=(zi h).2.2
 obtain ⟨h1,h2,h3⟩:=h
 obtain ⟨m,hm⟩:∃ m,x.1 = m + 1:=⟨x.1 - 1,by omega⟩
 rw [hm] at h1
 unfold tz at h1
 rw [if_neg (by omega),if_pos hv] at h1
 refine ⟨by rw [hm];exact h1, ?_,by dsimp only;omega⟩
 have e:=u7 (x.2.1.take (x.2.1.length - 1)) [x.2.1.getD (x.2.1.length - 1) default]
 rw [← a0a h0] at e
 have e1:jq [x.2.1.getD (x.2.1.length - 1) default] = 3 ^ bsz (x.2.1.getD (x.2.1.length - 1) default):=by simp [jq]
 generalize x.2.1.getD (x.2.1.length - 1) default = s at *
 dsimp only
 rw [u7]
 have e2:jq [i9 V s,gl V s] = 3 ^ bsz (i9 V s) + 3 ^ bsz (gl V s):=by simp [jq]
 obtain ⟨g1,g2⟩:=mh hV hv
 obtain ⟨b,hb⟩:∃ b,bsz s = b + 1:=⟨bsz s - 1,by omega⟩
 have p1:3 ^ bsz (i9 V s) ≤ 3 ^ b:=Nat.pow_le_pow_right (by omega) (by omega)
 have p2:3 ^ bsz (gl V s) ≤ 3 ^ b:=Nat.pow_le_pow_right (by omega) (by omega)
 have p3:3 ^ bsz s = 3 ^ b * 3:=by rw [hb,Nat.pow_succ]
 have p4:0 < 3 ^ b:=Nat.pow_pos (by omega)
 omega
theorem al5 {p0:AS} {x:Nat × List AS × List AS} (h:a0v V p0 x) (h0:0 < x.2.1.length) (hv:vBo V (x.2.1.getD (x.2.1.length - 1) default) = false) :
 a0v V p0 (x.1 - 1,x.2.1.take (x.2.1.length - 1),x.2.2 ++ [x.2.1.getD (x.2.1.length - 1) default]):=by
 have hp:=(zi h).2.2
 obtain ⟨h1,h2,h3⟩:=h
 obtain ⟨m,hm⟩:∃ m,x.1 = m + 1:=⟨x.1 - 1,by omega⟩
 rw [hm] at h1
 unfold tz at h1
 rw [if_neg (by omega),if_neg (by rw [hv];decide)] at h1
 refine ⟨by rw [hm];exact h1, ?_,by dsimp only;rw [List.length_append,List.length_singleton];omega⟩
 have e:=u7 (x.2.1.take (x.2.1.length - 1)) [x.2.1.getD (x.2.1.length - 1) default]
 rw [← a0a h0] at e
 have e1:jq [x.2.1.getD (x.2.1.length - 1) default] = 3 ^ bsz (x.2.1.getD (x.2.1.length - 1) default):=by simp [jq]
 have p4:0 < 3 ^ bsz (x.2.1.getD (x.2.1.length - 1) default):=Nat.pow_pos (by omega)
 dsimp only
 omega
def lvG (V:AS → Option Fd):Nat → AS → List AS
 | 0,s=>[s]
 | n + 1,s=>if vBo V s = true then lvG V n (i9 V s) ++ lvG V n (gl V s) else [s]
theorem u5 (hV:w5 V):∀ (a b:Nat) (s:AS),bsz s < a → bsz s < b → lvG V a s = lvG V b s
 | 0,_,_,h,_=>absurd h (Nat.not_lt_zero _)
 | _,0,_,_,h=>absurd h (Nat.not_lt_zero _)
 | a + 1,b + 1,s,ha,hb=>by
  unfold lvG
  split
  · rename_i hv
    obtain ⟨g1,g2⟩:=mh hV hv
    rw [u5 hV a b _ (by omega) (by omega),u5 hV a b _ (by omega) (by omega)]
  · rfl
theorem b2a (hV:w5 V) {s:AS} (h:vBo V s = true):lvG V 33 s = lvG V 33 (i9 V s) ++ lvG V 33 (gl V s):=by
 have h1:lvG V 33 s = lvG V 32 (i9 V s) ++ lvG V 32 (gl V s):=by
  show (if vBo V s = true then _ else _) = _
  rw [if_pos h]
 obtain ⟨g1,g2⟩:=mh hV h
 have:=a6d s
 rw [h1,u5 hV 32 33 _ (by omega) (by omega),u5 hV 32 33 _ (by omega) (by omega)]
theorem b1x {s:AS} (h:vBo V s = false):lvG V 33 s = [s]:=by
 show (if vBo V s = true then _ else _) = _
 rw [if_neg (by rw [h];decide)]
theorem a4z (hV:w5 V):∀ (f:Nat) (todo out:List AS),jq todo < f → ∀ z,z ∈ tz V f todo out ↔ z ∈ out ∨ ∃ s ∈ todo,z ∈ lvG V 33 s
 | 0,_,_,h,_=>absurd h (Nat.not_lt_zero _)
 | f + 1,todo,out,hm,z=>by
  unfold tz
  by_cases h0:todo.length = 0
  · rw [if_pos h0]
    obtain rfl:=List.length_eq_zero_iff.1 h0
    simp
  · rw [if_neg h0]
    have htl:=a0a (todo:=todo) (by omega)
    have e:=u7 (todo.take (todo.length - 1)) [todo.getD (todo.length - 1) default]
    rw [← htl] at e
    have e1:jq [todo.getD (todo.length - 1) default] = 3 ^ bsz (todo.getD (todo.length - 1) default):=by simp [jq]
    generalize hs:todo.getD (todo.length - 1) default = s at *
    generalize todo.take (todo.length - 1) = t at *
    have hmem:∀ P:AS → Prop,(∃ q ∈ todo,P q) ↔ (∃ q ∈ t,P q) ∨ P s:=fun P=>by
     rw [htl]
     simp only [List.mem_append,List.mem_singleton]
     constructor
     · rintro ⟨q,h | rfl,hp⟩
       · exact .inl ⟨q,h,hp⟩
       · exact .inr hp
     · rintro (⟨q,h,hp⟩ | hp)
       · exact ⟨q, .inl h,hp⟩
       · exact ⟨s, .inr rfl,hp⟩
    have p4:0 < 3 ^ bsz s:=Nat.pow_pos (by omega)
    cases hv:vBo V s
    · simp only [Bool.false_eq_true,if_false]
      rw [a4z hV f t _ (by omega) z,hmem,b1x hv]
      simp only [List.mem_append,List.mem_singleton]
      constructor
      · rintro ((h | h) | h)
        · exact .inl h
        · exact .inr (.inr h)
        · exact .inr (.inl h)
      · rintro (h | h | h)
        · exact .inl (.inl h)
        · exact .inr h
        · exact .inl (.inr h)
    · simp only [if_true]
      obtain ⟨g1,g2⟩:=mh hV hv
      have e2:jq [i9 V s,gl V s] = 3 ^ bsz (i9 V s) + 3 ^ bsz (gl V s):=by simp [jq]
      obtain ⟨b,hb⟩:∃ b,bsz s = b + 1:=⟨bsz s - 1,by omega⟩
      have p1:3 ^ bsz (i9 V s) ≤ 3 ^ b:=Nat.pow_le_pow_right (by omega) (by omega)
      have p2:3 ^ bsz (gl V s) ≤ 3 ^ b:=Nat.pow_le_pow_right (by omega) (by omega)
      have p3:3 ^ bsz s = 3 ^ b * 3:=by rw [hb,Nat.pow_succ]
      have p5:0 < 3 ^ b:=Nat.pow_pos (by omega)
      rw [a4z hV f _ out (by rw [u7,e2];omega) z,hmem,b2a hV hv]
      simp only [List.mem_append,List.mem_cons,List.not_mem_nil,or_false]
      constructor
      · rintro (h | ⟨q,h | rfl | rfl,hq⟩)
        · exact .inl h
        · exact .inr (.inl ⟨q,h,hq⟩)
        · exact .inr (.inr (.inl hq))
        · exact .inr (.inr (.inr hq))
      · rintro (h | ⟨q,h,hq⟩ | h | h)
        · exact .inl h
        · exact .inr ⟨q, .inl h,hq⟩
        · exact .inr ⟨_, .inr (.inl rfl),h⟩
        · exact .inr ⟨_, .inr (.inr rfl),h⟩
theorem a8x (hV:w5 V):∀ (f:Nat) (s:AS),(lvG V f s).length ≤ 2 ^ f
 | 0,s=>by simp [lvG]
 | f + 1,s=>by
  unfold lvG
  split
  · have h1:=a8x hV f (i9 V s)
    have h2:=a8x hV f (gl V s)
    rw [List.length_append,Nat.pow_succ]
    omega
  · have:0 < 2 ^ (f + 1):=Nat.pow_pos (by omega)
    simp only [List.length_singleton]
    omega
end
def a4t (n:Int) (l m:List Fd):List AS:=tz (bc n l m) 6562 [af n] []
def kj (n:Int) (l m:List Fd):List AS:=if ck4 n l m 0 = 0 then ip (a4t n l m) else []
theorem ads {n:Int} {l m:List Fd} (h:ck4 n l m 0 = 0):kj n l m = ip (a4t n l m):=if_pos h
theorem b14 {n:Int} {l m:List Fd} (h:¬ ck4 n l m 0 = 0):kj n l m = []:=if_neg h
end Go.Hx
end

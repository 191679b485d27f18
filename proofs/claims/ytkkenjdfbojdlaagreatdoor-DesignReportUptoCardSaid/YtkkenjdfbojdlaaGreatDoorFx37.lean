/- A part of the proof: Y1 Bz4 Y2. -/
import Derived.Test.YtkkenjdfbojdlaaGreatDoorFx16
import Derived.Test.YtkkenjdfbojdlaaGreatDoorFx20
import Derived.Test.YtkkenjdfbojdlaaGreatDoorFx21
import Derived.Test.YtkkenjdfbojdlaaGreatDoorFx23
import Derived.Test.YtkkenjdfbojdlaaGreatDoorFx31
import Derived.Test.YtkkenjdfbojdlaaGreatDoorFx36
set_option linter.all false
set_option maxRecDepth 100000
set_option maxHeartbeats 1000000
namespace Go.Hx
section
open Go.Proofs
theorem a4d {a b:AS} (h:bo .and .u32 (asI a) (asI b) = 0):a &&& b = 0:=c8.1 ((gl a b).symm.trans h)
theorem yw {a b:AS} (h:¬ bo .and .u32 (asI a) (asI b) = 0):¬ a &&& b = 0:=fun e=>h ((gl a b).trans (congrArg asI e))
theorem axx {a b:AS} (h:bo .andNot .u32 (asI a) (asI b) = 0):a &&& ~~~b = 0:=c8.1 ((jn a b).symm.trans h)
theorem ash {a b:AS} (h:¬ bo .andNot .u32 (asI a) (asI b) = 0):¬ a &&& ~~~b = 0:=fun e=>h ((jn a b).trans (congrArg asI e))
theorem a4x {m:Fd} {x:AS} (h:¬ x &&& m.lhs = 0):en m x = false:=by unfold en;rw [decide_eq_false h];rfl
theorem a5d {m:Fd} {x:AS} (h:x &&& m.rhs = 0):en m x = false:=by simp [en,h]
theorem afi (a b:AS):decide (bo .and .u32 (asI a) (asI b) = 0) = decide (a &&& b = 0):=by
 by_cases h:bo .and .u32 (asI a) (asI b) = 0
 · rw [decide_eq_true h,decide_eq_true (a4d h)]
 rw [decide_eq_false h,decide_eq_false (yw h)]
theorem b5i (a b:AS):decide (bo .andNot .u32 (asI a) (asI b) = 0) = decide (a &&& ~~~b = 0):=by
 by_cases h:bo .andNot .u32 (asI a) (asI b) = 0
 · rw [decide_eq_true h,decide_eq_true (axx h)]
 rw [decide_eq_false h,decide_eq_false (ash h)]
theorem a5i (m:Fd) (x:AS):(bif (bif decide (bo .and .u32 (asI x) (asI m.lhs) = 0) then !decide (bo .and .u32 (asI x) (asI m.rhs) = 0) else false) then !decide (bo .andNot .u32 (asI x) (asI m.rhs) = 0) else false) = en m x:=by
 rw [afi,afi,b5i]
 unfold en
 by_cases h1:x &&& m.lhs = 0 <;> by_cases h2:x &&& m.rhs = 0 <;> by_cases h3:x &&& ~~~m.rhs = 0 <;> simp only [h1,h2,h3,decide_true,decide_false,ne_eq,not_true_eq_false,not_false_eq_true,Bool.not_true,Bool.not_false,cond_true,cond_false,Bool.and_self,Bool.and_true,Bool.true_and,Bool.and_false,Bool.false_and]
theorem tt {m:Fd} {l:List AS} {i:Nat} (c:Bool) (h:i < l.length) (hs:en m (l.getD i default) = true):true = (c || (l.take (i + 1)).any (en m)):=by
 rw [b5 h,List.any_append];simp only [List.any_cons,List.any_nil,hs,Bool.or_true,Bool.or_false]
theorem a26 {m:Fd} {l:List AS} {i:Nat} (c:Bool) (h:i < l.length) (hs:en m (l.getD i default) = false):(c || (l.take i).any (en m)) = (c || (l.take (i + 1)).any (en m)):=by
 rw [b5 h,List.any_append];simp only [List.any_cons,List.any_nil,hs,Bool.or_true,Bool.or_false]
def am8 (x:Nat × List AS × Bool):Nat:=x.1 + (bif x.2.2 then 1 else 0)
theorem b1i {f:Nat} {l l':List AS} {c:Bool} (h:0 < f):am8 (f - 1,l',c) < am8 (f,l,true):=by
 cases c <;> simp only [am8,cond_true,cond_false] <;> omega
theorem ajc:goodFn Tryz.prog 188:=wgx Tryz.func188
theorem ajr (n:Int) (ms:List Fd) (x:AS) (h0:0 ≤ n) (h1:n ≤ 16):af Tryz.prog 188 [pI n,pP (fdl ms),pA x] (aj [pP (asl (ord (blks ms (aq n &&& ~~~x))))]):=by
 refine a8 (nt:=76) a7 Tryz.func188 rfl rfl l9 ?_
 refine dg 1 rfl fun hn=>?_
 have hrest:bo .andNot .u32 (IntKind.wrap .u32 (1 * 2 ^ (min n.toNat 32)) - 1) (asI x) = asI (aq n &&& ~~~x):=by rw [rg h0 h1,jn]
 refine w_8 ?_;refine d6 7 900 true 1 46 (lf sC []) (by decide) rfl (CoP.sl rfl (.inr rfl) (fun h=>h) (fun i j hi _=>absurd hi (Nat.not_lt_zero i))) (.inr rfl) rfl ?_
 refine d4 (ι:=Unit) ⟨[(1,some _)],[]⟩ ⟨⟨c9,trivial⟩,trivial⟩ (fun _i=>⟨[(7,some (.v (.one (.ref 900 (ja (aq n &&& ~~~x)).length))))],[(900,some (.arr true 1 46 (ja (aq n &&& ~~~x)).length (lf sC (ja (aq n &&& ~~~x)))))]⟩) (fun _i=>True) ?_ ?_
 ·
  refine w_4 ?_;refine rq rfl rfl rfl rfl rfl ?_ (hp:=⟨x6 h0 h1,ua h0 h1⟩);refine w_9 ?_;refine a6 _ rfl (fun r0=>?_) (fun r0=>?_)
  ·
   have h0:=r0
   have h0:=aa (au h0)
   try simp only [ty] at h0
   have hne:¬ (aq n &&& ~~~x) = 0:=fun e=>h0 (hrest.trans (congrArg asI e))
   refine w_3 ?_;refine m9 0 ?_;refine ra 1 true rfl rfl rfl rfl rfl rfl ?_;refine w_2 ?_;refine ⟨(), ?_, ?_⟩
   · trivial
   exact ⟨⟨⟨_,rfl,(by first | exact ca (a4l hne) | exact cg (a4y hz))⟩,c9,trivial⟩,⟨⟨_,rfl,(by first | exact c7 (a4l hne) (CoP.of_eq (congrArg (fun z=>PV.raw (.int .u32 z)) hrest)) | exact cb (a4y hz))⟩,trivial⟩⟩
  have h0:=r0
  have h0:=ae (ar h0)
  try simp only [ty] at h0
  have hz:(aq n &&& ~~~x) = 0:=c8.1 (hrest.symm.trans h0)
  refine dn ?_;refine ⟨(), ?_, ?_⟩
  · trivial
  exact ⟨⟨⟨_,rfl,(by first | exact ca (a4l hne) | exact cg (a4y hz))⟩,c9,trivial⟩,⟨⟨_,rfl,(by first | exact c7 (a4l hne) (CoP.of_eq (congrArg (fun z=>PV.raw (.int .u32 z)) hrest)) | exact cb (a4y hz))⟩,trivial⟩⟩
 rintro _ _
 refine w_6 ?_
 refine ah (ι:=(Nat × List AS × Bool)) ⟨[(1,some _)],[]⟩ ⟨⟨c9,trivial⟩,trivial⟩ (fun y=>⟨[(7,some (.v (.one (.ref 900 y.2.1.length)))),(9,some (vB y.2.2))],[(900,some (.arr true 1 46 y.2.1.length (lf sC y.2.1)))]⟩) (fun y=>BkI ms (blks ms (aq n &&& ~~~x)) y) (fun y=>am8 y) ((18446744073709551616,ja (aq n &&& ~~~x),true)) (av4 ms (aq n &&& ~~~x)) ⟨⟨zy,zy,trivial⟩,⟨u9,trivial⟩⟩ ?_
 rintro ⟨f,l,ag⟩ hI
 refine w_5 ?_;refine a6 _ rfl (fun r1=>?_) (fun r1=>?_)
 ·
  have h1:=r1
  obtain rfl:ag = true:=r1
  obtain ⟨hI2,hf⟩:=b2q hI
  have hok:=hI.ok
  refine kf ?_
  refine ah (ι:=Nat) ⟨[(1,some _),(26,some _),(27,some _)],[]⟩ ⟨⟨c9,c9,c9,trivial⟩,trivial⟩ (fun j=>⟨[(7,some (.v (.one (.ref 900 (ck (ms.take j) l).length)))),(9,some (vB (mc (ms.take j) l))),(28,some (vI j))],[(900,some (.arr true 1 46 (ck (ms.take j) l).length (lf sC (ck (ms.take j) l))))]⟩) (fun j=>j ≤ ms.length) (fun j=>ms.length - j) (0) (Nat.zero_le _) ⟨⟨zy,⟨_,rfl,(CoR.refl _)⟩,zy,trivial⟩,⟨u9,trivial⟩⟩ ?_
  rintro j hj
  have hokj:OkB (ck (ms.take j) l):=a4z hok
  have hlj:=ab5 (ars (m:=(ms.getD j default)) hokj)
  refine w_5 ?_;refine a6 _ rfl (fun r2=>?_) (fun r2=>?_)
  ·
   have h2:=ae r2
   try simp only [ty] at h2
   refine w_7 ?_;refine m9 2 ?_;refine w_9 ?_;refine atu 32 rfl rfl rfl ?_
   refine ah (ι:=(Nat × Bool)) ⟨[(1,some _),(11,some _),(26,some _),(27,some _),(28,some _),(33,some _)],[(2,some _)]⟩ ⟨⟨c9,c9,c9,c9,c9,c9,trivial⟩,⟨u9,trivial⟩⟩ (fun y=>⟨[(7,some (.v (.one (.ref (bif y.2 then 900 else 951) (stB (ms.getD j default) (ck (ms.take j) l) y.1).length)))),(9,some (vB (mc (ms.take j) l || ((ck (ms.take j) l).take y.1).any (en (ms.getD j default))))),(34,some (vI y.1)),(32,some (bif y.2 then .v (.one (.win 900 (stB (ms.getD j default) (ck (ms.take j) l) y.1).length 0 (ck (ms.take j) l).length)) else bp (.sl (ck (ms.take j) l).length 1 false (a2g (ck (ms.take j) l) y.1))))],[(bif y.2 then 900 else 951,some (.arr true 1 46 (stB (ms.getD j default) (ck (ms.take j) l) y.1).length (lf sC (stB (ms.getD j default) (ck (ms.take j) l) y.1))))]⟩) (fun y=>y.1 ≤ (ck (ms.take j) l).length) (fun y=>(ck (ms.take j) l).length - y.1) ((0,true)) (Nat.zero_le _) ⟨⟨⟨_,rfl,(cg (a6k _ _))⟩,⟨_,rfl,(cob (by simp))⟩,⟨_,rfl,(CoR.refl _)⟩,⟨_,rfl,(CoR.of_eq (by rw [a6k];rfl))⟩,trivial⟩,⟨⟨_,rfl,(cb (a6k _ _))⟩,trivial⟩⟩ ?_
   rintro ⟨i,b⟩ hi
   have hi:i ≤ (ck (ms.take j) l).length:=hi
   have hsl:=b5z (ms.getD j default) (ck (ms.take j) l) i
   have hsl2:=ait (ms.getD j default) (ck (ms.take j) l) i
   rcases b with _ | _
   ·
    show HW _ _ _ ⟨_ :: _,_⟩ _
    refine w_5 ?_;refine a6 _ rfl (fun r3=>?_) (fun r3=>?_)
    ·
     have h3:=ae r3
     try simp only [ty] at h3
     have hil:i < (ck (ms.take j) l).length:=by omega
     refine w_7 ?_;refine rq (out:=⟨_, .v (.one (.p (asC ((ck (ms.take j) l).getD i default))))⟩) rfl rfl rfl (congrArg (fun z=>some (Out.mk _ (HR.v (HC.one (HV.p z))))) (b3s (ck (ms.take j) l) i)) rfl ?_
     refine w_3 ?_
     refine d4 (ι:=Unit) ⟨[(1,some _),(7,some _),(9,some _),(11,some _),(12,some _),(13,some _),(26,some _),(27,some _),(28,some _),(32,some _),(33,some _),(34,some _)],[(2,some _)]⟩ ⟨⟨c9,c9,c9,c9,c9,c9,c9,c9,c9,c9,c9,c9,trivial⟩,⟨u9,trivial⟩⟩ (fun _i=>⟨[(57,some (vB (en (ms.getD j default) ((ck (ms.take j) l).getD i default))))],[(951,some (.arr true 1 46 (stB (ms.getD j default) (ck (ms.take j) l) i).length (lf sC (stB (ms.getD j default) (ck (ms.take j) l) i))))]⟩) (fun _i=>True) ?_ ?_
     ·
      refine w_7 ?_;refine b9 rfl rfl (fun r4=>?_) (fun r4=>?_)
      ·
       have h4:=ae r4
       try simp only [ty] at h4
       have g1:((ck (ms.take j) l).getD i default) &&& (ms.getD j default).lhs = 0:=a4d h4
       (iterate 5 refine qy ?_ (hg:=(gtt r4)));refine w_2 ?_;refine b9 rfl rfl (fun r5=>?_) (fun r5=>?_)
       ·
        have h5:=r5
        have h5:=du r4 h5
        have h5:=aa (au h5)
        try simp only [ty] at h5
        have g2:¬ ((ck (ms.take j) l).getD i default) &&& (ms.getD j default).rhs = 0:=yw h5
        (iterate 5 refine qy ?_ (hg:=(gtt r5)));refine w_2 ?_;refine ⟨(), ?_, ?_⟩
        · trivial
        exact ⟨⟨⟨_,rfl,(cob (by first | exact a5i _ _ | exact (a4x g1).symm | exact (a5d g2).symm))⟩,c9,c9,c9,c9,c9,c9,c9,c9,c9,c9,c9,c9,trivial⟩,⟨u9,u9,trivial⟩⟩
       have h5:=r5
       have h5:=du r4 h5
       have h5:=ae (ar h5)
       try simp only [ty] at h5
       have g2:((ck (ms.take j) l).getD i default) &&& (ms.getD j default).rhs = 0:=a4d h5
       (iterate 5 refine k9 (gft r5) ?_);refine rq rfl rfl rfl rfl rfl ?_ (hp:=r5);refine ax ?_;refine ⟨(), ?_, ?_⟩
       · trivial
       exact ⟨⟨⟨_,rfl,(cob (by first | exact a5i _ _ | exact (a4x g1).symm | exact (a5d g2).symm))⟩,c9,c9,c9,c9,c9,c9,c9,c9,c9,c9,c9,c9,trivial⟩,⟨u9,u9,trivial⟩⟩
      have h4:=aa r4
      try simp only [ty] at h4
      have g1:¬ ((ck (ms.take j) l).getD i default) &&& (ms.getD j default).lhs = 0:=yw h4
      (iterate 5 refine k9 (gft r4) ?_);refine rq rfl rfl rfl rfl rfl ?_ (hp:=r4);refine qy ?_;(iterate 5 refine k9 rfl ?_);refine w_2 ?_;refine ⟨(), ?_, ?_⟩
      · trivial
      exact ⟨⟨⟨_,rfl,(cob (by first | exact a5i _ _ | exact (a4x g1).symm | exact (a5d g2).symm))⟩,c9,c9,c9,c9,c9,c9,c9,c9,c9,c9,c9,c9,trivial⟩,⟨u9,u9,trivial⟩⟩
     rintro _ _
     refine a6 _ rfl (fun r6=>?_) (fun r6=>?_)
     ·
      have h6:=r6
      have hs:en (ms.getD j default) ((ck (ms.take j) l).getD i default) = true:=r6
      have hl2:(stB (ms.getD j default) (ck (ms.take j) l) (i + 1)).length = (stB (ms.getD j default) (ck (ms.take j) l) i).length + 1:=by rw [adr hil hs,List.length_append,List.length_set];rfl
      refine amv ?_;refine m9 3 ?_;refine ra 4 true rfl rfl rfl rfl rfl rfl ?_;refine w_9 ?_
      first | (refine ⟨(i + 1, false), ?_, ?_, ?_⟩
               · show i + 1 ≤ _;omega
               · first | omega | (dsimp only;omega)
               exact ⟨⟨⟨_,rfl,(CoR.of_eq (congrArg (fun z=>HR.v (.one (.ref 951 z))) hl2.symm))⟩,⟨_,rfl,(cob (tt _ hil hs))⟩,⟨_,rfl,(CoR.refl _)⟩,⟨_,rfl,(CoC.one (a4q rfl))⟩,c9,c9,c9,c9,c9,c9,trivial⟩,⟨⟨_,rfl,(tw hil hs rfl (gl _ _) (CoP.of_eq (congrArg (fun z=>PV.raw (.int .u32 z)) (jn _ _))))⟩,u9,trivial⟩⟩)
            | (refine ⟨(i + 1,false), ?_, ?_, ?_⟩
               · show i + 1 ≤ _;omega
               · first | omega | (dsimp only;omega)
               exact ⟨⟨⟨_,rfl,(cg (mi hil hs))⟩,⟨_,rfl,(cob (a26 _ hil hs))⟩,⟨_,rfl,(CoR.refl _)⟩,⟨_,rfl,(CoC.one (a4q rfl))⟩,c9,c9,c9,c9,c9,c9,trivial⟩,⟨⟨_,rfl,(cb (mi hil hs))⟩,u9,trivial⟩⟩)
     have h6:=r6
     have hs:en (ms.getD j default) ((ck (ms.take j) l).getD i default) = false:=r6
     refine w_5 ?_
     first | (refine ⟨(i + 1, false), ?_, ?_, ?_⟩
              · show i + 1 ≤ _;omega
              · first | omega | (dsimp only;omega)
              exact ⟨⟨⟨_,rfl,(CoR.of_eq (congrArg (fun z=>HR.v (.one (.ref 951 z))) hl2.symm))⟩,⟨_,rfl,(cob (tt _ hil hs))⟩,⟨_,rfl,(CoR.refl _)⟩,⟨_,rfl,(CoC.one (a4q rfl))⟩,c9,c9,c9,c9,c9,c9,trivial⟩,⟨⟨_,rfl,(tw hil hs rfl (gl _ _) (CoP.of_eq (congrArg (fun z=>PV.raw (.int .u32 z)) (jn _ _))))⟩,u9,trivial⟩⟩)
           | (refine ⟨(i + 1,false), ?_, ?_, ?_⟩
              · show i + 1 ≤ _;omega
              · first | omega | (dsimp only;omega)
              exact ⟨⟨⟨_,rfl,(cg (mi hil hs))⟩,⟨_,rfl,(cob (a26 _ hil hs))⟩,⟨_,rfl,(CoR.refl _)⟩,⟨_,rfl,(CoC.one (a4q rfl))⟩,c9,c9,c9,c9,c9,c9,trivial⟩,⟨⟨_,rfl,(cb (mi hil hs))⟩,u9,trivial⟩⟩)
    have h3:=aa r3
    try simp only [ty] at h3
    obtain rfl:i = (ck (ms.take j) l).length:=by omega
    refine u6 7 900 rfl rfl rfl rfl ?_;refine w_5 ?_;refine ⟨j + 1, ?_, ?_, ?_⟩
    · show j + 1 ≤ _;omega
    · first | omega | (dsimp only;omega)
    exact ⟨⟨⟨_,rfl,(cg (by rw [a19 (by omega),a0c]))⟩,⟨_,rfl,(cob (by rw [aeb (by omega),List.take_length]))⟩,zy,c9,c9,c9,trivial⟩,⟨⟨_,rfl,(cb (by rw [a19 (by omega),a0c]))⟩,trivial⟩⟩
   show HW _ _ _ ⟨_ :: _,_⟩ _
   refine w_5 ?_;refine a6 _ rfl (fun r7=>?_) (fun r7=>?_)
   ·
    have h7:=ae r7
    try simp only [ty] at h7
    have hil:i < (ck (ms.take j) l).length:=by omega
    refine w_7 ?_
    refine rq (out:=⟨_, .v (.one (.p (asC ((ck (ms.take j) l).getD i default))))⟩) rfl rfl rfl (congrArg (fun z=>some (Out.mk _ (HR.v (HC.one (HV.p z))))) ((show lf sC (stB (ms.getD j default) (ck (ms.take j) l) i) (0 + i) 0 = _ by rw [Nat.zero_add];exact congrArg asC (b33 hil)))) rfl ?_
    refine w_3 ?_
    refine d4 (ι:=Unit) ⟨[(1,some _),(7,some _),(9,some _),(11,some _),(12,some _),(13,some _),(26,some _),(27,some _),(28,some _),(32,some _),(33,some _),(34,some _)],[(2,some _)]⟩ ⟨⟨c9,c9,c9,c9,c9,c9,c9,c9,c9,c9,c9,c9,trivial⟩,⟨u9,trivial⟩⟩ (fun _i=>⟨[(57,some (vB (en (ms.getD j default) ((ck (ms.take j) l).getD i default))))],[(900,some (.arr true 1 46 (stB (ms.getD j default) (ck (ms.take j) l) i).length (lf sC (stB (ms.getD j default) (ck (ms.take j) l) i))))]⟩) (fun _i=>True) ?_ ?_
    ·
     refine w_7 ?_;refine b9 rfl rfl (fun r8=>?_) (fun r8=>?_)
     ·
      have h8:=ae r8
      try simp only [ty] at h8
      have g1:((ck (ms.take j) l).getD i default) &&& (ms.getD j default).lhs = 0:=a4d h8
      (iterate 5 refine qy ?_ (hg:=(gtt r8)));refine w_2 ?_;refine b9 rfl rfl (fun r9=>?_) (fun r9=>?_)
      ·
       have h9:=r9
       have h9:=du r8 h9
       have h9:=aa (au h9)
       try simp only [ty] at h9
       have g2:¬ ((ck (ms.take j) l).getD i default) &&& (ms.getD j default).rhs = 0:=yw h9
       (iterate 5 refine qy ?_ (hg:=(gtt r9)));refine w_2 ?_;refine ⟨(), ?_, ?_⟩
       · trivial
       exact ⟨⟨⟨_,rfl,(cob (by first | exact a5i _ _ | exact (a4x g1).symm | exact (a5d g2).symm))⟩,c9,c9,c9,c9,c9,c9,c9,c9,c9,c9,c9,c9,trivial⟩,⟨u9,u9,trivial⟩⟩
      have h9:=r9
      have h9:=du r8 h9
      have h9:=ae (ar h9)
      try simp only [ty] at h9
      have g2:((ck (ms.take j) l).getD i default) &&& (ms.getD j default).rhs = 0:=a4d h9
      (iterate 5 refine k9 (gft r9) ?_);refine rq rfl rfl rfl rfl rfl ?_ (hp:=r9);refine ax ?_;refine ⟨(), ?_, ?_⟩
      · trivial
      exact ⟨⟨⟨_,rfl,(cob (by first | exact a5i _ _ | exact (a4x g1).symm | exact (a5d g2).symm))⟩,c9,c9,c9,c9,c9,c9,c9,c9,c9,c9,c9,c9,trivial⟩,⟨u9,u9,trivial⟩⟩
     have h8:=aa r8
     try simp only [ty] at h8
     have g1:¬ ((ck (ms.take j) l).getD i default) &&& (ms.getD j default).lhs = 0:=yw h8
     (iterate 5 refine k9 (gft r8) ?_);refine rq rfl rfl rfl rfl rfl ?_ (hp:=r8);refine qy ?_;(iterate 5 refine k9 rfl ?_);refine w_2 ?_;refine ⟨(), ?_, ?_⟩
     · trivial
     exact ⟨⟨⟨_,rfl,(cob (by first | exact a5i _ _ | exact (a4x g1).symm | exact (a5d g2).symm))⟩,c9,c9,c9,c9,c9,c9,c9,c9,c9,c9,c9,c9,trivial⟩,⟨u9,u9,trivial⟩⟩
    rintro _ _
    refine a6 _ rfl (fun r10=>?_) (fun r10=>?_)
    ·
     have h10:=r10
     have hs:en (ms.getD j default) ((ck (ms.take j) l).getD i default) = true:=r10
     have hl2:(stB (ms.getD j default) (ck (ms.take j) l) (i + 1)).length = (stB (ms.getD j default) (ck (ms.take j) l) i).length + 1:=by rw [adr hil hs,List.length_append,List.length_set];rfl
     refine fc ?_;refine b0d 7 32 rfl rfl rfl rfl rfl rfl (fun ad cap hcap=>?_) ?_
     ·
      refine w_6 ?_;refine m9 5 ?_;refine ra 6 true rfl rfl rfl rfl rfl rfl ?_;refine w_2 ?_;refine aub 7 32 rfl rfl rfl rfl (by dsimp only at *;omega) rfl ?_;refine w_7 ?_
      first | (refine ⟨(i + 1, true), ?_, ?_, ?_⟩
               · show i + 1 ≤ _;omega
               · first | omega | (dsimp only;omega)
               exact ⟨⟨⟨_,rfl,(CoR.of_eq (congrArg (fun z=>HR.v (.one (.ref 900 z))) hl2.symm))⟩,⟨_,rfl,(cob (tt _ hil hs))⟩,⟨_,rfl,(CoR.refl _)⟩,⟨_,rfl,(CoR.of_eq (congrArg (fun z=>HR.v (.one (.win 900 z 0 _))) hl2.symm))⟩,c9,c9,c9,c9,c9,c9,trivial⟩,⟨⟨_,rfl,(tw hil hs rfl (gl _ _) (CoP.of_eq (congrArg (fun z=>PV.raw (.int .u32 z)) (jn _ _))))⟩,u9,trivial⟩⟩)
            | (refine ⟨(i + 1,false), ?_, ?_, ?_⟩
               · show i + 1 ≤ _;omega
               · first | omega | (dsimp only;omega)
               exact ⟨⟨⟨_,rfl,(CoR.of_eq (congrArg (fun z=>HR.v (.one (.ref 951 z))) hl2.symm))⟩,⟨_,rfl,(cob (tt _ hil hs))⟩,⟨_,rfl,(CoR.refl _)⟩,⟨_,rfl,(CoC.one (afu hil))⟩,c9,c9,c9,c9,c9,c9,trivial⟩,⟨⟨_,rfl,(tw hil hs rfl (gl _ _) (CoP.of_eq (congrArg (fun z=>PV.raw (.int .u32 z)) (jn _ _))))⟩,u9,trivial⟩⟩)
            | (refine ⟨(i + 1,true), ?_, ?_, ?_⟩
               · show i + 1 ≤ _;omega
               · first | omega | (dsimp only;omega)
               exact ⟨⟨⟨_,rfl,(cg (mi hil hs))⟩,⟨_,rfl,(cob (a26 _ hil hs))⟩,⟨_,rfl,(CoR.refl _)⟩,⟨_,rfl,(CoR.of_eq (congrArg (fun z=>HR.v (.one (.win 900 z 0 _))) (congrArg List.length (mi hil hs)).symm))⟩,c9,c9,c9,c9,c9,c9,trivial⟩,⟨⟨_,rfl,(cb (mi hil hs))⟩,u9,trivial⟩⟩)
     refine w_6 ?_;refine m9 950 ?_;refine ra 951 true rfl rfl rfl rfl rfl rfl ?_;refine w_9 ?_
     first | (refine ⟨(i + 1, true), ?_, ?_, ?_⟩
              · show i + 1 ≤ _;omega
              · first | omega | (dsimp only;omega)
              exact ⟨⟨⟨_,rfl,(CoR.of_eq (congrArg (fun z=>HR.v (.one (.ref 900 z))) hl2.symm))⟩,⟨_,rfl,(cob (tt _ hil hs))⟩,⟨_,rfl,(CoR.refl _)⟩,⟨_,rfl,(CoR.of_eq (congrArg (fun z=>HR.v (.one (.win 900 z 0 _))) hl2.symm))⟩,c9,c9,c9,c9,c9,c9,trivial⟩,⟨⟨_,rfl,(tw hil hs rfl (gl _ _) (CoP.of_eq (congrArg (fun z=>PV.raw (.int .u32 z)) (jn _ _))))⟩,u9,trivial⟩⟩)
           | (refine ⟨(i + 1,false), ?_, ?_, ?_⟩
              · show i + 1 ≤ _;omega
              · first | omega | (dsimp only;omega)
              exact ⟨⟨⟨_,rfl,(CoR.of_eq (congrArg (fun z=>HR.v (.one (.ref 951 z))) hl2.symm))⟩,⟨_,rfl,(cob (tt _ hil hs))⟩,⟨_,rfl,(CoR.refl _)⟩,⟨_,rfl,(CoC.one (afu hil))⟩,c9,c9,c9,c9,c9,c9,trivial⟩,⟨⟨_,rfl,(tw hil hs rfl (gl _ _) (CoP.of_eq (congrArg (fun z=>PV.raw (.int .u32 z)) (jn _ _))))⟩,u9,trivial⟩⟩)
           | (refine ⟨(i + 1,true), ?_, ?_, ?_⟩
              · show i + 1 ≤ _;omega
              · first | omega | (dsimp only;omega)
              exact ⟨⟨⟨_,rfl,(cg (mi hil hs))⟩,⟨_,rfl,(cob (a26 _ hil hs))⟩,⟨_,rfl,(CoR.refl _)⟩,⟨_,rfl,(CoR.of_eq (congrArg (fun z=>HR.v (.one (.win 900 z 0 _))) (congrArg List.length (mi hil hs)).symm))⟩,c9,c9,c9,c9,c9,c9,trivial⟩,⟨⟨_,rfl,(cb (mi hil hs))⟩,u9,trivial⟩⟩)
    have h10:=r10
    have hs:en (ms.getD j default) ((ck (ms.take j) l).getD i default) = false:=r10
    refine w_5 ?_
    first | (refine ⟨(i + 1, true), ?_, ?_, ?_⟩
             · show i + 1 ≤ _;omega
             · first | omega | (dsimp only;omega)
             exact ⟨⟨⟨_,rfl,(CoR.of_eq (congrArg (fun z=>HR.v (.one (.ref 900 z))) hl2.symm))⟩,⟨_,rfl,(cob (tt _ hil hs))⟩,⟨_,rfl,(CoR.refl _)⟩,⟨_,rfl,(CoR.of_eq (congrArg (fun z=>HR.v (.one (.win 900 z 0 _))) hl2.symm))⟩,c9,c9,c9,c9,c9,c9,trivial⟩,⟨⟨_,rfl,(tw hil hs rfl (gl _ _) (CoP.of_eq (congrArg (fun z=>PV.raw (.int .u32 z)) (jn _ _))))⟩,u9,trivial⟩⟩)
          | (refine ⟨(i + 1,false), ?_, ?_, ?_⟩
             · show i + 1 ≤ _;omega
             · first | omega | (dsimp only;omega)
             exact ⟨⟨⟨_,rfl,(CoR.of_eq (congrArg (fun z=>HR.v (.one (.ref 951 z))) hl2.symm))⟩,⟨_,rfl,(cob (tt _ hil hs))⟩,⟨_,rfl,(CoR.refl _)⟩,⟨_,rfl,(CoC.one (afu hil))⟩,c9,c9,c9,c9,c9,c9,trivial⟩,⟨⟨_,rfl,(tw hil hs rfl (gl _ _) (CoP.of_eq (congrArg (fun z=>PV.raw (.int .u32 z)) (jn _ _))))⟩,u9,trivial⟩⟩)
          | (refine ⟨(i + 1,true), ?_, ?_, ?_⟩
             · show i + 1 ≤ _;omega
             · first | omega | (dsimp only;omega)
             exact ⟨⟨⟨_,rfl,(cg (mi hil hs))⟩,⟨_,rfl,(cob (a26 _ hil hs))⟩,⟨_,rfl,(CoR.refl _)⟩,⟨_,rfl,(CoR.of_eq (congrArg (fun z=>HR.v (.one (.win 900 z 0 _))) (congrArg List.length (mi hil hs)).symm))⟩,c9,c9,c9,c9,c9,c9,trivial⟩,⟨⟨_,rfl,(cb (mi hil hs))⟩,u9,trivial⟩⟩)
   have h7:=aa r7
   try simp only [ty] at h7
   obtain rfl:i = (ck (ms.take j) l).length:=by omega
   refine w_5 ?_;refine ⟨j + 1, ?_, ?_, ?_⟩
   · show j + 1 ≤ _;omega
   · first | omega | (dsimp only;omega)
   exact ⟨⟨⟨_,rfl,(cg (by rw [a19 (by omega),a0c]))⟩,⟨_,rfl,(cob (by rw [aeb (by omega),List.take_length]))⟩,zy,c9,c9,c9,trivial⟩,⟨⟨_,rfl,(cb (by rw [a19 (by omega),a0c]))⟩,trivial⟩⟩
  have h2:=aa r2
  try simp only [ty] at h2
  obtain rfl:j = ms.length:=by omega
  rw [show ms.take ms.length = ms from List.take_length]
  refine fe ?_;refine ⟨(f - 1,ck ms l,mc ms l), ?_, ?_, ?_⟩
  · exact hI2
  · exact b1i hf
  exact ⟨⟨zy,zy,c9,trivial⟩,⟨u9,trivial⟩⟩
 have h1:=r1
 obtain rfl:ag = false:=r1
 have hl:l = (blks ms (aq n &&& ~~~x)):=hI.f rfl
 subst hl
 refine w_2 ?_;refine bi 7 rfl rfl rfl ?_;refine w_2 ?_;refine qcx vt (a3p (blks ms (aq n &&& ~~~x)) (Nat.le_trans (ab5 hI.ok) (by decide))) ?_;refine w_2 ?_
 exact hx8 rfl rfl rfl (CoL.refl _)
end
section
theorem b3h {f:Fd} {k:Nat} (h:k < (ap f.rhs).length):(sgl f).getD k default = ⟨f.lhs,alo ((ap f.rhs).getD k default)⟩:=by
 unfold sgl
 simp [List.getD_eq_getElem?_getD,List.getElem?_eq_getElem h]
theorem a8i (f:Fd):(sgl f).length = (ap f.rhs).length:=by unfold sgl;rw [List.length_map]
theorem ais {fs ms:List Fd} {i k:Nat} (h:k < (ap (fs.getD i default).rhs).length):jq fs ms i (k + 1) = jq fs ms i k ++ [⟨(fs.getD i default).lhs,alo ((ap (fs.getD i default).rhs).getD k default)⟩]:=by
 rw [aql (by rw [a8i];exact h),b3h h]
theorem akd {fs ms:List Fd} {i:Nat} (h:i < fs.length):jq fs ms (i + 1) 0 = jq fs ms i (ap (fs.getD i default).rhs).length:=by rw [aom h,a8i]
theorem b1l {a b:AS} {k:Nat} (h:sub a b) (hb:b >>> k = 0):a >>> k = 0:=by
 apply a0a
 intro i hi
 have:=congrArg (fun z:AS=>z.getLsbD i) hb
 simp only [BitVec.getLsbD_ushiftRight] at this ⊢
 cases ha:a.getLsbD (k + i) with
 | false=>simp
 | true=>rw [ct.1 h _ (aq3 ha) ha] at this;simp at this
def a3j (b:AS) (f:Fd):Bool:=!decide ((f.rhs &&& ~~~f.lhs) &&& b = 0)
def a05 (l:List Fd) (o b:AS):AS:=if bsz b = 1 then (if l.any (a3j b) = true then o ||| b else o) else o
def wc (l:List Fd) (o:AS) (bs:List AS):AS:=bs.foldl (a05 l) o
theorem a3k {l:List Fd} {o:AS} {bs:List AS} {i:Nat} (h:i < bs.length):wc l o (bs.take (i + 1)) = a05 l (wc l o (bs.take i)) (bs.getD i default):=by
 unfold wc
 rw [b5 h,List.foldl_append]
 rfl
section
variable {l:List Fd} {o:AS} {bs:List AS} {i:Nat}
theorem af5 (h:i < bs.length) (hq:¬ bsz (bs.getD i default) = 1):wc l o (bs.take i) = wc l o (bs.take (i + 1)):=by rw [a3k h,a05,if_neg hq]
theorem aem (h:i < bs.length) (hq:bsz (bs.getD i default) = 1) (ha:l.any (a3j (bs.getD i default)) = false):wc l o (bs.take i) = wc l o (bs.take (i + 1)):=by rw [a3k h,a05,if_pos hq,if_neg (by rw [ha];decide)]
theorem agn (h:i < bs.length) (hq:bsz (bs.getD i default) = 1) (ha:l.any (a3j (bs.getD i default)) = true):wc l o (bs.take i) ||| bs.getD i default = wc l o (bs.take (i + 1)):=by rw [a3k h,a05,if_pos hq,if_pos ha]
end
def f5 (n:Int) (l m:List Fd) (x:AS):List AS:=ord (blks (a5h l m) (aq n &&& ~~~x))
def avz (n:Int) (l m:List Fd) (x:AS):List AS:=if ckB n l m x = 0 then f5 n l m x else []
def yd (n:Int) (l m:List Fd) (x:AS):AS:=wc l x (f5 n l m x)
def ame (n:Int) (l m:List Fd) (x:AS):AS:=if ckB n l m x = 0 then yd n l m x else 0
theorem atz (ms:List Fd) (rest:AS):OkB (blks ms rest):=by
 have:∀ (f:Nat) (l:List AS),OkB l → OkB (a1a ms f l):=by
  intro f
  induction f with
  | zero=>intro l h;exact h
  | succ f ih =>
   intro l h
   unfold a1a
   split
   · exact ih _ (a4z h)
   exact a4z h
 exact this _ _ (acz rest)
theorem a6m (n:Int) (l m:List Fd) (x:AS):(f5 n l m x).length ≤ 4294967296:=Nat.le_trans (l7 _) (ab5 (atz _ _))
def ou (p:AS) (bs:List AS):List AS:=(bs.filter fun b=>!decide (b &&& p = 0)).map fun b=>b &&& p
theorem a9s {p:AS} {bs:List AS} {i:Nat} (h:i < bs.length) (hq:¬ bs.getD i default &&& p = 0):ou p (bs.take (i + 1)) = ou p (bs.take i) ++ [bs.getD i default &&& p]:=by
 unfold ou
 rw [b5 h,List.filter_append,List.map_append,List.filter_cons,if_pos (by rw [decide_eq_false hq];rfl)]
 rfl
theorem a8u {p:AS} {bs:List AS} {i:Nat} (h:i < bs.length) (hq:bs.getD i default &&& p = 0):ou p (bs.take (i + 1)) = ou p (bs.take i):=by
 unfold ou
 rw [b5 h,List.filter_append,List.map_append,List.filter_cons,if_neg (by rw [decide_eq_true hq];decide)]
 simp
theorem ady (p:AS) (bs:List AS):(ou p bs).length ≤ bs.length:=by
 unfold ou
 rw [List.length_map]
 exact List.length_filter_le _ _
def so (n:Int) (l m:List Fd) (x p:AS):List AS:=ord (ou p (f5 n l m x))
theorem ak8 (n:Int) (l m:List Fd) (x p:AS):(ou p (f5 n l m x)).length ≤ 8589934592:=Nat.le_trans (ady _ _) (Nat.le_trans (a6m _ _ _ _) (by decide))
def ck4 (n:Int) (l m:List Fd) (s:AS):Int:=if n < 0 ∨ 8 < n then 7 else ckB n l m s
theorem ax6 {n:Int} {l m:List Fd} {s:AS} (h:n < 0 ∨ 8 < n):ck4 n l m s = 7:=if_pos h
theorem adu {n:Int} {l m:List Fd} {s:AS} (h:¬ (n < 0 ∨ 8 < n)):ck4 n l m s = ckB n l m s:=if_neg h
theorem ae7 {n:Int} {l m:List Fd} {s:AS} (h:ck4 n l m s = 0):0 ≤ n ∧ n ≤ 8 ∧ ckB n l m s = 0:=by
 unfold ck4 at h
 split at h
 · cases h
 exact ⟨by omega,by omega,h⟩
theorem aaq {n:Int} {l m:List Fd} {s t:AS} (h:ckB n l m s = 0) (ht:sub t s):ckB n l m t = 0:=amq (a9i h).1 (b1l ht (a9i h).2)
theorem b38 {n:Int} {l m:List Fd} {s t:AS} (h:ck4 n l m s = 0) (ht:sub t s):ck4 n l m t = 0:=by
 obtain ⟨h1,h2,h3⟩:=ae7 h
 rw [adu (by omega)]
 exact aaq h3 ht
def au7 (n:Int) (l m:List Fd) (x p:AS):List AS:=if ck4 n l m (x ||| p) = 0 then so n l m x p else []
def a82 (n:Int) (l m:List Fd) (p x:AS):Option Fd:=if p &&& ~~~(yd n l m x) = 0 then none else if 1 < (so n l m x p).length then some ⟨x,(so n l m x p).getD 0 default⟩ else none
def aaf (n:Int) (l m:List Fd) (p:AS):Option Fd:=(be p).findSome? (a82 n l m p)
def an1:Option Fd → Fd × Bool
 | some v=>(v,true)
 | none=>(⟨0,0⟩,false)
def a49 (n:Int) (l m:List Fd) (p:AS):Fd × Bool:=if ck4 n l m p = 0 then an1 (aaf n l m p) else (⟨0,0⟩,false)
theorem b6n {n:Int} {l m:List Fd} {p:AS} (h:¬ ck4 n l m p = 0):a49 n l m p = (⟨0,0⟩,false):=if_neg h
theorem aqn {n:Int} {l m:List Fd} {p:AS} (h:ck4 n l m p = 0):a49 n l m p = an1 (aaf n l m p):=if_pos h
theorem a3r {α β:Type} [Inhabited α] {f:α → Option β} {l:List α} {i:Nat} (h:i < l.length) (hn:(l.take i).findSome? f = none):(l.take (i + 1)).findSome? f = f (l.getD i default):=by
 rw [b5 h,List.findSome?_append,hn]
 simp only [List.findSome?_cons,List.findSome?_nil,Option.none_or]
 cases f (l.getD i default) <;> rfl
theorem aps {α β:Type} [Inhabited α] {f:α → Option β} {l:List α} {i:Nat} {v:β} (h:i < l.length) (hn:(l.take i).findSome? f = none) (hv:f (l.getD i default) = some v):l.findSome? f = some v:=by
 have h1:=a3r h hn
 rw [hv] at h1
 rw [← List.take_append_drop (i + 1) l,List.findSome?_append,h1]
 rfl
theorem arj {s z:AS} (h:z ∈ be s):sub z s:=by
 unfold be at h
 split at h
 · cases h
 exact xj.1 h
theorem a3e {α:Type} [Inhabited α] {l:List α} {i:Nat} (h:i < l.length):l.getD i default ∈ l:=by
 rw [List.getD_eq_getElem?_getD,List.getElem?_eq_getElem h]
 exact List.getElem_mem h
def bcy (V:AS → Option Fd):Prop:=∀ p v,V p = some v → sub (v.lhs ||| v.rhs) p ∧ v.lhs ||| v.rhs ≠ p ∧ p &&& ~~~v.rhs ≠ p
section
variable {V:AS → Option Fd}
def vF (V:AS → Option Fd) (s:AS):Fd:=(an1 (V s)).1
def vBo (V:AS → Option Fd) (s:AS):Bool:=(an1 (V s)).2
def b5f (V:AS → Option Fd) (s:AS):AS:=(vF V s).lhs ||| (vF V s).rhs
def b49 (V:AS → Option Fd) (s:AS):AS:=s &&& ~~~(vF V s).rhs
def ahh (V:AS → Option Fd):Nat → List AS → List AS → List AS
 | 0,_,out=>out
 | n + 1,todo,out =>
  if todo.length = 0 then out
  else if vBo V (todo.getD (todo.length - 1) default) = true then ahh V n (todo.take (todo.length - 1) ++ [b5f V (todo.getD (todo.length - 1) default),b49 V (todo.getD (todo.length - 1) default)]) out
  else ahh V n (todo.take (todo.length - 1)) (out ++ [todo.getD (todo.length - 1) default])
def bdh (V:AS → Option Fd) (p0:AS) (x:Nat × List AS × List AS):Prop:=ahh V x.1 x.2.1 x.2.2 = ahh V 6562 [p0] [] ∧ o4 x.2.1 < x.1 ∧ x.2.2.length + x.1 ≤ 6562
def lvG (V:AS → Option Fd):Nat → AS → List AS
 | 0,s=>[s]
 | n + 1,s=>if vBo V s = true then lvG V n (b5f V s) ++ lvG V n (b49 V s) else [s]
end
def bc1 (n:Int) (l m:List Fd):List AS:=ahh (aaf n l m) 6562 [aq n] []
def bcb (n:Int) (l m:List Fd):List AS:=if ck4 n l m 0 = 0 then ic (bc1 n l m) else []
end
section
open Go.Proofs
theorem azc:goodFn Tryz.prog 234:=wgx Tryz.func234
theorem b6e (n:Nat) (c:Bool) (f:Nat → Nat → PV) (hn:n ≤ 17592186044416) :
 dw Tryz.prog 234 [.one (.p (.sl n 2 c f))] [] (.v (.one (.ref 0 n))) [(0, .arr true 2 49 n f)] []:=by
 refine gd (nt:=8) a7 Tryz.func234 rfl rfl l9 rfl ?_;refine sx7 ?_;refine ce true rfl rfl rfl rfl rfl trivial ?_;refine ax ?_
 refine zd (ι:=Bool) (fun c=>⟨[(0,some (bp (.sl n 2 c f)))],[]⟩) (fun _=>True) ?_ fun c _=>?_
 · rcases Nat.eq_zero_or_pos n with hz | h0
   · subst hz
     refine hw_exact' 0 rfl fun ad cap hcap=>?_
     refine sx7 ?_;(iterate 2 refine ce true rfl rfl rfl rfl rfl trivial ?_);refine ax ?_;refine a6 ad.isNone rfl (fun hc=>?_) (fun hc=>?_)
     · refine sx7 ?_
       refine ce true rfl rfl rfl rfl rfl trivial ?_;refine ax ?_;refine d6 2 0 true 2 49 f (by decide) rfl (CoP.sl rfl (.inr rfl) (fun h=>h) fun i j hi _=>absurd hi (Nat.not_lt_zero i)) (.inr rfl) rfl ?_
       refine go ?_;refine ⟨.inr rfl, ?_⟩
       exact ⟨_,_,rfl,trivial,CoR.refl _,⟨u9,trivial⟩⟩
     refine dn ?_
     exact ⟨false,trivial,⟨⟨_,rfl,CoP.raw_sl hcap⟩,trivial⟩,trivial⟩
   refine sx7 ?_;refine ce true rfl rfl rfl rfl rfl trivial ?_;refine ce true rfl rfl rfl rfl rfl h0 ?_;refine ax ?_;refine a6 false rfl (fun hc=>by cases hc) (fun hc=>?_);refine dn ?_
   exact ⟨c,trivial,⟨c9,trivial⟩,trivial⟩
 refine sx7 ?_;refine vn 0 rfl rfl rfl rfl rfl rfl trivial ?_;refine ce true rfl rfl rfl rfl rfl trivial ?_
 refine a35 0 true rfl rfl rfl rfl rfl rfl ⟨trivial,rfl,rfl,rfl, .inl rfl,by show 0 + n ≤ 9223372036854775807;omega,by show (0 + n) * 8 ≤ 140737488355328;omega,fun _=>.inl rfl⟩ ?_
 refine ce true rfl rfl rfl rfl rfl trivial ?_;refine w_2 ?_;refine ⟨.inr rfl, ?_⟩;refine ⟨_,_,rfl,trivial,CoR.of_eq (by show HR.v (.one (.ref 0 (0 + n))) = _;rw [Nat.zero_add]),⟨⟨_,rfl, ?_⟩,trivial⟩⟩
 exact ⟨fun h=>h,rfl,rfl,(Nat.zero_add n).symm,fun i j _ _=>CoP.of_eq (by simp [gk])⟩
theorem ajb:goodFn Tryz.prog 187:=wgx Tryz.func187
theorem ajq (n:Int) (l m:List Fd) (x:AS):af Tryz.prog 187 [pI n,pP (fdl l),pP (fdl m),pA x] (aj [pI (ckB n l m x)]):=by
 refine a8 (nt:=21) a7 Tryz.func187 rfl rfl l9 ?_;refine dl ?_;refine qcx zq (vw n l m) ?_;refine w_7 ?_;refine a6 _ rfl (fun r0=>?_) (fun r0=>?_)
 ·
  have h0:=r0
  have h0:=aa (au h0)
  try simp only [ty] at h0
  refine w_5 ?_
  exact hx8 rfl rfl rfl (⟨cci (axr (by assumption)).symm,trivial⟩)
 have h0:=r0
 have h0:=ae (ar h0)
 try simp only [ty] at h0
 have hb:d9 n l m = 0:=h0
 obtain ⟨hn0,hn1,_⟩:=m8 hb
 refine w_6 ?_;refine rq rfl rfl rfl rfl rfl ?_ (hp:=hn0);refine w_2 ?_;refine a6 _ rfl (fun r1=>?_) (fun r1=>?_)
 ·
  have h1:=r1
  have h1:=aa (au h1)
  try simp only [ty] at h1
  refine w_4 ?_
  exact hx8 rfl rfl rfl (⟨cci (ay8 hb (fun e=>(by assumption:¬ _ = _) ((uk x n.toNat).trans (congrArg asI e)))).symm,trivial⟩)
 have h1:=r1
 have h1:=ae (ar h1)
 try simp only [ty] at h1
 refine w_5 ?_
 exact hx8 rfl rfl rfl (⟨cci (amq hb (c8.1 ((uk x n.toNat).symm.trans (by assumption)))).symm,trivial⟩)
theorem aj9:goodFn Tryz.prog 189:=wgx Tryz.func189
theorem axf (l m:List Fd) (hl:l.length ≤ 64) (hm:m.length ≤ 64):af Tryz.prog 189 [pP (fdl l),pP (fdl m)] (aj [pP (fdl (a5h l m))]):=by
 refine a8 (nt:=37) a7 Tryz.func189 rfl rfl l9 ?_;refine w_7 ?_;refine bf rfl rfl rfl rfl rfl rfl azc ((b6e m.length false (lf Fd.c m) (by omega)).swap 0 900) (da.refl _) trivial rfl rfl ?_
 refine dl ?_
 refine ah (ι:=Nat) ⟨[(12,some _),(13,some _)],[]⟩ ⟨⟨c9,c9,trivial⟩,trivial⟩ (fun i=>⟨[(5,some (.v (.one (.ref 900 (jq l m i 0).length)))),(14,some (vI i))],[(900,some (.arr true 2 49 (jq l m i 0).length (lf Fd.c (jq l m i 0))))]⟩) (fun i=>i ≤ l.length) (fun i=>l.length - i) (0) (Nat.zero_le _) ⟨⟨⟨_,rfl,(cg (ac1 l m))⟩,⟨_,rfl,(CoR.refl _)⟩,trivial⟩,⟨⟨_,rfl,(cb (ac1 l m))⟩,trivial⟩⟩ ?_
 rintro i hi
 have hmb:=lg (l.getD i default).rhs
 refine w_5 ?_;refine a6 _ rfl (fun r0=>?_) (fun r0=>?_)
 ·
  have h0:=ae r0
  try simp only [ty] at h0
  refine w_7 ?_;refine m9 0 ?_;refine w_6 ?_;refine qcx za (aad (l.getD i default).rhs) ?_;refine w_4 ?_
  refine ah (ι:=Nat) ⟨[(7,some _),(12,some _),(13,some _),(14,some _),(20,some _),(21,some _)],[(0,some _)]⟩ ⟨⟨c9,c9,c9,c9,c9,c9,trivial⟩,⟨u9,trivial⟩⟩ (fun k=>⟨[(5,some (.v (.one (.ref 900 (jq l m i k).length)))),(22,some (vI k))],[(900,some (.arr true 2 49 (jq l m i k).length (lf Fd.c (jq l m i k))))]⟩) (fun k=>k ≤ (ap (l.getD i default).rhs).length) (fun k=>(ap (l.getD i default).rhs).length - k) (0) (Nat.zero_le _) ⟨⟨zy,⟨_,rfl,(CoR.refl _)⟩,trivial⟩,⟨u9,trivial⟩⟩ ?_
  rintro k hk
  have hal:=avd (fs:=l) (ms:=m) (i:=i) (k:=k)
  refine w_5 ?_;refine a6 _ rfl (fun r1=>?_) (fun r1=>?_)
  ·
   have h1:=ae r1
   try simp only [ty] at h1
   refine w_9 ?_;refine bg (E:=bj) a7 aw [0,1,2,3,4,5,6,7,8] ?_;refine w_6 ?_;refine m9 1 ?_;refine ra 2 true rfl rfl rfl rfl rfl rfl ?_;refine w_2 ?_;refine ⟨by kernel_rfl, ?_⟩;refine w_4 ?_
   refine ⟨k + 1, ?_, ?_, ?_⟩
   · show k + 1 ≤ _;omega
   · first | omega | (dsimp only;omega)
   exact ⟨⟨⟨_,rfl,(ca (ais (by omega)))⟩,zy,c9,c9,c9,c9,c9,c9,trivial⟩,⟨⟨_,rfl,(ov (ais (by omega)) (CoP.refl _) (CoP.of_eq (congrArg (fun z=>PV.raw (.int .u32 z)) (aez 1 _))))⟩,u9,trivial⟩⟩
  have h1:=aa r1
  try simp only [ty] at h1
  obtain rfl:k = (ap (l.getD i default).rhs).length:=by omega
  refine w_5 ?_;refine ⟨i + 1, ?_, ?_, ?_⟩
  · show i + 1 ≤ _;omega
  · first | omega | (dsimp only;omega)
  exact ⟨⟨⟨_,rfl,(cg (akd (by omega)))⟩,zy,c9,c9,trivial⟩,⟨⟨_,rfl,(cb (akd (by omega)))⟩,trivial⟩⟩
 have h0:=aa r0
 try simp only [ty] at h0
 obtain rfl:i = l.length:=by omega
 refine w_6 ?_;refine bi 4 rfl rfl rfl ?_
 exact hx8 rfl rfl rfl (⟨CoC.one (CoP.of_eq (by rw [avf];rfl)),trivial⟩)
theorem b23:goodFn Tryz.prog 192:=wgx Tryz.func192
theorem b00 (n:Int) (l m:List Fd) (x:AS):af Tryz.prog 192 [pI n,pP (fdl l),pP (fdl m),pA x] (aj [pP (asl (avz n l m x)),pI (ckB n l m x)]):=by
 refine a8 (nt:=25) a7 Tryz.func192 rfl rfl l9 ?_;refine fc ?_;refine qcx ajb (ajq n l m x) ?_;refine w_7 ?_;refine a6 _ rfl (fun r0=>?_) (fun r0=>?_)
 ·
  have h0:=r0
  have h0:=aa (au h0)
  try simp only [ty] at h0
  refine w_6 ?_
  exact hx8 rfl rfl rfl (⟨CoC.one (a0z (if_neg (by assumption))),CoC.refl _,trivial⟩)
 have h0:=r0
 have h0:=ae (ar h0)
 try simp only [ty] at h0
 have hz:ckB n l m x = 0:=h0
 have hb:=a9i hz
 obtain ⟨hn0,hn1,hl64,_,hm64,_⟩:=m8 hb.1
 refine w_6 ?_;refine qcx aj9 (axf l m hl64 hm64) ?_;refine qy ?_;refine qcx ajc (ajr n (a5h l m) x hn0 hn1) ?_;refine w_3 ?_
 exact hx8 rfl rfl rfl (⟨CoC.one (CoP.of_eq (by rw [show avz n l m x = f5 n l m x from if_pos hz];rfl)),cci hz.symm,trivial⟩)
theorem b0y:goodFn Tryz.prog 191:=wgx Tryz.func191
theorem b67 (f:Fd) (b:AS):af Tryz.prog 191 [f.pc,pP (bx (asC b))] (aj [pB (a3j b f)]):=by
 refine a8 (nt:=12) a7 Tryz.func191 rfl rfl l9 ?_;refine sx7 ?_;refine m9 0 ?_;refine wg ?_
 exact hx8 rfl rfl rfl (⟨ccb (by unfold a3j;rw [jn,afi]),trivial⟩)
theorem b1j:goodFn Tryz.prog 139:=wgx Tryz.func139
theorem b30 (n:Int) (l m:List Fd) (x:AS):af Tryz.prog 139 [pI n,pP (fdl l),pP (fdl m),pA x] (aj [pA (ame n l m x),pI (ckB n l m x)]):=by
 refine a8 (nt:=45) a7 Tryz.func139 rfl rfl l9 ?_;refine fc ?_;refine qcx ajb (ajq n l m x) ?_;refine w_7 ?_;refine a6 _ rfl (fun r0=>?_) (fun r0=>?_)
 ·
  have h0:=r0
  have h0:=aa (au h0)
  try simp only [ty] at h0
  refine w_6 ?_
  exact hx8 rfl rfl rfl (⟨cci (congrArg asI (show (0:AS) = ame n l m x from (if_neg (by assumption)).symm)),CoC.refl _,trivial⟩)
 have h0:=r0
 have h0:=ae (ar h0)
 try simp only [ty] at h0
 have hz:ckB n l m x = 0:=h0
 have hb:=a9i hz
 obtain ⟨hn0,hn1,hl64,_,hm64,_⟩:=m8 hb.1
 refine fc ?_;refine qcx aj9 (axf l m hl64 hm64) ?_;refine qy ?_;refine qcx ajc (ajr n (a5h l m) x hn0 hn1) ?_;refine w_4 ?_
 have hbl:=a6m n l m x
 refine ah (ι:=Nat) ⟨[(1,some _),(28,some _),(29,some _)],[]⟩ ⟨⟨c9,c9,c9,trivial⟩,trivial⟩ (fun i=>⟨[(11,some (vA (wc l x ((f5 n l m x).take i)))),(30,some (vI i))],[]⟩) (fun i=>i ≤ (f5 n l m x).length) (fun i=>(f5 n l m x).length - i) (0) (Nat.zero_le _) ⟨⟨⟨_,rfl,(CoR.refl _)⟩,⟨_,rfl,(CoR.refl _)⟩,trivial⟩,trivial⟩ ?_
 rintro i hi
 refine w_5 ?_;refine a6 _ rfl (fun r1=>?_) (fun r1=>?_)
 ·
  have h1:=ae r1
  try simp only [ty] at h1
  have hil:i < (f5 n l m x).length:=Int.ofNat_lt.1 h1
  refine w_7 ?_;refine m9 0 ?_;refine w_6 ?_;refine qcx vq (a51 ((f5 n l m x).getD i default)) ?_;refine w_2 ?_;refine a6 _ rfl (fun r2=>?_) (fun r2=>?_)
  ·
   have h2:=r2
   have h2:=aa (au h2)
   try simp only [ty] at h2
   have hq:¬ bsz ((f5 n l m x).getD i default) = 1:=fun e=>h2 (by rw [e];rfl)
   refine w_5 ?_;refine ⟨i + 1, ?_, ?_, ?_⟩
   · show i + 1 ≤ _;omega
   · first | omega | (dsimp only;omega)
   exact ⟨⟨⟨_,rfl,(by first | exact dz (congrArg asI (af5 hil hq)) | exact dz (congrArg asI (aem hil hq ha)) | exact dz ((bOr _ _).trans (congrArg asI (agn hil hq ha))))⟩,zy,c9,c9,c9,trivial⟩,trivial⟩
  have h2:=r2
  have h2:=ae (ar h2)
  try simp only [ty] at h2
  have hq:bsz ((f5 n l m x).getD i default) = 1:=Int.ofNat_inj.1 h2
  refine w_2 ?_;refine cz 13 rfl rfl rfl ?_;refine w_3 ?_
  refine qcx b29 (bab l 191 1 (fun j=>[bx (asC ((f5 n l m x).getD i default))].getD j .any) (a3j ((f5 n l m x).getD i default)) b0y (fun f=>b67 f ((f5 n l m x).getD i default))) ?_;refine ax ?_
  refine a6 _ rfl (fun r3=>?_) (fun r3=>?_)
  ·
   have h3:=r3
   have ha:l.any (a3j ((f5 n l m x).getD i default)) = true:=r3
   refine dl ?_;refine ⟨i + 1, ?_, ?_, ?_⟩
   · show i + 1 ≤ _;omega
   · first | omega | (dsimp only;omega)
   exact ⟨⟨⟨_,rfl,(by first | exact dz (congrArg asI (af5 hil hq)) | exact dz (congrArg asI (aem hil hq ha)) | exact dz ((bOr _ _).trans (congrArg asI (agn hil hq ha))))⟩,zy,c9,c9,c9,trivial⟩,trivial⟩
  have h3:=r3
  have ha:l.any (a3j ((f5 n l m x).getD i default)) = false:=r3
  refine w_5 ?_;refine ⟨i + 1, ?_, ?_, ?_⟩
  · show i + 1 ≤ _;omega
  · first | omega | (dsimp only;omega)
  exact ⟨⟨⟨_,rfl,(by first | exact dz (congrArg asI (af5 hil hq)) | exact dz (congrArg asI (aem hil hq ha)) | exact dz ((bOr _ _).trans (congrArg asI (agn hil hq ha))))⟩,zy,c9,c9,c9,trivial⟩,trivial⟩
 have h1:=aa r1
 try simp only [ty] at h1
 obtain rfl:i = (f5 n l m x).length:=Nat.le_antisymm hi (Nat.le_of_not_lt fun q=>h1 (Int.ofNat_lt.2 q))
 rw [show (f5 n l m x).take (f5 n l m x).length = (f5 n l m x) from List.take_length]
 refine w_7 ?_
 exact hx8 rfl rfl rfl (⟨cci (congrArg asI (show yd n l m x = ame n l m x from (if_pos hz).symm)),cci hz.symm,trivial⟩)
theorem ar2:goodFn Tryz.prog 79:=wgx Tryz.func79
theorem aix (n:Int) (l m:List Fd) (s:AS):af Tryz.prog 79 [pI n,pP (fdl l),pP (fdl m),pA s] (aj [pI (ck4 n l m s)]):=by
 refine a8 (nt:=27) a7 Tryz.func79 rfl rfl l9 ?_;refine dl ?_;refine b9 rfl rfl (fun r0=>?_) (fun r0=>?_)
 ·
  have h0:=ae r0
  try simp only [ty] at h0
  (iterate 2 refine k9 (gtf r0) ?_);refine rq rfl rfl rfl rfl rfl ?_ (hp:=r0);refine ax ?_;refine a6 _ rfl (fun _=>?_) (fun e=>by cases e);refine w_4 ?_
  exact hx8 rfl rfl rfl (⟨cci (ax6 (by omega)).symm,trivial⟩)
 have h0:=aa r0
 try simp only [ty] at h0
 (iterate 2 refine qy ?_ (hg:=(gff r0)));refine w_2 ?_;refine a6 _ rfl (fun r1=>?_) (fun r1=>?_)
 ·
  have h1:=r1
  have h1:=c6 r0 h1
  have h1:=ae h1
  try simp only [ty] at h1
  refine w_4 ?_
  exact hx8 rfl rfl rfl (⟨cci (ax6 (by omega)).symm,trivial⟩)
 have h1:=r1
 have h1:=c6 r0 h1
 have h1:=aa h1
 try simp only [ty] at h1
 refine w_7 ?_;refine qcx zq (vw n l m) ?_;refine w_7 ?_;refine a6 _ rfl (fun r2=>?_) (fun r2=>?_)
 ·
  have h2:=r2
  have h2:=aa (au h2)
  try simp only [ty] at h2
  have hc:¬ (n < 0 ∨ 8 < n):=by omega
  refine w_5 ?_
  exact hx8 rfl rfl rfl (⟨cci ((adu hc).trans (axr (by assumption))).symm,trivial⟩)
 have h2:=r2
 have h2:=ae (ar h2)
 try simp only [ty] at h2
 have hb:d9 n l m = 0:=h2
 obtain ⟨hn0,hn1,_⟩:=m8 hb
 have hc:¬ (n < 0 ∨ 8 < n):=by omega
 refine w_6 ?_;refine rq rfl rfl rfl rfl rfl ?_ (hp:=hn0);refine w_2 ?_;refine a6 _ rfl (fun r3=>?_) (fun r3=>?_)
 ·
  have h3:=r3
  have h3:=aa (au h3)
  try simp only [ty] at h3
  refine w_4 ?_
  exact hx8 rfl rfl rfl (⟨cci ((adu hc).trans (ay8 hb (fun e=>(by assumption:¬ _ = _) ((uk s n.toNat).trans (congrArg asI e))))).symm,trivial⟩)
 have h3:=r3
 have h3:=ae (ar h3)
 try simp only [ty] at h3
 refine w_5 ?_
 exact hx8 rfl rfl rfl (⟨cci ((adu hc).trans (amq hb (c8.1 ((uk s n.toNat).symm.trans (by assumption))))).symm,trivial⟩)
end
end Go.Hx

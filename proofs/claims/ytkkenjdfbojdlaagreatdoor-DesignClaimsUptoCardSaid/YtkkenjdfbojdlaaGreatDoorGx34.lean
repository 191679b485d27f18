/- A part of the proof: Y1 Bz4 Y2 Y3 Bz5. -/
import Derived.Test.YtkkenjdfbojdlaaGreatDoorGx16
import Derived.Test.YtkkenjdfbojdlaaGreatDoorGx20
import Derived.Test.YtkkenjdfbojdlaaGreatDoorGx22
import Derived.Test.YtkkenjdfbojdlaaGreatDoorGx30
import Derived.Test.YtkkenjdfbojdlaaGreatDoorGx31
import Derived.Test.YtkkenjdfbojdlaaGreatDoorGx32
import Derived.Test.YtkkenjdfbojdlaaGreatDoorGx33
set_option linter.all false
set_option maxRecDepth 100000
set_option maxHeartbeats 1000000
namespace Go.Hx
section
open Go.Proofs
theorem u7 {a b:AS} (h:aw .and .u32 (asI a) (asI b) = 0):a &&& b = 0:=cg.1 ((fj a b).symm.trans h)
theorem ou {a b:AS} (h:¬ aw .and .u32 (asI a) (asI b) = 0):¬ a &&& b = 0:=fun e=>h ((fj a b).trans (congrArg asI e))
theorem arc {a b:AS} (h:aw .andNot .u32 (asI a) (asI b) = 0):a &&& ~~~b = 0:=cg.1 ((go a b).symm.trans h)
theorem aib {a b:AS} (h:¬ aw .andNot .u32 (asI a) (asI b) = 0):¬ a &&& ~~~b = 0:=fun e=>h ((go a b).trans (congrArg asI e))
theorem a6x {m:Fd} {x:AS} (h:¬ x &&& m.lhs = 0):dw m x = false:=by unfold dw;rw [decide_eq_false h];rfl
theorem a81 {m:Fd} {x:AS} (h:x &&& m.rhs = 0):dw m x = false:=by simp [dw,h]
theorem ai6 (a b:AS):decide (aw .and .u32 (asI a) (asI b) = 0) = decide (a &&& b = 0):=by
 by_cases h:aw .and .u32 (asI a) (asI b) = 0
 · rw [decide_eq_true h,decide_eq_true (u7 h)]
 rw [decide_eq_false h,decide_eq_false (ou h)]
theorem bcl (a b:AS):decide (aw .andNot .u32 (asI a) (asI b) = 0) = decide (a &&& ~~~b = 0):=by
 by_cases h:aw .andNot .u32 (asI a) (asI b) = 0
 · rw [decide_eq_true h,decide_eq_true (arc h)]
 rw [decide_eq_false h,decide_eq_false (aib h)]
theorem a7y (m:Fd) (x:AS):(bif (bif decide (aw .and .u32 (asI x) (asI m.lhs) = 0) then !decide (aw .and .u32 (asI x) (asI m.rhs) = 0) else false) then !decide (aw .andNot .u32 (asI x) (asI m.rhs) = 0) else false) = dw m x:=by
 rw [ai6,ai6,bcl];unfold dw;by_cases h1:x &&& m.lhs = 0 <;> by_cases h2:x &&& m.rhs = 0 <;> by_cases h3:x &&& ~~~m.rhs = 0 <;> simp only [h1,h2,h3,decide_true,decide_false,ne_eq,not_true_eq_false,not_false_eq_true,bnt,boo,cond_true,cond_false,Bool.and_self,Bool.and_true,bmt,boq,Bool.false_and]
theorem w9 {m:Fd} {l:List AS} {i:Nat} (c:Bool) (h:i < l.length) (hs:dw m (l.getD i default) = true):true = (c || (l.take (i + 1)).any (dw m)):=by
 rw [ay h,List.any_append];simp only [List.any_cons,List.any_nil,hs,Bool.or_true,Bool.or_false]
theorem a4n {m:Fd} {l:List AS} {i:Nat} (c:Bool) (h:i < l.length) (hs:dw m (l.getD i default) = false):(c || (l.take i).any (dw m)) = (c || (l.take (i + 1)).any (dw m)):=by
 rw [ay h,List.any_append];simp only [List.any_cons,List.any_nil,hs,Bool.or_true,Bool.or_false]
def as9 (x:Nat × List AS × Bool):Nat:=x.1 + (bif x.2.2 then 1 else 0)
theorem b6h {f:Nat} {l l':List AS} {c:Bool} (h:0 < f):as9 (f - 1,l',c) < as9 (f,l,true):=by
 cases c <;> simp only [as9,cond_true,cond_false] <;> omega
theorem anp:goodFn Tryz.prog 188:=wgx Tryz.func188
theorem apr (n:Int) (ms:List Fd) (x:AS) (h0:0 <= n) (h1:n <= 16):a7 Tryz.prog 188 [pI n,pP (fdl ms),pA x] (ae [pP (asl (ord (blks ms (aa n &&& ~~~x))))]):=by
 refine hpx (nt:=76) Tryz.func188 ?_;refine cb 1 rfl fun hn=>?_;have hrest:aw .andNot .u32 (IntKind.wrap .u32 (1 * 2 ^ (min n.toNat 32)) - 1) (asI x) = asI (aa n &&& ~~~x):=by rw [ua h0 h1,go]
 refine w_8 ?_;refine cj 7 900 true 1 46 (lf sC []) boz rfl (CoP.sl rfl (.inr rfl) (fun h=>h) (fun i j hi _=>absurd hi (bkp i))) (.inr rfl) rfl ?_;refine bu (ι:=Unit) ⟨[(1,some _)],[]⟩ ⟨⟨c9,trivial⟩,trivial⟩ (fun _i=>⟨[(7,some (.v (.one (.ref 900 (ju (aa n &&& ~~~x)).length))))],[(900,some (.arr true 1 46 (ju (aa n &&& ~~~x)).length (lf sC (ju (aa n &&& ~~~x)))))]⟩) (fun _i=>True) ?_ ?_
 ·
  refine w_4 ?_;refine rq rfl rfl rfl rfl rfl ?_ (hp:=⟨yn h0 h1,wz h0 h1⟩);refine w_9 ?_;refine hcn (fun h0=>?_) (fun h0=>?_)
  · have hne:¬ (aa n &&& ~~~x) = 0:=fun e=>h0 (hrest.trans (congrArg asI e));refine w_3 ?_;refine m9 0 ?_;refine r9 1 true ?_;refine w_2 ?_;exact jnx () ⟨⟨⟨_,rfl,(by first | exact c7 (a6m hne) | exact ca (a8b hz))⟩,c9,trivial⟩,⟨⟨_,rfl,(by first | exact bz (a6m hne) (CoP.of_eq (congrArg (fun z=>PV.raw (.int .u32 z)) hrest)) | exact bv (a8b hz))⟩,trivial⟩⟩
  have hz:(aa n &&& ~~~x) = 0:=cg.1 (hrest.symm.trans h0);refine d7 ?_;exact jnx () ⟨⟨⟨_,rfl,(by first | exact c7 (a6m hne) | exact ca (a8b hz))⟩,c9,trivial⟩,⟨⟨_,rfl,(by first | exact bz (a6m hne) (CoP.of_eq (congrArg (fun z=>PV.raw (.int .u32 z)) hrest)) | exact bv (a8b hz))⟩,trivial⟩⟩
 rintro _ _;refine w_6 ?_;refine a6 (ι:=(Nat × List AS × Bool)) ⟨[(1,some _)],[]⟩ ⟨⟨c9,trivial⟩,trivial⟩ (fun y=>⟨[(7,some (.v (.one (.ref 900 y.2.1.length)))),(9,some (vB y.2.2))],[(900,some (.arr true 1 46 y.2.1.length (lf sC y.2.1)))]⟩) (fun y=>BkI ms (blks ms (aa n &&& ~~~x)) y) (fun y=>as9 y) ((18446744073709551616,ju (aa n &&& ~~~x),true)) (b0v ms (aa n &&& ~~~x)) ⟨⟨zy,zy,trivial⟩,⟨u9,trivial⟩⟩ ?_;rintro ⟨f,l,ag⟩ hI;refine w_5 ?_;refine a8 _ rfl (fun r1=>?_) (fun r1=>?_)
 ·
  have h1:=r1;obtain rfl:ag = true:=r1;obtain ⟨hI2,hf⟩:=b4y hI;have hok:=hI.ok;refine ik ?_;refine a6 (ι:=Nat) ⟨[(1,some _),(26,some _),(27,some _)],[]⟩ ⟨⟨c9,c9,c9,trivial⟩,trivial⟩ (fun j=>⟨[(7,some (.v (.one (.ref 900 (ck (ms.take j) l).length)))),(9,some (vB (m8 (ms.take j) l))),(28,some (vI j))],[(900,some (.arr true 1 46 (ck (ms.take j) l).length (lf sC (ck (ms.take j) l))))]⟩) (fun j=>j <= ms.length) (fun j=>ms.length - j) (0) (bkl _) ⟨⟨zy,⟨_,rfl,(CoR.refl _)⟩,zy,trivial⟩,⟨u9,trivial⟩⟩ ?_;rintro j hj;have hokj:OkB (ck (ms.take j) l):=a6p hok;have hlj:=aez (awe (m:=(ms.getD j default)) hokj);refine w_5 ?_;refine hcd (fun h2=>?_) (fun h2=>?_)
  ·
   refine w_7 ?_;refine m9 2 ?_;refine w_9 ?_;refine b0q 32 rfl rfl rfl ?_;refine a6 (ι:=(Nat × Bool)) ⟨[(1,some _),(11,some _),(26,some _),(27,some _),(28,some _),(33,some _)],[(2,some _)]⟩ ⟨⟨c9,c9,c9,c9,c9,c9,trivial⟩,⟨u9,trivial⟩⟩ (fun y=>⟨[(7,some (.v (.one (.ref (bif y.2 then 900 else 951) (stB (ms.getD j default) (ck (ms.take j) l) y.1).length)))),(9,some (vB (m8 (ms.take j) l || ((ck (ms.take j) l).take y.1).any (dw (ms.getD j default))))),(34,some (vI y.1)),(32,some (bif y.2 then .v (.one (.win 900 (stB (ms.getD j default) (ck (ms.take j) l) y.1).length 0 (ck (ms.take j) l).length)) else bn (.sl (ck (ms.take j) l).length 1 false (a59 (ck (ms.take j) l) y.1))))],[(bif y.2 then 900 else 951,some (.arr true 1 46 (stB (ms.getD j default) (ck (ms.take j) l) y.1).length (lf sC (stB (ms.getD j default) (ck (ms.take j) l) y.1))))]⟩) (fun y=>y.1 <= (ck (ms.take j) l).length) (fun y=>(ck (ms.take j) l).length - y.1) ((0,true)) (bkl _) ⟨⟨⟨_,rfl,(ca (a9u _ _))⟩,⟨_,rfl,(cob bow)⟩,⟨_,rfl,(CoR.refl _)⟩,⟨_,rfl,(CoR.of_eq (by rw [a9u];rfl))⟩,trivial⟩,⟨⟨_,rfl,(bv (a9u _ _))⟩,trivial⟩⟩ ?_;rintro ⟨i,b⟩ hi;have hi:i <= (ck (ms.take j) l).length:=hi;have hsl:=bca (ms.getD j default) (ck (ms.take j) l) i;have hsl2:=aos (ms.getD j default) (ck (ms.take j) l) i
   rcases b with _ | _
   ·
    show HW _ _ _ ⟨_ :: _,_⟩ _;refine w_5 ?_;refine hcd (fun h3=>?_) (fun h3=>?_)
    ·
     have hil:i < (ck (ms.take j) l).length:=by omega
     refine w_7 ?_;refine rq (out:=⟨_, .v (.one (.p (asC ((ck (ms.take j) l).getD i default))))⟩) rfl rfl rfl (congrArg (fun z=>some (Out.mk _ (HR.v (HC.one (HV.p z))))) (b62 (ck (ms.take j) l) i)) rfl ?_;refine w_3 ?_;refine bu (ι:=Unit) ⟨[(1,some _),(7,some _),(9,some _),(11,some _),(12,some _),(13,some _),(26,some _),(27,some _),(28,some _),(32,some _),(33,some _),(34,some _)],[(2,some _)]⟩ ⟨⟨c9,c9,c9,c9,c9,c9,c9,c9,c9,c9,c9,c9,trivial⟩,⟨u9,trivial⟩⟩ (fun _i=>⟨[(57,some (vB (dw (ms.getD j default) ((ck (ms.take j) l).getD i default))))],[(951,some (.arr true 1 46 (stB (ms.getD j default) (ck (ms.take j) l) i).length (lf sC (stB (ms.getD j default) (ck (ms.take j) l) i))))]⟩) (fun _i=>True) ?_ ?_
     ·
      refine w_7 ?_;refine am rfl rfl (fun r4=>?_) (fun r4=>?_)
      ·
       have h4:=tz1 r4;have g1:((ck (ms.take j) l).getD i default) &&& (ms.getD j default).lhs = 0:=u7 h4;(iterate 5 refine qy ?_ (hg:=(gtt r4)));refine w_2 ?_;refine am rfl rfl (fun r5=>?_) (fun r5=>?_)
       ·
        have h5:=tz2 (d6 (bp r4 r5));have g2:¬ ((ck (ms.take j) l).getD i default) &&& (ms.getD j default).rhs = 0:=ou h5;(iterate 5 refine qy ?_ (hg:=(gtt r5)));refine w_2 ?_
        exact jnx () ⟨⟨⟨_,rfl,(cob (by first | exact a7y _ _ | exact (a6x g1).symm | exact (a81 g2).symm))⟩,c9,c9,c9,c9,c9,c9,c9,c9,c9,c9,c9,c9,trivial⟩,⟨u9,u9,trivial⟩⟩
       have h5:=tz1 (d5 (bp r4 r5));have g2:((ck (ms.take j) l).getD i default) &&& (ms.getD j default).rhs = 0:=u7 h5;(iterate 5 refine k9 (gft r5) ?_);refine rq rfl rfl rfl rfl rfl ?_ (hp:=r5);refine aq ?_
       exact jnx () ⟨⟨⟨_,rfl,(cob (by first | exact a7y _ _ | exact (a6x g1).symm | exact (a81 g2).symm))⟩,c9,c9,c9,c9,c9,c9,c9,c9,c9,c9,c9,c9,trivial⟩,⟨u9,u9,trivial⟩⟩
      have h4:=tz2 r4;have g1:¬ ((ck (ms.take j) l).getD i default) &&& (ms.getD j default).lhs = 0:=ou h4;(iterate 5 refine k9 (gft r4) ?_);refine rq rfl rfl rfl rfl rfl ?_ (hp:=r4);refine qy ?_;(iterate 5 refine k9 rfl ?_);refine w_2 ?_
      exact jnx () ⟨⟨⟨_,rfl,(cob (by first | exact a7y _ _ | exact (a6x g1).symm | exact (a81 g2).symm))⟩,c9,c9,c9,c9,c9,c9,c9,c9,c9,c9,c9,c9,trivial⟩,⟨u9,u9,trivial⟩⟩
     rintro _ _;refine a8 _ rfl (fun r6=>?_) (fun r6=>?_)
     ·
      have h6:=r6;have hs:dw (ms.getD j default) ((ck (ms.take j) l).getD i default) = true:=r6;have hl2:(stB (ms.getD j default) (ck (ms.take j) l) (i + 1)).length = (stB (ms.getD j default) (ck (ms.take j) l) i).length + 1:=by rw [ahh hil hs,bkq,bmv];rfl
      refine ald ?_;refine m9 3 ?_;refine r9 4 true ?_;refine w_9 ?_
      first | (refine ⟨(i + 1, false), ?_, ?_, ?_⟩
               · show i + 1 <= _;omega
               · first | omega | (dsimp only;omega)
               exact ⟨⟨⟨_,rfl,(CoR.of_eq (congrArg (fun z=>HR.v (.one (.ref 951 z))) hl2.symm))⟩,⟨_,rfl,(cob (w9 _ hil hs))⟩,⟨_,rfl,(CoR.refl _)⟩,⟨_,rfl,(CoC.one (a73 rfl))⟩,c9,c9,c9,c9,c9,c9,trivial⟩,⟨⟨_,rfl,(wl hil hs rfl (fj _ _) (CoP.of_eq (congrArg (fun z=>PV.raw (.int .u32 z)) (go _ _))))⟩,u9,trivial⟩⟩)
            | (refine ⟨(i + 1,false), ?_, ?_, ?_⟩
               · show i + 1 <= _;omega
               · first | omega | (dsimp only;omega)
               exact ⟨⟨⟨_,rfl,(ca (o9 hil hs))⟩,⟨_,rfl,(cob (a4n _ hil hs))⟩,⟨_,rfl,(CoR.refl _)⟩,⟨_,rfl,(CoC.one (a73 rfl))⟩,c9,c9,c9,c9,c9,c9,trivial⟩,⟨⟨_,rfl,(bv (o9 hil hs))⟩,u9,trivial⟩⟩)
     have h6:=r6;have hs:dw (ms.getD j default) ((ck (ms.take j) l).getD i default) = false:=r6;refine w_5 ?_
     first | (refine ⟨(i + 1, false), ?_, ?_, ?_⟩
              · show i + 1 <= _;omega
              · first | omega | (dsimp only;omega)
              exact ⟨⟨⟨_,rfl,(CoR.of_eq (congrArg (fun z=>HR.v (.one (.ref 951 z))) hl2.symm))⟩,⟨_,rfl,(cob (w9 _ hil hs))⟩,⟨_,rfl,(CoR.refl _)⟩,⟨_,rfl,(CoC.one (a73 rfl))⟩,c9,c9,c9,c9,c9,c9,trivial⟩,⟨⟨_,rfl,(wl hil hs rfl (fj _ _) (CoP.of_eq (congrArg (fun z=>PV.raw (.int .u32 z)) (go _ _))))⟩,u9,trivial⟩⟩)
           | (refine ⟨(i + 1,false), ?_, ?_, ?_⟩
              · show i + 1 <= _;omega
              · first | omega | (dsimp only;omega)
              exact ⟨⟨⟨_,rfl,(ca (o9 hil hs))⟩,⟨_,rfl,(cob (a4n _ hil hs))⟩,⟨_,rfl,(CoR.refl _)⟩,⟨_,rfl,(CoC.one (a73 rfl))⟩,c9,c9,c9,c9,c9,c9,trivial⟩,⟨⟨_,rfl,(bv (o9 hil hs))⟩,u9,trivial⟩⟩)
    obtain rfl:i = (ck (ms.take j) l).length:=by omega
    refine wv 7 900 rfl rfl rfl rfl ?_;refine w_5 ?_;exact lpx (j + 1) ⟨⟨⟨_,rfl,(ca (by rw [a3d bos,a1w]))⟩,⟨_,rfl,(cob (by rw [aih bos,bks]))⟩,zy,c9,c9,c9,trivial⟩,⟨⟨_,rfl,(bv (by rw [a3d bos,a1w]))⟩,trivial⟩⟩
   show HW _ _ _ ⟨_ :: _,_⟩ _;refine w_5 ?_;refine hcd (fun h7=>?_) (fun h7=>?_)
   ·
    have hil:i < (ck (ms.take j) l).length:=by omega
    refine w_7 ?_;refine rq (out:=⟨_, .v (.one (.p (asC ((ck (ms.take j) l).getD i default))))⟩) rfl rfl rfl (congrArg (fun z=>some (Out.mk _ (HR.v (HC.one (HV.p z))))) ((show lf sC (stB (ms.getD j default) (ck (ms.take j) l) i) (0 + i) 0 = _ by rw [blc];exact congrArg asC (b9b hil)))) rfl ?_;refine w_3 ?_;refine bu (ι:=Unit) ⟨[(1,some _),(7,some _),(9,some _),(11,some _),(12,some _),(13,some _),(26,some _),(27,some _),(28,some _),(32,some _),(33,some _),(34,some _)],[(2,some _)]⟩ ⟨⟨c9,c9,c9,c9,c9,c9,c9,c9,c9,c9,c9,c9,trivial⟩,⟨u9,trivial⟩⟩ (fun _i=>⟨[(57,some (vB (dw (ms.getD j default) ((ck (ms.take j) l).getD i default))))],[(900,some (.arr true 1 46 (stB (ms.getD j default) (ck (ms.take j) l) i).length (lf sC (stB (ms.getD j default) (ck (ms.take j) l) i))))]⟩) (fun _i=>True) ?_ ?_
    ·
     refine w_7 ?_;refine am rfl rfl (fun r8=>?_) (fun r8=>?_)
     ·
      have h8:=tz1 r8;have g1:((ck (ms.take j) l).getD i default) &&& (ms.getD j default).lhs = 0:=u7 h8;(iterate 5 refine qy ?_ (hg:=(gtt r8)));refine w_2 ?_;refine am rfl rfl (fun r9=>?_) (fun r9=>?_)
      ·
       have h9:=tz2 (d6 (bp r8 r9));have g2:¬ ((ck (ms.take j) l).getD i default) &&& (ms.getD j default).rhs = 0:=ou h9;(iterate 5 refine qy ?_ (hg:=(gtt r9)));refine w_2 ?_
       exact jnx () ⟨⟨⟨_,rfl,(cob (by first | exact a7y _ _ | exact (a6x g1).symm | exact (a81 g2).symm))⟩,c9,c9,c9,c9,c9,c9,c9,c9,c9,c9,c9,c9,trivial⟩,⟨u9,u9,trivial⟩⟩
      have h9:=tz1 (d5 (bp r8 r9));have g2:((ck (ms.take j) l).getD i default) &&& (ms.getD j default).rhs = 0:=u7 h9;(iterate 5 refine k9 (gft r9) ?_);refine rq rfl rfl rfl rfl rfl ?_ (hp:=r9);refine aq ?_
      exact jnx () ⟨⟨⟨_,rfl,(cob (by first | exact a7y _ _ | exact (a6x g1).symm | exact (a81 g2).symm))⟩,c9,c9,c9,c9,c9,c9,c9,c9,c9,c9,c9,c9,trivial⟩,⟨u9,u9,trivial⟩⟩
     have h8:=tz2 r8;have g1:¬ ((ck (ms.take j) l).getD i default) &&& (ms.getD j default).lhs = 0:=ou h8;(iterate 5 refine k9 (gft r8) ?_);refine rq rfl rfl rfl rfl rfl ?_ (hp:=r8);refine qy ?_;(iterate 5 refine k9 rfl ?_);refine w_2 ?_
     exact jnx () ⟨⟨⟨_,rfl,(cob (by first | exact a7y _ _ | exact (a6x g1).symm | exact (a81 g2).symm))⟩,c9,c9,c9,c9,c9,c9,c9,c9,c9,c9,c9,c9,trivial⟩,⟨u9,u9,trivial⟩⟩
    rintro _ _;refine a8 _ rfl (fun r10=>?_) (fun r10=>?_)
    ·
     have h10:=r10;have hs:dw (ms.getD j default) ((ck (ms.take j) l).getD i default) = true:=r10;have hl2:(stB (ms.getD j default) (ck (ms.take j) l) (i + 1)).length = (stB (ms.getD j default) (ck (ms.take j) l) i).length + 1:=by rw [ahh hil hs,bkq,bmv];rfl
     refine ef ?_;refine b6j 7 32 rfl rfl rfl rfl rfl rfl (fun ad cap hcap=>?_) ?_
     ·
      refine w_6 ?_;refine m9 5 ?_;refine r9 6 true ?_;refine w_2 ?_;refine b0p 7 32 rfl rfl rfl rfl (by dsimp only at *;omega) rfl ?_;refine w_7 ?_
      first | (refine ⟨(i + 1, true), ?_, ?_, ?_⟩
               · show i + 1 <= _;omega
               · first | omega | (dsimp only;omega)
               exact ⟨⟨⟨_,rfl,(CoR.of_eq (congrArg (fun z=>HR.v (.one (.ref 900 z))) hl2.symm))⟩,⟨_,rfl,(cob (w9 _ hil hs))⟩,⟨_,rfl,(CoR.refl _)⟩,⟨_,rfl,(CoR.of_eq (congrArg (fun z=>HR.v (.one (.win 900 z 0 _))) hl2.symm))⟩,c9,c9,c9,c9,c9,c9,trivial⟩,⟨⟨_,rfl,(wl hil hs rfl (fj _ _) (CoP.of_eq (congrArg (fun z=>PV.raw (.int .u32 z)) (go _ _))))⟩,u9,trivial⟩⟩)
            | (refine ⟨(i + 1,false), ?_, ?_, ?_⟩
               · show i + 1 <= _;omega
               · first | omega | (dsimp only;omega)
               exact ⟨⟨⟨_,rfl,(CoR.of_eq (congrArg (fun z=>HR.v (.one (.ref 951 z))) hl2.symm))⟩,⟨_,rfl,(cob (w9 _ hil hs))⟩,⟨_,rfl,(CoR.refl _)⟩,⟨_,rfl,(CoC.one (al6 hil))⟩,c9,c9,c9,c9,c9,c9,trivial⟩,⟨⟨_,rfl,(wl hil hs rfl (fj _ _) (CoP.of_eq (congrArg (fun z=>PV.raw (.int .u32 z)) (go _ _))))⟩,u9,trivial⟩⟩)
            | (refine ⟨(i + 1,true), ?_, ?_, ?_⟩
               · show i + 1 <= _;omega
               · first | omega | (dsimp only;omega)
               exact ⟨⟨⟨_,rfl,(ca (o9 hil hs))⟩,⟨_,rfl,(cob (a4n _ hil hs))⟩,⟨_,rfl,(CoR.refl _)⟩,⟨_,rfl,(CoR.of_eq (congrArg (fun z=>HR.v (.one (.win 900 z 0 _))) (congrArg List.length (o9 hil hs)).symm))⟩,c9,c9,c9,c9,c9,c9,trivial⟩,⟨⟨_,rfl,(bv (o9 hil hs))⟩,u9,trivial⟩⟩)
     refine w_6 ?_;refine m9 950 ?_;refine r9 951 true ?_;refine w_9 ?_
     first | (refine ⟨(i + 1, true), ?_, ?_, ?_⟩
              · show i + 1 <= _;omega
              · first | omega | (dsimp only;omega)
              exact ⟨⟨⟨_,rfl,(CoR.of_eq (congrArg (fun z=>HR.v (.one (.ref 900 z))) hl2.symm))⟩,⟨_,rfl,(cob (w9 _ hil hs))⟩,⟨_,rfl,(CoR.refl _)⟩,⟨_,rfl,(CoR.of_eq (congrArg (fun z=>HR.v (.one (.win 900 z 0 _))) hl2.symm))⟩,c9,c9,c9,c9,c9,c9,trivial⟩,⟨⟨_,rfl,(wl hil hs rfl (fj _ _) (CoP.of_eq (congrArg (fun z=>PV.raw (.int .u32 z)) (go _ _))))⟩,u9,trivial⟩⟩)
           | (refine ⟨(i + 1,false), ?_, ?_, ?_⟩
              · show i + 1 <= _;omega
              · first | omega | (dsimp only;omega)
              exact ⟨⟨⟨_,rfl,(CoR.of_eq (congrArg (fun z=>HR.v (.one (.ref 951 z))) hl2.symm))⟩,⟨_,rfl,(cob (w9 _ hil hs))⟩,⟨_,rfl,(CoR.refl _)⟩,⟨_,rfl,(CoC.one (al6 hil))⟩,c9,c9,c9,c9,c9,c9,trivial⟩,⟨⟨_,rfl,(wl hil hs rfl (fj _ _) (CoP.of_eq (congrArg (fun z=>PV.raw (.int .u32 z)) (go _ _))))⟩,u9,trivial⟩⟩)
           | (refine ⟨(i + 1,true), ?_, ?_, ?_⟩
              · show i + 1 <= _;omega
              · first | omega | (dsimp only;omega)
              exact ⟨⟨⟨_,rfl,(ca (o9 hil hs))⟩,⟨_,rfl,(cob (a4n _ hil hs))⟩,⟨_,rfl,(CoR.refl _)⟩,⟨_,rfl,(CoR.of_eq (congrArg (fun z=>HR.v (.one (.win 900 z 0 _))) (congrArg List.length (o9 hil hs)).symm))⟩,c9,c9,c9,c9,c9,c9,trivial⟩,⟨⟨_,rfl,(bv (o9 hil hs))⟩,u9,trivial⟩⟩)
    have h10:=r10;have hs:dw (ms.getD j default) ((ck (ms.take j) l).getD i default) = false:=r10;refine w_5 ?_
    first | (refine ⟨(i + 1, true), ?_, ?_, ?_⟩
             · show i + 1 <= _;omega
             · first | omega | (dsimp only;omega)
             exact ⟨⟨⟨_,rfl,(CoR.of_eq (congrArg (fun z=>HR.v (.one (.ref 900 z))) hl2.symm))⟩,⟨_,rfl,(cob (w9 _ hil hs))⟩,⟨_,rfl,(CoR.refl _)⟩,⟨_,rfl,(CoR.of_eq (congrArg (fun z=>HR.v (.one (.win 900 z 0 _))) hl2.symm))⟩,c9,c9,c9,c9,c9,c9,trivial⟩,⟨⟨_,rfl,(wl hil hs rfl (fj _ _) (CoP.of_eq (congrArg (fun z=>PV.raw (.int .u32 z)) (go _ _))))⟩,u9,trivial⟩⟩)
          | (refine ⟨(i + 1,false), ?_, ?_, ?_⟩
             · show i + 1 <= _;omega
             · first | omega | (dsimp only;omega)
             exact ⟨⟨⟨_,rfl,(CoR.of_eq (congrArg (fun z=>HR.v (.one (.ref 951 z))) hl2.symm))⟩,⟨_,rfl,(cob (w9 _ hil hs))⟩,⟨_,rfl,(CoR.refl _)⟩,⟨_,rfl,(CoC.one (al6 hil))⟩,c9,c9,c9,c9,c9,c9,trivial⟩,⟨⟨_,rfl,(wl hil hs rfl (fj _ _) (CoP.of_eq (congrArg (fun z=>PV.raw (.int .u32 z)) (go _ _))))⟩,u9,trivial⟩⟩)
          | (refine ⟨(i + 1,true), ?_, ?_, ?_⟩
             · show i + 1 <= _;omega
             · first | omega | (dsimp only;omega)
             exact ⟨⟨⟨_,rfl,(ca (o9 hil hs))⟩,⟨_,rfl,(cob (a4n _ hil hs))⟩,⟨_,rfl,(CoR.refl _)⟩,⟨_,rfl,(CoR.of_eq (congrArg (fun z=>HR.v (.one (.win 900 z 0 _))) (congrArg List.length (o9 hil hs)).symm))⟩,c9,c9,c9,c9,c9,c9,trivial⟩,⟨⟨_,rfl,(bv (o9 hil hs))⟩,u9,trivial⟩⟩)
   obtain rfl:i = (ck (ms.take j) l).length:=by omega
   refine w_5 ?_;exact lpx (j + 1) ⟨⟨⟨_,rfl,(ca (by rw [a3d bos,a1w]))⟩,⟨_,rfl,(cob (by rw [aih bos,bks]))⟩,zy,c9,c9,c9,trivial⟩,⟨⟨_,rfl,(bv (by rw [a3d bos,a1w]))⟩,trivial⟩⟩
  obtain rfl:j = ms.length:=by omega
  rw [show ms.take ms.length = ms from bks];refine dp ?_;refine ⟨(f - 1,ck ms l,m8 ms l), ?_, ?_, ?_⟩
  · exact hI2
  · exact b6h hf
  exact ⟨⟨zy,zy,c9,trivial⟩,⟨u9,trivial⟩⟩
 have h1:=r1;obtain rfl:ag = false:=r1;have hl:l = (blks ms (aa n &&& ~~~x)):=hI.f rfl;subst hl;refine w_2 ?_;refine av 7 rfl rfl rfl ?_;refine w_2 ?_;refine qcx xx (a51 (blks ms (aa n &&& ~~~x)) (bky (aez hI.ok) boz)) ?_;refine w_2 ?_;exact hx8 rfl rfl rfl (CoL.refl _)
end
section
theorem b71 {f:Fd} {k:Nat} (h:k < (al f.rhs).length):(sgl f).getD k default = ⟨f.lhs,fp ((al f.rhs).getD k default)⟩:=by
 unfold sgl;simp [bkk,bkj h]
theorem acm (f:Fd):(sgl f).length = (al f.rhs).length:=by unfold sgl;rw [bl7]
theorem aot {fs ms:List Fd} {i k:Nat} (h:k < (al (fs.getD i default).rhs).length):l8 fs ms i (k + 1) = l8 fs ms i k ++ [⟨(fs.getD i default).lhs,fp ((al (fs.getD i default).rhs).getD k default)⟩]:=by
 rw [awa (by rw [acm];exact h),b71 h]
theorem anv {fs ms:List Fd} {i:Nat} (h:i < fs.length):l8 fs ms (i + 1) 0 = l8 fs ms i (al (fs.getD i default).rhs).length:=by rw [avt h,acm]
theorem b4z {a b:AS} {k:Nat} (h:sub a b) (hb:b >>> k = 0):a >>> k = 0:=by
 apply jh;intro i hi;have:=congrArg (fun z:AS=>z.getLsbD i) hb;simp only [bnh] at this ⊢
 cases ha:a.getLsbD (k + i) with
 | false=>simp
 | true=>rw [ai.1 h _ (yh ha) ha] at this;simp at this
def yw (b:AS) (f:Fd):Bool:=!decide ((f.rhs &&& ~~~f.lhs) &&& b = 0)
def vk (l:List Fd) (o b:AS):AS:=if bsz b = 1 then (if l.any (yw b) = true then o ||| b else o) else o
def u6 (l:List Fd) (o:AS) (bs:List AS):AS:=bs.foldl (vk l) o
theorem a5k {l:List Fd} {o:AS} {bs:List AS} {i:Nat} (h:i < bs.length):u6 l o (bs.take (i + 1)) = vk l (u6 l o (bs.take i)) (bs.getD i default):=by
 unfold u6;rw [ay h,bm0];rfl
section
variable {l:List Fd} {o:AS} {bs:List AS} {i:Nat}
theorem aio (h:i < bs.length) (hq:¬ bsz (bs.getD i default) = 1):u6 l o (bs.take i) = u6 l o (bs.take (i + 1)):=by rw [a5k h,vk,if_neg hq]
theorem aj5 (h:i < bs.length) (hq:bsz (bs.getD i default) = 1) (ha:l.any (yw (bs.getD i default)) = false):u6 l o (bs.take i) = u6 l o (bs.take (i + 1)):=by rw [a5k h,vk,if_pos hq,if_neg (by rw [ha];decide)]
theorem ai3 (h:i < bs.length) (hq:bsz (bs.getD i default) = 1) (ha:l.any (yw (bs.getD i default)) = true):u6 l o (bs.take i) ||| bs.getD i default = u6 l o (bs.take (i + 1)):=by rw [a5k h,vk,if_pos hq,if_pos ha]
end
def d8 (n:Int) (l m:List Fd) (x:AS):List AS:=ord (blks (fm l m) (aa n &&& ~~~x))
def ays (n:Int) (l m:List Fd) (x:AS):List AS:=if ckB n l m x = 0 then d8 n l m x else []
def nc (n:Int) (l m:List Fd) (x:AS):AS:=u6 l x (d8 n l m x)
def aqh (n:Int) (l m:List Fd) (x:AS):AS:=if ckB n l m x = 0 then nc n l m x else 0
theorem b08 (ms:List Fd) (rest:AS):OkB (blks ms rest):=by
 have:∀ (f:Nat) (l:List AS),OkB l -> OkB (xc ms f l):=by
  intro f
  induction f with
  | zero=>intro l h;exact h
  | succ f ih =>
   intro l h;unfold xc;split
   · exact ih _ (a6p h)
   exact a6p h
 exact this _ _ (afg rest)
theorem a2r (n:Int) (l m:List Fd) (x:AS):(d8 n l m x).length <= 4294967296:=bky (ln _) (aez (b08 _ _))
def mc (p:AS) (bs:List AS):List AS:=(bs.filter fun b=>!decide (b &&& p = 0)).map fun b=>b &&& p
section
variable {i:Nat} {p:AS}
theorem wu {bs:List AS} (h:i < bs.length) (hq:¬ bs.getD i default &&& p = 0):mc p (bs.take (i + 1)) = mc p (bs.take i) ++ [bs.getD i default &&& p]:=by
 unfold mc;rw [ay h,blz,bmw,blx,if_pos (by rw [decide_eq_false hq];rfl)];rfl
theorem w8 {bs:List AS} (h:i < bs.length) (hq:bs.getD i default &&& p = 0):mc p (bs.take (i + 1)) = mc p (bs.take i):=by
 unfold mc;rw [ay h,blz,bmw,blx,if_neg (by rw [decide_eq_true hq];decide)];simp
theorem a9b (p:AS) (bs:List AS):(mc p bs).length <= bs.length:=by
 unfold mc;rw [bl7];exact bmk _ _
def l5 (n:Int) (l m:List Fd) (x p:AS):List AS:=ord (mc p (d8 n l m x))
theorem a6t (n:Int) (l m:List Fd) (x p:AS):(mc p (d8 n l m x)).length <= 8589934592:=bky (a9b _ _) (bky (a2r _ _ _ _) boz)
def ck4 (n:Int) (l m:List Fd) (s:AS):Int:=if n < 0 \/ 8 < n then 7 else ckB n l m s
variable {l m:List Fd} {n:Int} {s:AS}
theorem b3f (h:n < 0 \/ 8 < n):ck4 n l m s = 7:=if_pos h
theorem ab9 (h:¬ (n < 0 \/ 8 < n)):ck4 n l m s = ckB n l m s:=if_neg h
theorem aj4 (h:ck4 n l m s = 0):0 <= n /\ n <= 8 /\ ckB n l m s = 0:=by
 unfold ck4 at h;split at h
 · cases h
 exact ⟨by omega,by omega,h⟩
theorem adn {t:AS} (h:ckB n l m s = 0) (ht:sub t s):ckB n l m t = 0:=aqg (aap h).1 (b4z ht (aap h).2)
theorem b7l {t:AS} (h:ck4 n l m s = 0) (ht:sub t s):ck4 n l m t = 0:=by
 obtain ⟨h1,h2,h3⟩:=aj4 h;rw [ab9 bos];exact adn h3 ht
def b17 (n:Int) (l m:List Fd) (x p:AS):List AS:=if ck4 n l m (x ||| p) = 0 then l5 n l m x p else []
def a0y (n:Int) (l m:List Fd) (p x:AS):Option Fd:=if p &&& ~~~(nc n l m x) = 0 then none else if 1 < (l5 n l m x p).length then some ⟨x,(l5 n l m x p).getD 0 default⟩ else none
def j1 (n:Int) (l m:List Fd) (p:AS):Option Fd:=(ax p).findSome? (a0y n l m p)
def ae9:Option Fd -> Fd × Bool
 | some v=>(v,true)
 | none=>(⟨0,0⟩,false)
def a5r (n:Int) (l m:List Fd) (p:AS):Fd × Bool:=if ck4 n l m p = 0 then ae9 (j1 n l m p) else (⟨0,0⟩,false)
theorem bbo (h:¬ ck4 n l m p = 0):a5r n l m p = (⟨0,0⟩,false):=if_neg h
theorem ajk (h:ck4 n l m p = 0):a5r n l m p = ae9 (j1 n l m p):=if_pos h
theorem jl {α β:Type} [Inhabited α] {f:α -> Option β} {l:List α} (h:i < l.length) (hn:(l.take i).findSome? f = none):(l.take (i + 1)).findSome? f = f (l.getD i default):=by
 rw [ay h,bor,hn];simp only [List.findSome?_cons,List.findSome?_nil,Option.none_or];cases f (l.getD i default) <;> rfl
theorem tc {α β:Type} [Inhabited α] {f:α -> Option β} {l:List α} {v:β} (h:i < l.length) (hn:(l.take i).findSome? f = none) (hv:f (l.getD i default) = some v):l.findSome? f = some v:=by
 have h1:=jl h hn;rw [hv] at h1;rw [<- bnz (i + 1) l,bor,h1];rfl
theorem a6i {z:AS} (h:z ∈ ax s):sub z s:=by
 unfold ax at h;split at h
 · cases h
 exact ta.1 h
theorem a08 {α:Type} [Inhabited α] {l:List α} (h:i < l.length):l.getD i default ∈ l:=by
 rw [bkk,bkj h];exact blh h
theorem a49 {x c:AS}:c ∈ l5 n l m x p <-> ∃ b ∈ blks (fm l m) (aa n &&& ~~~x),b &&& p ≠ 0 /\ c = b &&& p:=by
 unfold l5 mc d8;rw [n3,blm];constructor
 · rintro ⟨b,hb,rfl⟩
   rw [bmo,n3] at hb;exact ⟨b,hb.1,by simpa using hb.2,rfl⟩
 rintro ⟨b,hb,h,rfl⟩;exact ⟨b,bmo.2 ⟨n3.2 hb,by simpa using h⟩,rfl⟩
def bjf (V:AS -> Option Fd):Prop:=∀ p v,V p = some v -> sub (v.lhs ||| v.rhs) p /\ v.lhs ||| v.rhs ≠ p /\ p &&& ~~~v.rhs ≠ p
end
section
variable {V:AS -> Option Fd}
def vF (V:AS -> Option Fd) (s:AS):Fd:=(ae9 (V s)).1
def vBo (V:AS -> Option Fd) (s:AS):Bool:=(ae9 (V s)).2
def bdv (V:AS -> Option Fd) (s:AS):AS:=(vF V s).lhs ||| (vF V s).rhs
def bbv (V:AS -> Option Fd) (s:AS):AS:=s &&& ~~~(vF V s).rhs
def aly (V:AS -> Option Fd):Nat -> List AS -> List AS -> List AS
 | 0,_,out=>out
 | n + 1,todo,out =>
  if todo.length = 0 then out
  else if vBo V (todo.getD (todo.length - 1) default) = true then aly V n (todo.take (todo.length - 1) ++ [bdv V (todo.getD (todo.length - 1) default),bbv V (todo.getD (todo.length - 1) default)]) out
  else aly V n (todo.take (todo.length - 1)) (out ++ [todo.getD (todo.length - 1) default])
def bka (V:AS -> Option Fd) (p0:AS) (x:Nat × List AS × List AS):Prop:=aly V x.1 x.2.1 x.2.2 = aly V 6562 [p0] [] /\ qi x.2.1 < x.1 /\ x.2.2.length + x.1 <= 6562
def lvG (V:AS -> Option Fd):Nat -> AS -> List AS
 | 0,s=>[s]
 | n + 1,s=>if vBo V s = true then lvG V n (bdv V s) ++ lvG V n (bbv V s) else [s]
end
def bhv (n:Int) (l m:List Fd):List AS:=aly (j1 n l m) 6562 [aa n] []
def bhh (n:Int) (l m:List Fd):List AS:=if ck4 n l m 0 = 0 then iz (bhv n l m) else []
end
section
open Go.Proofs
theorem b6u:goodFn Tryz.prog 234:=wgx Tryz.func234
theorem bal (n:Nat) (c:Bool) (f:Nat -> Nat -> PV) (hn:n <= 17592186044416) :
 da Tryz.prog 234 [.one (.p (.sl n 2 c f))] [] (.v (.one (.ref 0 n))) [(0, .arr true 2 49 n f)] []:=by
 refine hfx (nt:=8) Tryz.func234 ?_;refine sx7 ?_;refine du true rfl rfl rfl rfl rfl trivial ?_;refine aq ?_;refine a7h (ι:=Bool) (fun c=>⟨[(0,some (bn (.sl n 2 c f)))],[]⟩) (fun _=>True) ?_ fun c _=>?_
 · rcases bmj n with hz | h0
   · subst hz
     refine hw_exact' 0 rfl fun ad cap hcap=>?_;refine sx7 ?_;(iterate 2 refine du true rfl rfl rfl rfl rfl trivial ?_);refine aq ?_;refine a8 ad.isNone rfl (fun hc=>?_) (fun hc=>?_)
     · refine sx7 ?_
       refine du true rfl rfl rfl rfl rfl trivial ?_;refine aq ?_;refine cj 2 0 true 2 49 f boz rfl (CoP.sl rfl (.inr rfl) (fun h=>h) fun i j hi _=>absurd hi (bkp i)) (.inr rfl) rfl ?_;refine jn ?_;refine ⟨.inr rfl, ?_⟩;exact ⟨_,_,rfl,trivial,CoR.refl _,⟨u9,trivial⟩⟩
     refine d7 ?_;exact ⟨false,trivial,⟨⟨_,rfl,CoP.raw_sl hcap⟩,trivial⟩,trivial⟩
   refine sx7 ?_;refine du true rfl rfl rfl rfl rfl trivial ?_;refine du true rfl rfl rfl rfl rfl h0 ?_;refine aq ?_;refine a8 false rfl (fun hc=>by cases hc) (fun hc=>?_);refine d7 ?_;exact ⟨c,trivial,⟨c9,trivial⟩,trivial⟩
 refine sx7 ?_;refine a1l 0 rfl rfl rfl rfl rfl rfl trivial ?_;refine du true rfl rfl rfl rfl rfl trivial ?_;refine a6g 0 true rfl rfl rfl rfl rfl rfl ⟨trivial,rfl,rfl,rfl, .inl rfl,by show 0 + n <= 9223372036854775807;omega,by show (0 + n) * 8 <= 140737488355328;omega,fun _=>.inl rfl⟩ ?_;refine du true rfl rfl rfl rfl rfl trivial ?_;refine w_2 ?_;refine ⟨.inr rfl, ?_⟩;refine ⟨_,_,rfl,trivial,CoR.of_eq (by show HR.v (.one (.ref 0 (0 + n))) = _;rw [blc]),⟨⟨_,rfl, ?_⟩,trivial⟩⟩;exact ⟨fun h=>h,rfl,rfl,(blc n).symm,fun i j _ _=>CoP.of_eq (by simp [fh])⟩
theorem anh:goodFn Tryz.prog 187:=wgx Tryz.func187
theorem aq1 (n:Int) (l m:List Fd) (x:AS):a7 Tryz.prog 187 [pI n,pP (fdl l),pP (fdl m),pA x] (ae [pI (ckB n l m x)]):=by
 refine hpx (nt:=21) Tryz.func187 ?_;refine ce ?_;refine qcx a1n (y7 n l m) ?_;refine w_7 ?_;refine hcn (fun h0=>?_) (fun h0=>?_)
 · refine w_5 ?_;exact hx8 rfl rfl rfl (⟨cci (b3o bot).symm,trivial⟩)
 have hb:c8 n l m = 0:=h0;obtain ⟨hn0,hn1,_⟩:=kb hb;refine w_6 ?_;refine rq rfl rfl rfl rfl rfl ?_ (hp:=hn0);refine w_2 ?_;refine hcn (fun h1=>?_) (fun h1=>?_)
 · refine w_4 ?_;exact hx8 rfl rfl rfl (⟨cci (b2t hb (fun e=>(by assumption:¬ _ = _) ((xe x n.toNat).trans (congrArg asI e)))).symm,trivial⟩)
 refine w_5 ?_;exact hx8 rfl rfl rfl (⟨cci (aqg hb (cg.1 ((xe x n.toNat).symm.trans bot))).symm,trivial⟩)
theorem apj:goodFn Tryz.prog 189:=wgx Tryz.func189
theorem b3g (l m:List Fd) (hl:l.length <= 64) (hm:m.length <= 64):a7 Tryz.prog 189 [pP (fdl l),pP (fdl m)] (ae [pP (fdl (fm l m))]):=by
 refine hpx (nt:=37) Tryz.func189 ?_;refine w_7 ?_;refine fc9 b6u ((bal m.length false (lf Fd.c m) bos).swap 0 900) trivial ?_;refine ce ?_;refine a6 (ι:=Nat) ⟨[(12,some _),(13,some _)],[]⟩ ⟨⟨c9,c9,trivial⟩,trivial⟩ (fun i=>⟨[(5,some (.v (.one (.ref 900 (l8 l m i 0).length)))),(14,some (vI i))],[(900,some (.arr true 2 49 (l8 l m i 0).length (lf Fd.c (l8 l m i 0))))]⟩) (fun i=>i <= l.length) (fun i=>l.length - i) (0) (bkl _) ⟨⟨⟨_,rfl,(ca (agd l m))⟩,⟨_,rfl,(CoR.refl _)⟩,trivial⟩,⟨⟨_,rfl,(bv (agd l m))⟩,trivial⟩⟩ ?_;rintro i hi;have hmb:=ng (l.getD i default).rhs;refine w_5 ?_;refine hcd (fun h0=>?_) (fun h0=>?_)
 ·
  refine w_7 ?_;refine m9 0 ?_;refine w_6 ?_;refine qcx a2k (ad4 (l.getD i default).rhs) ?_;refine w_4 ?_;refine a6 (ι:=Nat) ⟨[(7,some _),(12,some _),(13,some _),(14,some _),(20,some _),(21,some _)],[(0,some _)]⟩ ⟨⟨c9,c9,c9,c9,c9,c9,trivial⟩,⟨u9,trivial⟩⟩ (fun k=>⟨[(5,some (.v (.one (.ref 900 (l8 l m i k).length)))),(22,some (vI k))],[(900,some (.arr true 2 49 (l8 l m i k).length (lf Fd.c (l8 l m i k))))]⟩) (fun k=>k <= (al (l.getD i default).rhs).length) (fun k=>(al (l.getD i default).rhs).length - k) (0) (bkl _) ⟨⟨zy,⟨_,rfl,(CoR.refl _)⟩,trivial⟩,⟨u9,trivial⟩⟩ ?_;rintro k hk;have hal:=az2 (fs:=l) (ms:=m) (i:=i) (k:=k);refine w_5 ?_;refine hcd (fun h1=>?_) (fun h1=>?_)
  · refine x9 ?_;refine m9 1 ?_;refine r9 2 true ?_;refine w_7 ?_;exact lpx (k + 1) ⟨⟨⟨_,rfl,(c7 (aot bos))⟩,zy,c9,c9,c9,c9,c9,c9,trivial⟩,⟨⟨_,rfl,(ow (aot bos) (CoP.refl _) (CoP.of_eq (congrArg (fun z=>PV.raw (.int .u32 z)) (akq 1 _))))⟩,u9,trivial⟩⟩
  obtain rfl:k = (al (l.getD i default).rhs).length:=by omega
  refine w_5 ?_;exact lpx (i + 1) ⟨⟨⟨_,rfl,(ca (anv bos))⟩,zy,c9,c9,trivial⟩,⟨⟨_,rfl,(bv (anv bos))⟩,trivial⟩⟩
 obtain rfl:i = l.length:=by omega
 refine w_6 ?_;refine av 4 rfl rfl rfl ?_;exact hx8 rfl rfl rfl (⟨CoC.one (CoP.of_eq (by rw [b1g];rfl)),trivial⟩)
theorem b8d:goodFn Tryz.prog 192:=wgx Tryz.func192
theorem b4s (n:Int) (l m:List Fd) (x:AS):a7 Tryz.prog 192 [pI n,pP (fdl l),pP (fdl m),pA x] (ae [pP (asl (ays n l m x)),pI (ckB n l m x)]):=by
 refine hpx (nt:=25) Tryz.func192 ?_;refine ef ?_;refine qcx anh (aq1 n l m x) ?_;refine w_7 ?_;refine hcn (fun h0=>?_) (fun h0=>?_)
 · refine w_6 ?_;exact hx8 rfl rfl rfl (⟨CoC.one (a3q (if_neg bot)),CoC.refl _,trivial⟩)
 have hz:ckB n l m x = 0:=h0;have hb:=aap hz;obtain ⟨hn0,hn1,hl64,_,hm64,_⟩:=kb hb.1;refine w_6 ?_;refine qcx apj (b3g l m hl64 hm64) ?_;refine qy ?_;refine qcx anp (apr n (fm l m) x hn0 hn1) ?_;refine w_3 ?_;exact hx8 rfl rfl rfl (⟨CoC.one (CoP.of_eq (by rw [show ays n l m x = d8 n l m x from if_pos hz];rfl)),cci hz.symm,trivial⟩)
theorem b8l:goodFn Tryz.prog 191:=wgx Tryz.func191
theorem bdp (f:Fd) (b:AS):a7 Tryz.prog 191 [f.pc,pP (bx (asC b))] (ae [pB (yw b f)]):=by
 refine hpx (nt:=12) Tryz.func191 ?_;refine sx7 ?_;refine m9 0 ?_;refine oe ?_;exact hx8 rfl rfl rfl (⟨ccb (by unfold yw;rw [go,ai6]),trivial⟩)
theorem b6t:goodFn Tryz.prog 139:=wgx Tryz.func139
theorem b6g (n:Int) (l m:List Fd) (x:AS):a7 Tryz.prog 139 [pI n,pP (fdl l),pP (fdl m),pA x] (ae [pA (aqh n l m x),pI (ckB n l m x)]):=by
 refine hpx (nt:=45) Tryz.func139 ?_;refine ef ?_;refine qcx anh (aq1 n l m x) ?_;refine w_7 ?_;refine hcn (fun h0=>?_) (fun h0=>?_)
 · refine w_6 ?_;exact hx8 rfl rfl rfl (⟨cci (congrArg asI (show (0:AS) = aqh n l m x from (if_neg bot).symm)),CoC.refl _,trivial⟩)
 have hz:ckB n l m x = 0:=h0;have hb:=aap hz;obtain ⟨hn0,hn1,hl64,_,hm64,_⟩:=kb hb.1;refine ef ?_;refine qcx apj (b3g l m hl64 hm64) ?_;refine qy ?_;refine qcx anp (apr n (fm l m) x hn0 hn1) ?_;refine w_4 ?_;have hbl:=a2r n l m x;refine a6 (ι:=Nat) ⟨[(1,some _),(28,some _),(29,some _)],[]⟩ ⟨⟨c9,c9,c9,trivial⟩,trivial⟩ (fun i=>⟨[(11,some (vA (u6 l x ((d8 n l m x).take i)))),(30,some (vI i))],[]⟩) (fun i=>i <= (d8 n l m x).length) (fun i=>(d8 n l m x).length - i) (0) (bkl _) ⟨⟨⟨_,rfl,(CoR.refl _)⟩,⟨_,rfl,(CoR.refl _)⟩,trivial⟩,trivial⟩ ?_;rintro i hi;refine w_5 ?_;refine hcd (fun h1=>?_) (fun h1=>?_)
 ·
  have hil:i < (d8 n l m x).length:=Int.ofNat_lt.1 h1;refine w_7 ?_;refine m9 0 ?_;refine w_6 ?_;refine qcx ye (a74 ((d8 n l m x).getD i default)) ?_;refine w_2 ?_;refine hcn (fun h2=>?_) (fun h2=>?_)
  · have hq:¬ bsz ((d8 n l m x).getD i default) = 1:=fun e=>h2 (by rw [e];rfl);refine w_5 ?_;exact lpx (i + 1) ⟨⟨⟨_,rfl,(by first | exact bw (congrArg asI (aio hil hq)) | exact bw (congrArg asI (aj5 hil hq ha)) | exact bw ((bOr _ _).trans (congrArg asI (ai3 hil hq ha))))⟩,zy,c9,c9,c9,trivial⟩,trivial⟩
  have hq:bsz ((d8 n l m x).getD i default) = 1:=Int.ofNat_inj.1 h2;refine w_2 ?_;refine d4 13 rfl rfl rfl ?_;refine w_3 ?_;refine qcx b9z (bh5 l 191 1 (fun j=>[bx (asC ((d8 n l m x).getD i default))].getD j .any) (yw ((d8 n l m x).getD i default)) b8l (fun f=>bdp f ((d8 n l m x).getD i default))) ?_;refine aq ?_;refine a8 _ rfl (fun r3=>?_) (fun r3=>?_)
  · have h3:=r3;have ha:l.any (yw ((d8 n l m x).getD i default)) = true:=r3;refine ce ?_;exact lpx (i + 1) ⟨⟨⟨_,rfl,(by first | exact bw (congrArg asI (aio hil hq)) | exact bw (congrArg asI (aj5 hil hq ha)) | exact bw ((bOr _ _).trans (congrArg asI (ai3 hil hq ha))))⟩,zy,c9,c9,c9,trivial⟩,trivial⟩
  have h3:=r3;have ha:l.any (yw ((d8 n l m x).getD i default)) = false:=r3;refine w_5 ?_;exact lpx (i + 1) ⟨⟨⟨_,rfl,(by first | exact bw (congrArg asI (aio hil hq)) | exact bw (congrArg asI (aj5 hil hq ha)) | exact bw ((bOr _ _).trans (congrArg asI (ai3 hil hq ha))))⟩,zy,c9,c9,c9,trivial⟩,trivial⟩
 obtain rfl:i = (d8 n l m x).length:=Nat.le_antisymm hi (bo9 fun q=>h1 (Int.ofNat_lt.2 q));rw [show (d8 n l m x).take (d8 n l m x).length = (d8 n l m x) from bks];refine w_7 ?_;exact hx8 rfl rfl rfl (⟨cci (congrArg asI (show nc n l m x = aqh n l m x from (if_pos hz).symm)),cci hz.symm,trivial⟩)
theorem at4:goodFn Tryz.prog 79:=wgx Tryz.func79
theorem aox (n:Int) (l m:List Fd) (s:AS):a7 Tryz.prog 79 [pI n,pP (fdl l),pP (fdl m),pA s] (ae [pI (ck4 n l m s)]):=by
 refine hpx (nt:=27) Tryz.func79 ?_;refine ce ?_;refine am rfl rfl (fun r0=>?_) (fun r0=>?_)
 ·
  have h0:=tz1 r0;(iterate 2 refine k9 (gtf r0) ?_);refine rq rfl rfl rfl rfl rfl ?_ (hp:=r0);refine aq ?_;refine a8 _ rfl (fun _=>?_) (fun e=>by cases e);refine w_4 ?_
  exact hx8 rfl rfl rfl (⟨cci (b3f bos).symm,trivial⟩)
 have h0:=tz2 r0;(iterate 2 refine qy ?_ (hg:=(gff r0)));refine w_2 ?_;refine a8 _ rfl (fun r1=>?_) (fun r1=>?_)
 · have h1:=tz1 (au r0 r1);refine w_4 ?_;exact hx8 rfl rfl rfl (⟨cci (b3f bos).symm,trivial⟩)
 have h1:=tz2 (au r0 r1);refine w_7 ?_;refine qcx a1n (y7 n l m) ?_;refine w_7 ?_;refine hcn (fun h2=>?_) (fun h2=>?_)
 ·
  have hc:¬ (n < 0 \/ 8 < n):=by omega
  refine w_5 ?_;exact hx8 rfl rfl rfl (⟨cci ((ab9 hc).trans (b3o bot)).symm,trivial⟩)
 have hb:c8 n l m = 0:=h2;obtain ⟨hn0,hn1,_⟩:=kb hb;have hc:¬ (n < 0 \/ 8 < n):=by omega
 refine w_6 ?_;refine rq rfl rfl rfl rfl rfl ?_ (hp:=hn0);refine w_2 ?_;refine hcn (fun h3=>?_) (fun h3=>?_)
 · refine w_4 ?_;exact hx8 rfl rfl rfl (⟨cci ((ab9 hc).trans (b2t hb (fun e=>(by assumption:¬ _ = _) ((xe s n.toNat).trans (congrArg asI e))))).symm,trivial⟩)
 refine w_5 ?_;exact hx8 rfl rfl rfl (⟨cci ((ab9 hc).trans (aqg hb (cg.1 ((xe s n.toNat).symm.trans bot)))).symm,trivial⟩)
end
section
open Go.Proofs
section
variable {n:Int}
theorem b26 (h:n <= 16):aa n >>> n.toNat = 0:=by
 unfold aa;rw [show min n.toNat 32 = n.toNat by omega];exact (ui bos).1 (io _)
variable {l m:List Fd} {x:AS}
theorem aym (h:ckB n l m x = 0):a7 Tryz.prog 192 [pI n,pP (fdl l),pP (fdl m),pA x] (ae [pP (asl (d8 n l m x)),pI 0]):=by
 have:=b4s n l m x;rw [h,show ays n l m x = d8 n l m x from if_pos h] at this;exact this
theorem b1m (h:ckB n l m x = 0):a7 Tryz.prog 139 [pI n,pP (fdl l),pP (fdl m),pA x] (ae [pA (nc n l m x),pI 0]):=by
 have:=b6g n l m x;rw [h,show aqh n l m x = nc n l m x from if_pos h] at this;exact this
theorem aaq {p:AS} (h:p &&& ~~~(nc n l m x) = 0):a0y n l m p x = none:=if_pos h
theorem ac7 {p:AS} (h:¬ p &&& ~~~(nc n l m x) = 0) (h2:¬ 1 < (l5 n l m x p).length):a0y n l m p x = none:=by unfold a0y;rw [if_neg h,if_neg h2]
theorem ax4 {p:AS} (h:¬ p &&& ~~~(nc n l m x) = 0) (h2:1 < (l5 n l m x p).length):a0y n l m p x = some ⟨x,(l5 n l m x p).getD 0 default⟩:=by unfold a0y;rw [if_neg h,if_pos h2]
def is4 (n:Int) (l m:List Fd):Bool:=if ck4 n l m 0 = 0 then !(a5r n l m (aa n)).2 else false
theorem b8r:goodFn Tryz.prog 140:=wgx Tryz.func140
theorem bf8 (n:Int) (l m:List Fd) (x p:AS):a7 Tryz.prog 140 [pI n,pP (fdl l),pP (fdl m),pA x,pA p] (ae [pP (asl (b17 n l m x p)),pI (ck4 n l m (x ||| p))]):=by
 refine hpx (nt:=58) Tryz.func140 ?_;refine oe ?_;refine rc rfl rfl rfl rfl rfl rfl at4 (aox n l m (x ||| p)) (⟨CoC.refl _,CoC.refl _,CoC.refl _,cci (bOr _ _),trivial⟩) rfl rfl ?_;refine w_7 ?_;refine hcn (fun h0=>?_) (fun h0=>?_)
 · refine w_6 ?_;exact hx8 rfl rfl rfl (⟨CoC.one (a3q (if_neg bot)),CoC.refl _,trivial⟩)
 have hz:ck4 n l m (x ||| p) = 0:=h0;have hx:=adn (aj4 hz).2.2 (zk (a:=x) (b:=p));refine w_7 ?_;refine qcx b8d (aym hx) ?_;refine ef ?_;refine a8 _ rfl (fun e=>by cases e) (fun _=>?_);refine ik ?_;refine cj 15 900 true 1 46 (lf sC []) boz rfl (CoP.sl rfl (.inr rfl) (fun h=>h) (fun i j hi _=>absurd hi (bkp i))) (.inr rfl) rfl ?_;have hbl:=a2r n l m x;refine a6 (ι:=Nat) ⟨[(4,some _),(39,some _),(40,some _)],[]⟩ ⟨⟨c9,c9,c9,trivial⟩,trivial⟩ (fun i=>⟨[(15,some (.v (.one (.ref 900 (mc p ((d8 n l m x).take i)).length)))),(41,some (vI i))],[(900,some (.arr true 1 46 (mc p ((d8 n l m x).take i)).length (lf sC (mc p ((d8 n l m x).take i)))))]⟩) (fun i=>i <= (d8 n l m x).length) (fun i=>(d8 n l m x).length - i) (0) (bkl _) ⟨⟨⟨_,rfl,(CoR.refl _)⟩,⟨_,rfl,(CoR.refl _)⟩,trivial⟩,⟨u9,trivial⟩⟩ ?_;rintro i hi;have hcl:(mc p ((d8 n l m x).take i)).length <= i:=bky (a9b _ _) (by rw [bku];omega);refine w_5 ?_;refine hcd (fun h1=>?_) (fun h1=>?_)
 ·
  refine x9 ?_;refine hcn (fun h2=>?_) (fun h2=>?_)
  ·
   have hq:¬ (d8 n l m x).getD i default &&& p = 0:=ou h2;refine w_5 ?_;refine m9 0 ?_;refine r9 1 true ?_;refine w_6 ?_
   first | (refine ⟨i + 1, ?_, ?_, ?_⟩
            · show i + 1 <= _;omega
            · first | omega | (dsimp only;omega)
            exact ⟨⟨⟨_,rfl,(c7 (wu bos hq))⟩,⟨_,rfl,(CoR.refl _)⟩,c9,c9,c9,trivial⟩,⟨⟨_,rfl,(bz (wu bos hq) (CoP.of_eq (congrArg (fun z=>PV.raw (.int .u32 z)) (fj _ _))))⟩,trivial⟩⟩)
         | (refine ⟨i + 1, ?_, ?_, ?_⟩
            · show i + 1 <= _;omega
            · first | omega | (dsimp only;omega)
            exact ⟨⟨⟨_,rfl,(ca (w8 bos hq))⟩,⟨_,rfl,(CoR.refl _)⟩,c9,c9,c9,trivial⟩,⟨⟨_,rfl,(bv (w8 bos hq))⟩,trivial⟩⟩)
  have hq:(d8 n l m x).getD i default &&& p = 0:=u7 h2;refine w_5 ?_
  first | (refine ⟨i + 1, ?_, ?_, ?_⟩
           · show i + 1 <= _;omega
           · first | omega | (dsimp only;omega)
           exact ⟨⟨⟨_,rfl,(c7 (wu bos hq))⟩,⟨_,rfl,(CoR.refl _)⟩,c9,c9,c9,trivial⟩,⟨⟨_,rfl,(bz (wu bos hq) (CoP.of_eq (congrArg (fun z=>PV.raw (.int .u32 z)) (fj _ _))))⟩,trivial⟩⟩)
        | (refine ⟨i + 1, ?_, ?_, ?_⟩
           · show i + 1 <= _;omega
           · first | omega | (dsimp only;omega)
           exact ⟨⟨⟨_,rfl,(ca (w8 bos hq))⟩,⟨_,rfl,(CoR.refl _)⟩,c9,c9,c9,trivial⟩,⟨⟨_,rfl,(bv (w8 bos hq))⟩,trivial⟩⟩)
 obtain rfl:i = (d8 n l m x).length:=by omega
 rw [show (d8 n l m x).take (d8 n l m x).length = (d8 n l m x) from bks];refine w_2 ?_;refine av 15 rfl rfl rfl ?_;refine w_2 ?_;refine qcx xx (a51 (mc p (d8 n l m x)) (a6t n l m x p)) ?_;refine w_3 ?_;exact hx8 rfl rfl rfl (⟨CoC.one (CoP.of_eq (by rw [show b17 n l m x p = l5 n l m x p from if_pos hz];rfl)),cci hz.symm,trivial⟩)
theorem bcm {p:AS} (h:ck4 n l m (x ||| p) = 0):a7 Tryz.prog 140 [pI n,pP (fdl l),pP (fdl m),pA x,pA p] (ae [pP (asl (l5 n l m x p)),pI 0]):=by
 have:=bf8 n l m x p;rw [h,show b17 n l m x p = l5 n l m x p from if_pos h] at this;exact this
theorem bc6:goodFn Tryz.prog 80:=wgx Tryz.func80
theorem bg5 (n:Int) (l m:List Fd) (p:AS):a7 Tryz.prog 80 [pI n,pP (fdl l),pP (fdl m),pA p] (ae [(a5r n l m p).1.pc,pB (a5r n l m p).2,pI (ck4 n l m p)]):=by
 refine hpx (nt:=72) Tryz.func80 ?_;refine sx7 ?_;refine m9 0 ?_;refine ce ?_;refine qcx at4 (aox n l m p) ?_;refine w_7 ?_;refine hcn (fun h0=>?_) (fun h0=>?_)
 · refine w_8 ?_;exact hx8 rfl rfl rfl (by rw [bbo bot];exact ⟨CoC.agg ⟨CoP.of_eq rfl,CoP.of_eq rfl,trivial⟩,CoC.refl _,CoC.refl _,trivial⟩)
 have hz:ck4 n l m p = 0:=h0;have hsl:=t7 p;refine w_5 ?_;refine qcx a80 (b2q p) ?_;refine w_4 ?_;refine a6 (ι:=Nat) ⟨[(0,some _),(1,some _),(2,some _),(3,some _),(8,some _),(27,some _),(28,some _)],[(0,some _)]⟩ ⟨⟨c9,c9,c9,c9,c9,c9,c9,trivial⟩,⟨u9,trivial⟩⟩ (fun i=>⟨[(29,some (vI i))],[]⟩) (fun i=>i <= (ax p).length /\ ((ax p).take i).findSome? (a0y n l m p) = none) (fun i=>(ax p).length - i) (0) (⟨bkl _,rfl⟩) ⟨⟨⟨_,rfl,(CoR.refl _)⟩,trivial⟩,trivial⟩ ?_;rintro i ⟨hi,hI⟩;refine w_5 ?_;refine hcd (fun h1=>?_) (fun h1=>?_)
 ·
  have hil:i < (ax p).length:=by omega
  have hxs:sub ((ax p).getD i default) p:=a6i (a08 hil);have hX:ckB n l m ((ax p).getD i default) = 0:=adn (aj4 hz).2.2 hxs;have hXp:ck4 n l m (((ax p).getD i default) ||| p) = 0:=b7l hz (a2n hxs (io p));refine ku ?_;refine qcx b6t (b1m hX) ?_;refine ef ?_;refine a8 _ rfl (fun e=>by cases e) (fun _=>?_);refine w_9 ?_;refine hcd (fun h2=>?_) (fun h2=>?_)
  · have hq:p &&& ~~~(nc n l m ((ax p).getD i default)) = 0:=arc h2;refine w_5 ?_;refine lpz (i + 1) ⟨⟨⟨_,rfl,(CoR.refl _)⟩,c9,c9,c9,c9,c9,c9,c9,trivial⟩,⟨u9,trivial⟩⟩ ?_;exact ⟨by omega,(jl hil hI).trans (by first | exact aaq hq | exact ac7 hq hc)⟩
  have hq:¬ p &&& ~~~(nc n l m ((ax p).getD i default)) = 0:=aib h2;refine w_8 ?_;refine qcx b8r (bcm hXp) ?_;refine ef ?_;refine a8 _ rfl (fun e=>by cases e) (fun _=>?_);refine w_7 ?_;refine hcd (fun h3=>?_) (fun h3=>?_)
  ·
   have hc:1 < (l5 n l m ((ax p).getD i default) p).length:=by omega
   have hcl:(l5 n l m ((ax p).getD i default) p).length <= 8589934592:=bky (ln _) (a6t n l m ((ax p).getD i default) p);refine ef ?_;refine ⟨.inr rfl, ?_⟩
   have he:a5r n l m p = (⟨((ax p).getD i default),(l5 n l m ((ax p).getD i default) p).getD 0 default⟩,true):=by
    rw [ajk hz,show j1 n l m p = some _ from tc hil hI (ax4 hq hc)];rfl
   exact f9 rfl rfl (by rw [he];exact ⟨CoC.agg ⟨CoP.refl _,CoP.refl _,trivial⟩,CoC.refl _,cci hz.symm,trivial⟩)
  have hc:¬ 1 < (l5 n l m ((ax p).getD i default) p).length:=by omega
  refine w_5 ?_;refine lpz (i + 1) ⟨⟨⟨_,rfl,(CoR.refl _)⟩,c9,c9,c9,c9,c9,c9,c9,trivial⟩,⟨u9,trivial⟩⟩ ?_;exact ⟨by omega,(jl hil hI).trans (by first | exact aaq hq | exact ac7 hq hc)⟩
 obtain rfl:i = (ax p).length:=by omega
 rw [show (ax p).take (ax p).length = (ax p) from bks] at hI;refine w_9 ?_;refine ⟨.inr rfl, ?_⟩
 have he:a5r n l m p = (⟨0,0⟩,false):=by
  rw [ajk hz,show j1 n l m p = none from hI];rfl
 exact f9 rfl rfl (by rw [he];exact ⟨CoC.agg ⟨CoP.of_eq rfl,CoP.of_eq rfl,trivial⟩,CoC.refl _,cci hz.symm,trivial⟩)
end
end
section
structure Mx where
 d:Dps
 m:List Dp
deriving Inhabited
def Mx.mv (x:Mx):List Fd:=x.m.map (Dp.fd x.d.num)
def Mx.c (x:Mx):Nat -> PV
 | 0=>x.d.c 0
 | 1=>x.d.c 1
 | 2=>dpl x.m
 | _=>.any
abbrev Mx.pc (x:Mx):PC:=.agg [x.c 0,x.c 1,x.c 2]
def Mx.ok (x:Mx):Bool:=decide (x.d.l.length <= 6) && decide (x.m.length <= 4)
theorem bd5 {a b:List AS} (hl:a.length = b.length) (h:∀ j,j < a.length -> a.getD j default = b.getD j default):a = b:=by
 apply List.ext_getElem hl;intro i h1 h2;have:=h i h1;rw [bkk,bkk,bkj h1,bkj h2] at this;simpa using this
def bk1 (n:Int) (l m:List Fd) (ps:List AS):Int:=if ck4 n l m 0 = 0 then lsC n ps l m else ck4 n l m 0
def bjy (n:Int) (l m:List Fd) (ps:List AS):Bool:=if ck4 n l m 0 = 0 then (if lsC n ps l m = 0 then lsB n ps l m && ps.all (fun p=>!vBo (j1 n l m) p) else false) else false
end
end Go.Hx

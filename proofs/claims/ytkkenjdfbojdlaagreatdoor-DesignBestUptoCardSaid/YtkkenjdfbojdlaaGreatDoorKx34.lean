/- A part of the proof: Y1 Bz4 Y2 Y3 Bz5. -/
import Derived.Test.YtkkenjdfbojdlaaGreatDoorKx33
set_option linter.all false
set_option maxRecDepth 100000
set_option maxHeartbeats 1000000
namespace Go.Hx
section
open Go.Proofs
def ve {a b:AS} (h:ay .and .u32 (asI a) (asI b) = 0):a &&& b = 0:=c6.1 ((fj a b).symm.trans h)
def qb {a b:AS} (h:¬ ay .and .u32 (asI a) (asI b) = 0):¬ a &&& b = 0:=fun e=>h ((fj a b).trans (congrArg asI e))
def atc {a b:AS} (h:ay .andNot .u32 (asI a) (asI b) = 0):a &&& ~~~b = 0:=c6.1 ((i7 a b).symm.trans h)
def ajs {a b:AS} (h:¬ ay .andNot .u32 (asI a) (asI b) = 0):¬ a &&& ~~~b = 0:=fun e=>h ((i7 a b).trans (congrArg asI e))
def a8h {m:Fd} {x:AS} (h:¬ x &&& m.lhs = 0):dw m x = false:=by unfold dw;rw [decide_eq_false h];rfl
def a8c {m:Fd} {x:AS} (h:x &&& m.rhs = 0):dw m x = false:=by simp [dw,h]
def alw (a b:AS):decide (ay .and .u32 (asI a) (asI b) = 0) = decide (a &&& b = 0):=by
 by_cases h:ay .and .u32 (asI a) (asI b) = 0
 · rw [decide_eq_true h,decide_eq_true (ve h)]
 rw [decide_eq_false h,decide_eq_false (qb h)]
def be9 (a b:AS):decide (ay .andNot .u32 (asI a) (asI b) = 0) = decide (a &&& ~~~b = 0):=by
 by_cases h:ay .andNot .u32 (asI a) (asI b) = 0
 · rw [decide_eq_true h,decide_eq_true (atc h)]
 rw [decide_eq_false h,decide_eq_false (ajs h)]
def a83 (m:Fd) (x:AS):(bif (bif decide (ay .and .u32 (asI x) (asI m.lhs) = 0) then !decide (ay .and .u32 (asI x) (asI m.rhs) = 0) else false) then !decide (ay .andNot .u32 (asI x) (asI m.rhs) = 0) else false) = dw m x:=by
 rw [alw,alw,be9];unfold dw;by_cases h1:x &&& m.lhs = 0 <;> by_cases h2:x &&& m.rhs = 0 <;> by_cases h3:x &&& ~~~m.rhs = 0 <;> simp only [h1,h2,h3,decide_true,decide_false,ne_eq,not_true_eq_false,not_false_eq_true,bpj,bqe,cond_true,cond_false,Bool.and_self,Bool.and_true,boi,bqg,Bool.false_and]
def x8 {m:Fd} {l:List AS} {i:Nat} (c:Bool) (h:i < l.length) (hs:dw m (l.getD i default) = true):true = (c || (l.take (i + 1)).any (dw m)):=by
 rw [am h,List.any_append];simp only [List.any_cons,List.any_nil,hs,Bool.or_true,Bool.or_false]
def a6r {m:Fd} {l:List AS} {i:Nat} (c:Bool) (h:i < l.length) (hs:dw m (l.getD i default) = false):(c || (l.take i).any (dw m)) = (c || (l.take (i + 1)).any (dw m)):=by
 rw [am h,List.any_append];simp only [List.any_cons,List.any_nil,hs,Bool.or_true,Bool.or_false]
def at8 (x:Nat × List AS × Bool):Nat:=x.1 + (bif x.2.2 then 1 else 0)
def b98 {f:Nat} {l l':List AS} {c:Bool} (h:0 < f):at8 (f - 1,l',c) < at8 (f,l,true):=by
 cases c <;> simp only [at8,cond_true,cond_false] <;> omega
def aqd (n:Int) (ms:List Fd) (x:AS) (h0:0 <= n) (h1:n <= 16):a6 br6 188 [pI n,pP (fdl ms),pA x] (a8 [pP (asl (ord (blks ms (a7 n &&& ~~~x))))]):=by
 refine hpx (nt:=76) Tryz.func188 ?_;refine c8 1 rfl fun hn=>?_;have hrest:ay .andNot .u32 (IntKind.wrap .u32 (1 * 2 ^ (min n.toNat 32)) - 1) (asI x) = asI (a7 n &&& ~~~x):=by rw [ut h0 h1,i7]
 refine w_8 ?_;refine bw 7 900 true 1 46 (lf sC []) bqo rfl (CoP.sl rfl (.inr rfl) (fun h=>h) (fun i j hi _=>absurd hi (bmf i))) (.inr rfl) rfl ?_;refine jx (ka 1 kn) km ⟨[(7,some (.v (.one (.ref 900 (kg (a7 n &&& ~~~x)).length))))],[(900,some (.arr true 1 46 (kg (a7 n &&& ~~~x)).length (lf sC (kg (a7 n &&& ~~~x)))))]⟩ ?_ ?_
 ·
  refine w_4 ?_;refine rq rfl rfl rfl rfl rfl ?_ (hp:=⟨a00 h0 h1,xt h0 h1⟩);refine w_9 ?_;refine hcn (fun h0=>?_) (fun h0=>?_)
  · have hne:¬ (a7 n &&& ~~~x) = 0:=fun e=>h0 (hrest.trans (congrArg asI e));refine w_3 ?_;refine m9 0 ?_;refine r9 1 true ?_;refine w_2 ?_;exact ⟨⟨⟨_,rfl,(by first | exact bg (a8k hne) | exact bi (a9f hz))⟩,tt⟩,⟨⟨_,rfl,(by first | exact bh (a8k hne) (CoP.of_eq (congrArg (fun z=>PV.raw (.int .u32 z)) hrest)) | exact b8 (a9f hz))⟩,trivial⟩⟩
  have hz:(a7 n &&& ~~~x) = 0:=c6.1 (hrest.symm.trans h0);refine ck ?_;exact ⟨⟨⟨_,rfl,(by first | exact bg (a8k hne) | exact bi (a9f hz))⟩,tt⟩,⟨⟨_,rfl,(by first | exact bh (a8k hne) (CoP.of_eq (congrArg (fun z=>PV.raw (.int .u32 z)) hrest)) | exact b8 (a9f hz))⟩,trivial⟩⟩
 refine w_6 ?_;refine ae (ι:=(Nat × List AS × Bool)) (ka 1 kn) km (fun y=>⟨[(7,some (.v (.one (.ref 900 y.2.1.length)))),(9,some (vB y.2.2))],[(900,some (.arr true 1 46 y.2.1.length (lf sC y.2.1)))]⟩) (fun y=>BkI ms (blks ms (a7 n &&& ~~~x)) y) (fun y=>at8 y) ((18446744073709551616,kg (a7 n &&& ~~~x),true)) (b0q ms (a7 n &&& ~~~x)) kk ?_;rintro ⟨f,l,ag⟩ hI;refine w_5 ?_;refine ak _ rfl (fun r1=>?_) (fun r1=>?_)
 ·
  have h1:=r1;obtain rfl:ag = true:=r1;obtain ⟨hI2,hf⟩:=b74 hI;have hok:=hI.ok;refine ja ?_;refine b5 (ka 1 (ka 26 (ka 27 kn))) km (fun j=>⟨[(7,some (.v (.one (.ref 900 (ci (ms.take j) l).length)))),(9,some (vB (my (ms.take j) l))),(28,some (vI j))],[(900,some (.arr true 1 46 (ci (ms.take j) l).length (lf sC (ci (ms.take j) l))))]⟩) ms.length ⟨⟨zy,⟨_,rfl,(CoR.refl _)⟩,tt⟩,uu⟩ ?_;rintro j hj;have hokj:OkB (ci (ms.take j) l):=a9a hok;have hlj:=agm (ay9 (m:=(ms.getD j default)) hokj);refine w_5 ?_;refine hcd (fun h2=>?_) (fun h2=>?_)
  ·
   refine w_7 ?_;refine m9 2 ?_;refine w_9 ?_;refine b0g 32 rfl rfl rfl ?_;refine ae (ι:=(Nat × Bool)) (ka 1 (ka 11 (ka 26 (ka 27 (ka 28 (ka 33 kn)))))) (kb 2 km) (fun y=>⟨[(7,some (.v (.one (.ref (bif y.2 then 900 else 951) (stB (ms.getD j default) (ci (ms.take j) l) y.1).length)))),(9,some (vB (my (ms.take j) l || ((ci (ms.take j) l).take y.1).any (dw (ms.getD j default))))),(34,some (vI y.1)),(32,some (bif y.2 then .v (.one (.win 900 (stB (ms.getD j default) (ci (ms.take j) l) y.1).length 0 (ci (ms.take j) l).length)) else bp (.sl (ci (ms.take j) l).length 1 false (a6t (ci (ms.take j) l) y.1))))],[(bif y.2 then 900 else 951,some (.arr true 1 46 (stB (ms.getD j default) (ci (ms.take j) l) y.1).length (lf sC (stB (ms.getD j default) (ci (ms.take j) l) y.1))))]⟩) (fun y=>y.1 <= (ci (ms.take j) l).length) (fun y=>(ci (ms.take j) l).length - y.1) ((0,true)) (bmh _) ⟨⟨⟨_,rfl,(bi (abl _ _))⟩,⟨_,rfl,(cob bqm)⟩,⟨_,rfl,(CoR.refl _)⟩,⟨_,rfl,(CoR.of_eq (by rw [abl];rfl))⟩,trivial⟩,⟨⟨_,rfl,(b8 (abl _ _))⟩,trivial⟩⟩ ?_;rintro ⟨i,b⟩ hi;have hi:i <= (ci (ms.take j) l).length:=hi;have hsl:=ben (ms.getD j default) (ci (ms.take j) l) i;have hsl2:=arn (ms.getD j default) (ci (ms.take j) l) i
   rcases b with _ | _
   ·
    show HW _ _ _ ⟨_ :: _,_⟩ _;refine w_5 ?_;refine hcd (fun h3=>?_) (fun h3=>?_)
    ·
     have hil:i < (ci (ms.take j) l).length:=by omega
     refine w_7 ?_;refine rq (out:=⟨_, .v (.one (.p (asC ((ci (ms.take j) l).getD i default))))⟩) rfl rfl rfl (congrArg (fun z=>some (Out.mk _ (HR.v (HC.one (HV.p z))))) (b9l (ci (ms.take j) l) i)) rfl ?_;refine w_3 ?_;refine jx (ka 1 (ka 7 (ka 9 (ka 11 (ka 12 (ka 13 (ka 26 (ka 27 (ka 28 (ka 32 (ka 33 (ka 34 kn)))))))))))) (kb 2 km) ⟨[(57,some (vB (dw (ms.getD j default) ((ci (ms.take j) l).getD i default))))],[(951,some (.arr true 1 46 (stB (ms.getD j default) (ci (ms.take j) l) i).length (lf sC (stB (ms.getD j default) (ci (ms.take j) l) i))))]⟩ ?_ ?_
     ·
      refine w_7 ?_;refine ah rfl rfl (fun r4=>?_) (fun r4=>?_)
      ·
       have h4:=tz1 r4;have g1:((ci (ms.take j) l).getD i default) &&& (ms.getD j default).lhs = 0:=ve h4;(iterate 5 refine qy ?_ (hg:=(gtt r4)));refine w_2 ?_;refine ah rfl rfl (fun r5=>?_) (fun r5=>?_)
       ·
        have h5:=tz2 (cu (br r4 r5));have g2:¬ ((ci (ms.take j) l).getD i default) &&& (ms.getD j default).rhs = 0:=qb h5;(iterate 5 refine qy ?_ (hg:=(gtt r5)));refine w_2 ?_
        exact ⟨⟨⟨_,rfl,(cob (by first | exact a83 _ _ | exact (a8h g1).symm | exact (a8c g2).symm))⟩,tt⟩,uu⟩
       have h5:=tz1 (ct (br r4 r5));have g2:((ci (ms.take j) l).getD i default) &&& (ms.getD j default).rhs = 0:=ve h5;(iterate 5 refine k9 (gft r5) ?_);refine rq rfl rfl rfl rfl rfl ?_ (hp:=r5);refine bz ?_
       exact ⟨⟨⟨_,rfl,(cob (by first | exact a83 _ _ | exact (a8h g1).symm | exact (a8c g2).symm))⟩,tt⟩,uu⟩
      have h4:=tz2 r4;have g1:¬ ((ci (ms.take j) l).getD i default) &&& (ms.getD j default).lhs = 0:=qb h4;(iterate 5 refine k9 (gft r4) ?_);refine rq rfl rfl rfl rfl rfl ?_ (hp:=r4);refine qy ?_;(iterate 5 refine k9 rfl ?_);refine w_2 ?_
      exact ⟨⟨⟨_,rfl,(cob (by first | exact a83 _ _ | exact (a8h g1).symm | exact (a8c g2).symm))⟩,tt⟩,uu⟩
     refine ak _ rfl (fun r6=>?_) (fun r6=>?_)
     ·
      have h6:=r6;have hs:dw (ms.getD j default) ((ci (ms.take j) l).getD i default) = true:=r6;have hl2:(stB (ms.getD j default) (ci (ms.take j) l) (i + 1)).length = (stB (ms.getD j default) (ci (ms.take j) l) i).length + 1:=by rw [aiv hil hs,bmg,bol];rfl
      refine aad ?_;refine m9 3 ?_;refine r9 4 true ?_;refine w_9 ?_
      first | (refine ⟨(i + 1, false), ?_, ?_, ?_⟩
               · show i + 1 <= _;omega
               · first | omega | (dsimp only;omega)
               exact ⟨⟨⟨_,rfl,(CoR.of_eq (congrArg (fun z=>HR.v (.one (.ref 951 z))) hl2.symm))⟩,⟨_,rfl,(cob (x8 _ hil hs))⟩,⟨_,rfl,(CoR.refl _)⟩,⟨_,rfl,(CoC.one (a86 rfl))⟩,tt⟩,⟨⟨_,rfl,(xz hil hs rfl (fj _ _) (CoP.of_eq (congrArg (fun z=>PV.raw (.int .u32 z)) (i7 _ _))))⟩,uu⟩⟩)
            | (refine ⟨(i + 1,false), ?_, ?_, ?_⟩
               · show i + 1 <= _;omega
               · first | omega | (dsimp only;omega)
               exact ⟨⟨⟨_,rfl,(bi (pk hil hs))⟩,⟨_,rfl,(cob (a6r _ hil hs))⟩,⟨_,rfl,(CoR.refl _)⟩,⟨_,rfl,(CoC.one (a86 rfl))⟩,tt⟩,⟨⟨_,rfl,(b8 (pk hil hs))⟩,uu⟩⟩)
     have h6:=r6;have hs:dw (ms.getD j default) ((ci (ms.take j) l).getD i default) = false:=r6;refine w_5 ?_
     first | (refine ⟨(i + 1, false), ?_, ?_, ?_⟩
              · show i + 1 <= _;omega
              · first | omega | (dsimp only;omega)
              exact ⟨⟨⟨_,rfl,(CoR.of_eq (congrArg (fun z=>HR.v (.one (.ref 951 z))) hl2.symm))⟩,⟨_,rfl,(cob (x8 _ hil hs))⟩,⟨_,rfl,(CoR.refl _)⟩,⟨_,rfl,(CoC.one (a86 rfl))⟩,tt⟩,⟨⟨_,rfl,(xz hil hs rfl (fj _ _) (CoP.of_eq (congrArg (fun z=>PV.raw (.int .u32 z)) (i7 _ _))))⟩,uu⟩⟩)
           | (refine ⟨(i + 1,false), ?_, ?_, ?_⟩
              · show i + 1 <= _;omega
              · first | omega | (dsimp only;omega)
              exact ⟨⟨⟨_,rfl,(bi (pk hil hs))⟩,⟨_,rfl,(cob (a6r _ hil hs))⟩,⟨_,rfl,(CoR.refl _)⟩,⟨_,rfl,(CoC.one (a86 rfl))⟩,tt⟩,⟨⟨_,rfl,(b8 (pk hil hs))⟩,uu⟩⟩)
    obtain rfl:i = (ci (ms.take j) l).length:=by omega
    refine xf 7 900 rfl rfl rfl rfl ?_;refine w_5 ?_;exact lpx (j + 1) ⟨⟨⟨_,rfl,(bi (by rw [a4v bqi,a30]))⟩,⟨_,rfl,(cob (by rw [al5 bqi,bmi]))⟩,tt⟩,⟨⟨_,rfl,(b8 (by rw [a4v bqi,a30]))⟩,trivial⟩⟩
   show HW _ _ _ ⟨_ :: _,_⟩ _;refine w_5 ?_;refine hcd (fun h7=>?_) (fun h7=>?_)
   ·
    have hil:i < (ci (ms.take j) l).length:=by omega
    refine w_7 ?_;refine rq (out:=⟨_, .v (.one (.p (asC ((ci (ms.take j) l).getD i default))))⟩) rfl rfl rfl (congrArg (fun z=>some (Out.mk _ (HR.v (HC.one (HV.p z))))) ((show lf sC (stB (ms.getD j default) (ci (ms.take j) l) i) (0 + i) 0 = _ by rw [bna];exact congrArg asC (b71 hil)))) rfl ?_;refine w_3 ?_;refine jx (ka 1 (ka 7 (ka 9 (ka 11 (ka 12 (ka 13 (ka 26 (ka 27 (ka 28 (ka 32 (ka 33 (ka 34 kn)))))))))))) (kb 2 km) ⟨[(57,some (vB (dw (ms.getD j default) ((ci (ms.take j) l).getD i default))))],[(900,some (.arr true 1 46 (stB (ms.getD j default) (ci (ms.take j) l) i).length (lf sC (stB (ms.getD j default) (ci (ms.take j) l) i))))]⟩ ?_ ?_
    ·
     refine w_7 ?_;refine ah rfl rfl (fun r8=>?_) (fun r8=>?_)
     ·
      have h8:=tz1 r8;have g1:((ci (ms.take j) l).getD i default) &&& (ms.getD j default).lhs = 0:=ve h8;(iterate 5 refine qy ?_ (hg:=(gtt r8)));refine w_2 ?_;refine ah rfl rfl (fun r9=>?_) (fun r9=>?_)
      ·
       have h9:=tz2 (cu (br r8 r9));have g2:¬ ((ci (ms.take j) l).getD i default) &&& (ms.getD j default).rhs = 0:=qb h9;(iterate 5 refine qy ?_ (hg:=(gtt r9)));refine w_2 ?_
       exact ⟨⟨⟨_,rfl,(cob (by first | exact a83 _ _ | exact (a8h g1).symm | exact (a8c g2).symm))⟩,tt⟩,uu⟩
      have h9:=tz1 (ct (br r8 r9));have g2:((ci (ms.take j) l).getD i default) &&& (ms.getD j default).rhs = 0:=ve h9;(iterate 5 refine k9 (gft r9) ?_);refine rq rfl rfl rfl rfl rfl ?_ (hp:=r9);refine bz ?_
      exact ⟨⟨⟨_,rfl,(cob (by first | exact a83 _ _ | exact (a8h g1).symm | exact (a8c g2).symm))⟩,tt⟩,uu⟩
     have h8:=tz2 r8;have g1:¬ ((ci (ms.take j) l).getD i default) &&& (ms.getD j default).lhs = 0:=qb h8;(iterate 5 refine k9 (gft r8) ?_);refine rq rfl rfl rfl rfl rfl ?_ (hp:=r8);refine qy ?_;(iterate 5 refine k9 rfl ?_);refine w_2 ?_
     exact ⟨⟨⟨_,rfl,(cob (by first | exact a83 _ _ | exact (a8h g1).symm | exact (a8c g2).symm))⟩,tt⟩,uu⟩
    refine ak _ rfl (fun r10=>?_) (fun r10=>?_)
    ·
     have h10:=r10;have hs:dw (ms.getD j default) ((ci (ms.take j) l).getD i default) = true:=r10;have hl2:(stB (ms.getD j default) (ci (ms.take j) l) (i + 1)).length = (stB (ms.getD j default) (ci (ms.take j) l) i).length + 1:=by rw [aiv hil hs,bmg,bol];rfl
     refine dy ?_;refine b6n 7 32 rfl rfl rfl rfl rfl rfl (fun ad cap hcap=>?_) ?_
     ·
      refine w_6 ?_;refine m9 5 ?_;refine r9 6 true ?_;refine w_2 ?_;refine b2l 7 32 rfl rfl rfl rfl (by dsimp only at *;omega) rfl ?_;refine w_7 ?_
      first | (refine ⟨(i + 1, true), ?_, ?_, ?_⟩
               · show i + 1 <= _;omega
               · first | omega | (dsimp only;omega)
               exact ⟨⟨⟨_,rfl,(CoR.of_eq (congrArg (fun z=>HR.v (.one (.ref 900 z))) hl2.symm))⟩,⟨_,rfl,(cob (x8 _ hil hs))⟩,⟨_,rfl,(CoR.refl _)⟩,⟨_,rfl,(CoR.of_eq (congrArg (fun z=>HR.v (.one (.win 900 z 0 _))) hl2.symm))⟩,tt⟩,⟨⟨_,rfl,(xz hil hs rfl (fj _ _) (CoP.of_eq (congrArg (fun z=>PV.raw (.int .u32 z)) (i7 _ _))))⟩,uu⟩⟩)
            | (refine ⟨(i + 1,false), ?_, ?_, ?_⟩
               · show i + 1 <= _;omega
               · first | omega | (dsimp only;omega)
               exact ⟨⟨⟨_,rfl,(CoR.of_eq (congrArg (fun z=>HR.v (.one (.ref 951 z))) hl2.symm))⟩,⟨_,rfl,(cob (x8 _ hil hs))⟩,⟨_,rfl,(CoR.refl _)⟩,⟨_,rfl,(CoC.one (am1 hil))⟩,tt⟩,⟨⟨_,rfl,(xz hil hs rfl (fj _ _) (CoP.of_eq (congrArg (fun z=>PV.raw (.int .u32 z)) (i7 _ _))))⟩,uu⟩⟩)
            | (refine ⟨(i + 1,true), ?_, ?_, ?_⟩
               · show i + 1 <= _;omega
               · first | omega | (dsimp only;omega)
               exact ⟨⟨⟨_,rfl,(bi (pk hil hs))⟩,⟨_,rfl,(cob (a6r _ hil hs))⟩,⟨_,rfl,(CoR.refl _)⟩,⟨_,rfl,(CoR.of_eq (congrArg (fun z=>HR.v (.one (.win 900 z 0 _))) (congrArg List.length (pk hil hs)).symm))⟩,tt⟩,⟨⟨_,rfl,(b8 (pk hil hs))⟩,uu⟩⟩)
     refine w_6 ?_;refine m9 950 ?_;refine r9 951 true ?_;refine w_9 ?_
     first | (refine ⟨(i + 1, true), ?_, ?_, ?_⟩
              · show i + 1 <= _;omega
              · first | omega | (dsimp only;omega)
              exact ⟨⟨⟨_,rfl,(CoR.of_eq (congrArg (fun z=>HR.v (.one (.ref 900 z))) hl2.symm))⟩,⟨_,rfl,(cob (x8 _ hil hs))⟩,⟨_,rfl,(CoR.refl _)⟩,⟨_,rfl,(CoR.of_eq (congrArg (fun z=>HR.v (.one (.win 900 z 0 _))) hl2.symm))⟩,tt⟩,⟨⟨_,rfl,(xz hil hs rfl (fj _ _) (CoP.of_eq (congrArg (fun z=>PV.raw (.int .u32 z)) (i7 _ _))))⟩,uu⟩⟩)
           | (refine ⟨(i + 1,false), ?_, ?_, ?_⟩
              · show i + 1 <= _;omega
              · first | omega | (dsimp only;omega)
              exact ⟨⟨⟨_,rfl,(CoR.of_eq (congrArg (fun z=>HR.v (.one (.ref 951 z))) hl2.symm))⟩,⟨_,rfl,(cob (x8 _ hil hs))⟩,⟨_,rfl,(CoR.refl _)⟩,⟨_,rfl,(CoC.one (am1 hil))⟩,tt⟩,⟨⟨_,rfl,(xz hil hs rfl (fj _ _) (CoP.of_eq (congrArg (fun z=>PV.raw (.int .u32 z)) (i7 _ _))))⟩,uu⟩⟩)
           | (refine ⟨(i + 1,true), ?_, ?_, ?_⟩
              · show i + 1 <= _;omega
              · first | omega | (dsimp only;omega)
              exact ⟨⟨⟨_,rfl,(bi (pk hil hs))⟩,⟨_,rfl,(cob (a6r _ hil hs))⟩,⟨_,rfl,(CoR.refl _)⟩,⟨_,rfl,(CoR.of_eq (congrArg (fun z=>HR.v (.one (.win 900 z 0 _))) (congrArg List.length (pk hil hs)).symm))⟩,tt⟩,⟨⟨_,rfl,(b8 (pk hil hs))⟩,uu⟩⟩)
    have h10:=r10;have hs:dw (ms.getD j default) ((ci (ms.take j) l).getD i default) = false:=r10;refine w_5 ?_
    first | (refine ⟨(i + 1, true), ?_, ?_, ?_⟩
             · show i + 1 <= _;omega
             · first | omega | (dsimp only;omega)
             exact ⟨⟨⟨_,rfl,(CoR.of_eq (congrArg (fun z=>HR.v (.one (.ref 900 z))) hl2.symm))⟩,⟨_,rfl,(cob (x8 _ hil hs))⟩,⟨_,rfl,(CoR.refl _)⟩,⟨_,rfl,(CoR.of_eq (congrArg (fun z=>HR.v (.one (.win 900 z 0 _))) hl2.symm))⟩,tt⟩,⟨⟨_,rfl,(xz hil hs rfl (fj _ _) (CoP.of_eq (congrArg (fun z=>PV.raw (.int .u32 z)) (i7 _ _))))⟩,uu⟩⟩)
          | (refine ⟨(i + 1,false), ?_, ?_, ?_⟩
             · show i + 1 <= _;omega
             · first | omega | (dsimp only;omega)
             exact ⟨⟨⟨_,rfl,(CoR.of_eq (congrArg (fun z=>HR.v (.one (.ref 951 z))) hl2.symm))⟩,⟨_,rfl,(cob (x8 _ hil hs))⟩,⟨_,rfl,(CoR.refl _)⟩,⟨_,rfl,(CoC.one (am1 hil))⟩,tt⟩,⟨⟨_,rfl,(xz hil hs rfl (fj _ _) (CoP.of_eq (congrArg (fun z=>PV.raw (.int .u32 z)) (i7 _ _))))⟩,uu⟩⟩)
          | (refine ⟨(i + 1,true), ?_, ?_, ?_⟩
             · show i + 1 <= _;omega
             · first | omega | (dsimp only;omega)
             exact ⟨⟨⟨_,rfl,(bi (pk hil hs))⟩,⟨_,rfl,(cob (a6r _ hil hs))⟩,⟨_,rfl,(CoR.refl _)⟩,⟨_,rfl,(CoR.of_eq (congrArg (fun z=>HR.v (.one (.win 900 z 0 _))) (congrArg List.length (pk hil hs)).symm))⟩,tt⟩,⟨⟨_,rfl,(b8 (pk hil hs))⟩,uu⟩⟩)
   obtain rfl:i = (ci (ms.take j) l).length:=by omega
   refine w_5 ?_;exact lpx (j + 1) ⟨⟨⟨_,rfl,(bi (by rw [a4v bqi,a30]))⟩,⟨_,rfl,(cob (by rw [al5 bqi,bmi]))⟩,tt⟩,⟨⟨_,rfl,(b8 (by rw [a4v bqi,a30]))⟩,trivial⟩⟩
  obtain rfl:j = ms.length:=by omega
  rw [show ms.take ms.length = ms from bmi];refine da ?_;refine ⟨(f - 1,ci ms l,my ms l), ?_, ?_, ?_⟩
  · exact hI2
  · exact b98 hf
  exact kk
 have h1:=r1;obtain rfl:ag = false:=r1;have hl:l = (blks ms (a7 n &&& ~~~x)):=hI.f rfl;subst hl;refine w_2 ?_;refine al 7 rfl rfl rfl ?_;refine w_2 ?_;refine qcx zi (a5s (blks ms (a7 n &&& ~~~x)) (bmo (agm hI.ok) bqo)) ?_;refine v_2 ?_;exact CoL.refl _
end
section
def b8o {f:Fd} {k:Nat} (h:k < (aj f.rhs).length):(sgl f).getD k default = ⟨f.lhs,jt ((aj f.rhs).getD k default)⟩:=by
 unfold sgl;simp [bmb,bma h]
def acv (f:Fd):(sgl f).length = (aj f.rhs).length:=by unfold sgl;rw [bms]
def asa {fs ms:List Fd} {i k:Nat} (h:k < (aj (fs.getD i default).rhs).length):lw fs ms i (k + 1) = lw fs ms i k ++ [⟨(fs.getD i default).lhs,jt ((aj (fs.getD i default).rhs).getD k default)⟩]:=by
 rw [az0 (by rw [acv];exact h),b8o h]
def aps {fs ms:List Fd} {i:Nat} (h:i < fs.length):lw fs ms (i + 1) 0 = lw fs ms i (aj (fs.getD i default).rhs).length:=by rw [ayl h,acv]
def b5l {a b:AS} {k:Nat} (h:sub a b) (hb:b >>> k = 0):a >>> k = 0:=by
 apply ln;intro i hi;have:=congrArg (fun z:AS=>z.getLsbD i) hb;simp only [bp5] at this ⊢
 cases ha:a.getLsbD (k + i) with
 | false=>simp
 | true=>rw [ar.1 h _ (zk ha) ha] at this;simp at this
def a0f (b:AS) (f:Fd):Bool:=!decide ((f.rhs &&& ~~~f.lhs) &&& b = 0)
def vm (l:List Fd) (o b:AS):AS:=if bsz b = 1 then (if l.any (a0f b) = true then o ||| b else o) else o
def um (l:List Fd) (o:AS) (bs:List AS):AS:=bs.foldl (vm l) o
def a7g {l:List Fd} {o:AS} {bs:List AS} {i:Nat} (h:i < bs.length):um l o (bs.take (i + 1)) = vm l (um l o (bs.take i)) (bs.getD i default):=by
 unfold um;rw [am h,bnn];rfl
section
variable {l:List Fd} {o:AS} {bs:List AS} {i:Nat}
def ao2 (h:i < bs.length) (hq:¬ bsz (bs.getD i default) = 1):um l o (bs.take i) = um l o (bs.take (i + 1)):=by rw [a7g h,vm,if_neg hq]
def amg (h:i < bs.length) (hq:bsz (bs.getD i default) = 1) (ha:l.any (a0f (bs.getD i default)) = false):um l o (bs.take i) = um l o (bs.take (i + 1)):=by rw [a7g h,vm,if_pos hq,if_neg (by rw [ha];decide)]
def ao5 (h:i < bs.length) (hq:bsz (bs.getD i default) = 1) (ha:l.any (a0f (bs.getD i default)) = true):um l o (bs.take i) ||| bs.getD i default = um l o (bs.take (i + 1)):=by rw [a7g h,vm,if_pos hq,if_pos ha]
end
def dq (n:Int) (l m:List Fd) (x:AS):List AS:=ord (blks (kr l m) (a7 n &&& ~~~x))
def b06 (n:Int) (l m:List Fd) (x:AS):List AS:=if ckB n l m x = 0 then dq n l m x else []
def qc (n:Int) (l m:List Fd) (x:AS):AS:=um l x (dq n l m x)
def auo (n:Int) (l m:List Fd) (x:AS):AS:=if ckB n l m x = 0 then qc n l m x else 0
def b1t (ms:List Fd) (rest:AS):OkB (blks ms rest):=by
 have:∀ (f:Nat) (l:List AS),OkB l -> OkB (y4 ms f l):=by
  intro f
  induction f with
  | zero=>intro l h;exact h
  | succ f ih =>
   intro l h;unfold y4;split
   · exact ih _ (a9a h)
   exact a9a h
 exact this _ _ (aig rest)
def a4p (n:Int) (l m:List Fd) (x:AS):(dq n l m x).length <= 4294967296:=bmo (jw _) (agm (b1t _ _))
def n9 (p:AS) (bs:List AS):List AS:=(bs.filter fun b=>!decide (b &&& p = 0)).map fun b=>b &&& p
section
variable {i:Nat}
def xj {p:AS} {bs:List AS} (h:i < bs.length) (hq:¬ bs.getD i default &&& p = 0):n9 p (bs.take (i + 1)) = n9 p (bs.take i) ++ [bs.getD i default &&& p]:=by
 unfold n9;rw [am h,bnc,boh,bnf,if_pos (by rw [decide_eq_false hq];rfl)];rfl
def xu {p:AS} {bs:List AS} (h:i < bs.length) (hq:bs.getD i default &&& p = 0):n9 p (bs.take (i + 1)) = n9 p (bs.take i):=by
 unfold n9;rw [am h,bnc,boh,bnf,if_neg (by rw [decide_eq_true hq];decide)];simp
def aak (p:AS) (bs:List AS):(n9 p bs).length <= bs.length:=by
 unfold n9;rw [bms];exact bo2 _ _
def pg (n:Int) (l m:List Fd) (x p:AS):List AS:=ord (n9 p (dq n l m x))
def a7v (n:Int) (l m:List Fd) (x p:AS):(n9 p (dq n l m x)).length <= 8589934592:=bmo (aak _ _) (bmo (a4p _ _ _ _) bqo)
def ck4 (n:Int) (l m:List Fd) (s:AS):Int:=if n < 0 \/ 8 < n then 7 else ckB n l m s
variable {l m:List Fd} {n:Int} {s:AS}
def b4z (h:n < 0 \/ 8 < n):ck4 n l m s = 7:=if_pos h
def a9c (h:¬ (n < 0 \/ 8 < n)):ck4 n l m s = ckB n l m s:=if_neg h
def ao9 (h:ck4 n l m s = 0):0 <= n /\ n <= 8 /\ ckB n l m s = 0:=by
 unfold ck4 at h;split at h
 · cases h
 exact ⟨by omega,by omega,h⟩
def afy {t:AS} (h:ckB n l m s = 0) (ht:sub t s):ckB n l m t = 0:=aj7 (acr h).1 (b5l ht (acr h).2)
def b7s {t:AS} (h:ck4 n l m s = 0) (ht:sub t s):ck4 n l m t = 0:=by
 obtain ⟨h1,h2,h3⟩:=ao9 h;rw [a9c bqi];exact afy h3 ht
def b0j (n:Int) (l m:List Fd) (x p:AS):List AS:=if ck4 n l m (x ||| p) = 0 then pg n l m x p else []
def a6a (n:Int) (l m:List Fd) (p x:AS):Option Fd:=if p &&& ~~~(qc n l m x) = 0 then none else if 1 < (pg n l m x p).length then some ⟨x,(pg n l m x p).getD 0 default⟩ else none
def lu (n:Int) (l m:List Fd) (p:AS):Option Fd:=(aq p).findSome? (a6a n l m p)
def agp:Option Fd -> Fd × Bool
 | some v=>(v,true)
 | none=>(⟨0,0⟩,false)
def a6c (n:Int) (l m:List Fd) (p:AS):Fd × Bool:=if ck4 n l m p = 0 then agp (lu n l m p) else (⟨0,0⟩,false)
def bep {p:AS} (h:¬ ck4 n l m p = 0):a6c n l m p = (⟨0,0⟩,false):=if_neg h
def alk {p:AS} (h:ck4 n l m p = 0):a6c n l m p = agp (lu n l m p):=if_pos h
def jr {α β:Type} [Inhabited α] {f:α -> Option β} {l:List α} (h:i < l.length) (hn:(l.take i).findSome? f = none):(l.take (i + 1)).findSome? f = f (l.getD i default):=by
 rw [am h,bqh,hn];simp only [List.findSome?_cons,List.findSome?_nil,Option.none_or];cases f (l.getD i default) <;> rfl
def tx {α β:Type} [Inhabited α] {f:α -> Option β} {l:List α} {v:β} (h:i < l.length) (hn:(l.take i).findSome? f = none) (hv:f (l.getD i default) = some v):l.findSome? f = some v:=by
 have h1:=jr h hn;rw [hv] at h1;rw [<- bpq (i + 1) l,bqh,h1];rfl
def ahy {z:AS} (h:z ∈ aq s):sub z s:=by
 unfold aq at h;split at h
 · cases h
 exact a15.1 h
def a14 {α:Type} [Inhabited α] {l:List α} (h:i < l.length):l.getD i default ∈ l:=by
 rw [bmb,bma h];exact bmz h
def blb (V:AS -> Option Fd):Prop:=∀ p v,V p = some v -> sub (v.lhs ||| v.rhs) p /\ v.lhs ||| v.rhs ≠ p /\ p &&& ~~~v.rhs ≠ p
end
section
variable {V:AS -> Option Fd}
def vF (V:AS -> Option Fd) (s:AS):Fd:=(agp (V s)).1
def vBo (V:AS -> Option Fd) (s:AS):Bool:=(agp (V s)).2
def beh (V:AS -> Option Fd) (s:AS):AS:=(vF V s).lhs ||| (vF V s).rhs
def bdw (V:AS -> Option Fd) (s:AS):AS:=s &&& ~~~(vF V s).rhs
def akn (V:AS -> Option Fd):Nat -> List AS -> List AS -> List AS
 | 0,_,out=>out
 | n + 1,todo,out =>
  if todo.length = 0 then out
  else if vBo V (todo.getD (todo.length - 1) default) = true then akn V n (todo.take (todo.length - 1) ++ [beh V (todo.getD (todo.length - 1) default),bdw V (todo.getD (todo.length - 1) default)]) out
  else akn V n (todo.take (todo.length - 1)) (out ++ [todo.getD (todo.length - 1) default])
def blz (V:AS -> Option Fd) (p0:AS) (x:Nat × List AS × List AS):Prop:=akn V x.1 x.2.1 x.2.2 = akn V 6562 [p0] [] /\ rz x.2.1 < x.1 /\ x.2.2.length + x.1 <= 6562
def lvG (V:AS -> Option Fd):Nat -> AS -> List AS
 | 0,s=>[s]
 | n + 1,s=>if vBo V s = true then lvG V n (beh V s) ++ lvG V n (bdw V s) else [s]
end
def bkh (n:Int) (l m:List Fd):List AS:=akn (lu n l m) 6562 [a7 n] []
def bkc (n:Int) (l m:List Fd):List AS:=if ck4 n l m 0 = 0 then er (bkh n l m) else []
end
section
open Go.Proofs
def bew (n:Nat) (c:Bool) (f:Nat -> Nat -> PV) (hn:n <= 17592186044416) :
 d4 br6 234 [.one (.p (.sl n 2 c f))] [] (.v (.one (.ref 0 n))) [(0, .arr true 2 49 n f)] []:=by
 refine hfx (nt:=8) Tryz.func234 ?_;refine sx7 ?_;refine du true rfl rfl rfl rfl rfl trivial ?_;refine bz ?_;refine a99 (ι:=Bool) (fun c=>⟨[(0,some (bp (.sl n 2 c f)))],[]⟩) (fun _=>True) ?_ fun c _=>?_
 · rcases boa n with hz | h0
   · subst hz
     refine hw_exact' 0 rfl fun ad cap hcap=>?_;refine sx7 ?_;(iterate 2 refine du true rfl rfl rfl rfl rfl trivial ?_);refine bz ?_;refine ak ad.isNone rfl (fun hc=>?_) (fun hc=>?_)
     · refine sx7 ?_
       refine du true rfl rfl rfl rfl rfl trivial ?_;refine bz ?_;refine bw 2 0 true 2 49 f bqo rfl (CoP.sl rfl (.inr rfl) (fun h=>h) fun i j hi _=>absurd hi (bmf i)) (.inr rfl) rfl ?_;refine hrr ?_;exact ⟨_,_,rfl,trivial,CoR.refl _,uu⟩
     refine ck ?_;exact ⟨false,trivial,⟨⟨_,rfl,CoP.raw_sl hcap⟩,trivial⟩,trivial⟩
   refine sx7 ?_;refine du true rfl rfl rfl rfl rfl trivial ?_;refine du true rfl rfl rfl rfl rfl h0 ?_;refine bz ?_;refine ak false rfl (fun hc=>by cases hc) (fun hc=>?_);refine ck ?_;exact ⟨c,trivial,tt,trivial⟩
 refine sx7 ?_;refine a2n 0 rfl rfl rfl rfl rfl rfl trivial ?_;refine du true rfl rfl rfl rfl rfl trivial ?_;refine a63 0 true rfl rfl rfl rfl rfl rfl ⟨trivial,rfl,rfl,rfl, .inl rfl,by show 0 + n <= 9223372036854775807;omega,by show (0 + n) * 8 <= 140737488355328;omega,fun _=>.inl rfl⟩ ?_;refine du true rfl rfl rfl rfl rfl trivial ?_;refine bz ?_;refine hrr ?_;refine ⟨_,_,rfl,trivial,CoR.of_eq (by show HR.v (.one (.ref 0 (0 + n))) = _;rw [bna]),⟨⟨_,rfl, ?_⟩,trivial⟩⟩;exact ⟨fun h=>h,rfl,rfl,(bna n).symm,fun i j _ _=>CoP.of_eq (by simp [eq])⟩
def ar3 (n:Int) (l m:List Fd) (x:AS):a6 br6 187 [pI n,pP (fdl l),pP (fdl m),pA x] (a8 [pI (ckB n l m x)]):=by
 refine hpx (nt:=21) Tryz.func187 ?_;refine c5 ?_;refine qcx a2k (zj n l m) ?_;refine w_7 ?_;refine hcn (fun h0=>?_) (fun h0=>?_)
 · refine v_5 ?_;exact ⟨cci (b48 bqj).symm,trivial⟩
 have hb:bt n l m = 0:=h0;obtain ⟨hn0,hn1,_⟩:=kz hb;refine w_6 ?_;refine rq rfl rfl rfl rfl rfl ?_ (hp:=hn0);refine w_2 ?_;refine hcn (fun h1=>?_) (fun h1=>?_)
 · refine v_4 ?_;exact ⟨cci (b4q hb (fun e=>(by assumption:¬ _ = _) ((yf x n.toNat).trans (congrArg asI e)))).symm,trivial⟩
 refine v_5 ?_;exact ⟨cci (aj7 hb (c6.1 ((yf x n.toNat).symm.trans bqj))).symm,trivial⟩
def b4u (l m:List Fd) (hl:l.length <= 64) (hm:m.length <= 64):a6 br6 189 [pP (fdl l),pP (fdl m)] (a8 [pP (fdl (kr l m))]):=by
 refine hpx (nt:=37) Tryz.func189 ?_;refine w_7 ?_;refine fc9 (wgx Tryz.func234) ((bew m.length false (lf Fd.c m) bqi).swap 0 900) trivial ?_;refine c5 ?_;refine b5 (ka 12 (ka 13 kn)) km (fun i=>⟨[(5,some (.v (.one (.ref 900 (lw l m i 0).length)))),(14,some (vI i))],[(900,some (.arr true 2 49 (lw l m i 0).length (lf Fd.c (lw l m i 0))))]⟩) l.length ⟨⟨⟨_,rfl,(bi (ah2 l m))⟩,⟨_,rfl,(CoR.refl _)⟩,trivial⟩,⟨⟨_,rfl,(b8 (ah2 l m))⟩,trivial⟩⟩ ?_;rintro i hi;have hmb:=o0 (l.getD i default).rhs;refine w_5 ?_;refine hcd (fun h0=>?_) (fun h0=>?_)
 ·
  refine w_7 ?_;refine m9 0 ?_;refine w_6 ?_;refine qcx a35 (afx (l.getD i default).rhs) ?_;refine w_4 ?_;refine b5 (ka 7 (ka 12 (ka 13 (ka 14 (ka 20 (ka 21 kn)))))) (kb 0 km) (fun k=>⟨[(5,some (.v (.one (.ref 900 (lw l m i k).length)))),(22,some (vI k))],[(900,some (.arr true 2 49 (lw l m i k).length (lf Fd.c (lw l m i k))))]⟩) ((aj (l.getD i default).rhs).length) ⟨⟨zy,⟨_,rfl,(CoR.refl _)⟩,trivial⟩,uu⟩ ?_;rintro k hk;have hal:=azt (fs:=l) (ms:=m) (i:=i) (k:=k);refine w_5 ?_;refine hcd (fun h1=>?_) (fun h1=>?_)
  · refine ow ?_;refine m9 1 ?_;refine r9 2 true ?_;refine w_7 ?_;exact lpx (k + 1) ⟨⟨⟨_,rfl,(bg (asa bqi))⟩,tt⟩,⟨⟨_,rfl,(jh (asa bqi) (CoP.refl _) (CoP.of_eq (congrArg (fun z=>PV.raw (.int .u32 z)) (am5 1 _))))⟩,uu⟩⟩
  obtain rfl:k = (aj (l.getD i default).rhs).length:=by omega
  refine w_5 ?_;exact lpx (i + 1) ⟨⟨⟨_,rfl,(bi (aps bqi))⟩,tt⟩,⟨⟨_,rfl,(b8 (aps bqi))⟩,trivial⟩⟩
 obtain rfl:i = l.length:=by omega
 refine w_6 ?_;refine al 4 rfl rfl rfl ?_;exact hx8 rfl rfl rfl (⟨CoC.one (CoP.of_eq (by rw [b3p];rfl)),trivial⟩)
def ban (n:Int) (l m:List Fd) (x:AS):a6 br6 192 [pI n,pP (fdl l),pP (fdl m),pA x] (a8 [pP (asl (b06 n l m x)),pI (ckB n l m x)]):=by
 refine hpx (nt:=25) Tryz.func192 ?_;refine dy ?_;refine qcx (wgx Tryz.func187) (ar3 n l m x) ?_;refine w_7 ?_;refine hcn (fun h0=>?_) (fun h0=>?_)
 · refine v_6 ?_;exact ⟨CoC.one (wu (if_neg bqj)),CoC.refl _,trivial⟩
 have hz:ckB n l m x = 0:=h0;have hb:=acr hz;obtain ⟨hn0,hn1,hl64,_,hm64,_⟩:=kz hb.1;refine w_6 ?_;refine qcx (wgx Tryz.func189) (b4u l m hl64 hm64) ?_;refine qy ?_;refine qcx (wgx Tryz.func188) (aqd n (kr l m) x hn0 hn1) ?_;refine v_3 ?_;exact ⟨CoC.one (CoP.of_eq (by rw [show b06 n l m x = dq n l m x from if_pos hz];rfl)),cci hz.symm,trivial⟩
def bea (f:Fd) (b:AS):a6 br6 191 [f.pc,pP (bx (asC b))] (a8 [pB (a0f b f)]):=by
 refine hpx (nt:=12) Tryz.func191 ?_;refine sx7 ?_;refine m9 0 ?_;refine p9 ?_;exact hx8 rfl rfl rfl (⟨ccb (by unfold a0f;rw [i7,alw]),trivial⟩)
def b9p (n:Int) (l m:List Fd) (x:AS):a6 br6 139 [pI n,pP (fdl l),pP (fdl m),pA x] (a8 [pA (auo n l m x),pI (ckB n l m x)]):=by
 refine hpx (nt:=45) Tryz.func139 ?_;refine dy ?_;refine qcx (wgx Tryz.func187) (ar3 n l m x) ?_;refine w_7 ?_;refine hcn (fun h0=>?_) (fun h0=>?_)
 · refine v_6 ?_;exact ⟨cci (congrArg asI (show (0:AS) = auo n l m x from (if_neg bqj).symm)),CoC.refl _,trivial⟩
 have hz:ckB n l m x = 0:=h0;have hb:=acr hz;obtain ⟨hn0,hn1,hl64,_,hm64,_⟩:=kz hb.1;refine dy ?_;refine qcx (wgx Tryz.func189) (b4u l m hl64 hm64) ?_;refine qy ?_;refine qcx (wgx Tryz.func188) (aqd n (kr l m) x hn0 hn1) ?_;refine w_4 ?_;have hbl:=a4p n l m x;refine b5 (ka 1 (ka 28 (ka 29 kn))) km (fun i=>⟨[(11,some (vA (um l x ((dq n l m x).take i)))),(30,some (vI i))],[]⟩) ((dq n l m x).length) ⟨⟨⟨_,rfl,(CoR.refl _)⟩,⟨_,rfl,(CoR.refl _)⟩,trivial⟩,trivial⟩ ?_;rintro i hi;refine w_5 ?_;refine hcd (fun h1=>?_) (fun h1=>?_)
 ·
  have hil:i < (dq n l m x).length:=Int.ofNat_lt.1 h1;refine w_7 ?_;refine m9 0 ?_;refine w_6 ?_;refine qcx za (a9b ((dq n l m x).getD i default)) ?_;refine w_2 ?_;refine hcn (fun h2=>?_) (fun h2=>?_)
  · have hq:¬ bsz ((dq n l m x).getD i default) = 1:=fun e=>h2 (by rw [e];rfl);refine w_5 ?_;exact lpx (i + 1) ⟨⟨⟨_,rfl,(by first | exact bj (congrArg asI (ao2 hil hq)) | exact bj (congrArg asI (amg hil hq ha)) | exact bj ((bOr _ _).trans (congrArg asI (ao5 hil hq ha))))⟩,tt⟩,trivial⟩
  have hq:bsz ((dq n l m x).getD i default) = 1:=Int.ofNat_inj.1 h2;refine w_2 ?_;refine cz 13 rfl rfl rfl ?_;refine w_3 ?_;refine qcx (wgx Tryz.func190) (bhg l 191 1 (fun j=>[bx (asC ((dq n l m x).getD i default))].getD j .any) (a0f ((dq n l m x).getD i default)) (wgx Tryz.func191) (fun f=>bea f ((dq n l m x).getD i default))) ?_;refine bz ?_;refine ak _ rfl (fun r3=>?_) (fun r3=>?_)
  · have h3:=r3;have ha:l.any (a0f ((dq n l m x).getD i default)) = true:=r3;refine c5 ?_;exact lpx (i + 1) ⟨⟨⟨_,rfl,(by first | exact bj (congrArg asI (ao2 hil hq)) | exact bj (congrArg asI (amg hil hq ha)) | exact bj ((bOr _ _).trans (congrArg asI (ao5 hil hq ha))))⟩,tt⟩,trivial⟩
  have h3:=r3;have ha:l.any (a0f ((dq n l m x).getD i default)) = false:=r3;refine w_5 ?_;exact lpx (i + 1) ⟨⟨⟨_,rfl,(by first | exact bj (congrArg asI (ao2 hil hq)) | exact bj (congrArg asI (amg hil hq ha)) | exact bj ((bOr _ _).trans (congrArg asI (ao5 hil hq ha))))⟩,tt⟩,trivial⟩
 obtain rfl:i = (dq n l m x).length:=Nat.le_antisymm hi (bpl fun q=>h1 (Int.ofNat_lt.2 q));rw [show (dq n l m x).take (dq n l m x).length = (dq n l m x) from bmi];refine v_7 ?_;exact ⟨cci (congrArg asI (show qc n l m x = auo n l m x from (if_pos hz).symm)),cci hz.symm,trivial⟩
def art (n:Int) (l m:List Fd) (s:AS):a6 br6 79 [pI n,pP (fdl l),pP (fdl m),pA s] (a8 [pI (ck4 n l m s)]):=by
 refine hpx (nt:=27) Tryz.func79 ?_;refine c5 ?_;refine ah rfl rfl (fun r0=>?_) (fun r0=>?_)
 ·
  have h0:=tz1 r0;(iterate 2 refine k9 (gtf r0) ?_);refine rq rfl rfl rfl rfl rfl ?_ (hp:=r0);refine w_6 ?_
  exact hx8 rfl rfl rfl (⟨cci (b4z bqi).symm,trivial⟩)
 have h0:=tz2 r0;(iterate 2 refine qy ?_ (hg:=(gff r0)));refine w_2 ?_;refine ak _ rfl (fun r1=>?_) (fun r1=>?_)
 · have h1:=tz1 (au r0 r1);refine v_4 ?_;exact ⟨cci (b4z bqi).symm,trivial⟩
 have h1:=tz2 (au r0 r1);refine w_7 ?_;refine qcx a2k (zj n l m) ?_;refine w_7 ?_;refine hcn (fun h2=>?_) (fun h2=>?_)
 ·
  have hc:¬ (n < 0 \/ 8 < n):=by omega
  refine v_5 ?_;exact ⟨cci ((a9c hc).trans (b48 bqj)).symm,trivial⟩
 have hb:bt n l m = 0:=h2;obtain ⟨hn0,hn1,_⟩:=kz hb;have hc:¬ (n < 0 \/ 8 < n):=by omega
 refine w_6 ?_;refine rq rfl rfl rfl rfl rfl ?_ (hp:=hn0);refine w_2 ?_;refine hcn (fun h3=>?_) (fun h3=>?_)
 · refine v_4 ?_;exact ⟨cci ((a9c hc).trans (b4q hb (fun e=>(by assumption:¬ _ = _) ((yf s n.toNat).trans (congrArg asI e))))).symm,trivial⟩
 refine v_5 ?_;exact ⟨cci ((a9c hc).trans (aj7 hb (c6.1 ((yf s n.toNat).symm.trans bqj)))).symm,trivial⟩
end
section
open Go.Proofs
section
variable {n:Int}
def azv (h:n <= 16):a7 n >>> n.toNat = 0:=by
 unfold a7;rw [show min n.toNat 32 = n.toNat by omega];exact (v7 bqi).1 (fh _)
variable {l m:List Fd} {x:AS}
def b2f (h:ckB n l m x = 0):a6 br6 192 [pI n,pP (fdl l),pP (fdl m),pA x] (a8 [pP (asl (dq n l m x)),pI 0]):=by
 have:=ban n l m x;rw [h,show b06 n l m x = dq n l m x from if_pos h] at this;exact this
def b2g (h:ckB n l m x = 0):a6 br6 139 [pI n,pP (fdl l),pP (fdl m),pA x] (a8 [pA (qc n l m x),pI 0]):=by
 have:=b9p n l m x;rw [h,show auo n l m x = qc n l m x from if_pos h] at this;exact this
def acx {p:AS} (h:p &&& ~~~(qc n l m x) = 0):a6a n l m p x = none:=if_pos h
def aco {p:AS} (h:¬ p &&& ~~~(qc n l m x) = 0) (h2:¬ 1 < (pg n l m x p).length):a6a n l m p x = none:=by unfold a6a;rw [if_neg h,if_neg h2]
def aw9 {p:AS} (h:¬ p &&& ~~~(qc n l m x) = 0) (h2:1 < (pg n l m x p).length):a6a n l m p x = some ⟨x,(pg n l m x p).getD 0 default⟩:=by unfold a6a;rw [if_neg h,if_pos h2]
def is4 (n:Int) (l m:List Fd):Bool:=if ck4 n l m 0 = 0 then !(a6c n l m (a7 n)).2 else false
def biq (n:Int) (l m:List Fd) (x p:AS):a6 br6 140 [pI n,pP (fdl l),pP (fdl m),pA x,pA p] (a8 [pP (asl (b0j n l m x p)),pI (ck4 n l m (x ||| p))]):=by
 refine hpx (nt:=58) Tryz.func140 ?_;refine p9 ?_;refine rc rfl rfl rfl rfl rfl rfl (wgx Tryz.func79) (art n l m (x ||| p)) (⟨CoC.refl _,CoC.refl _,CoC.refl _,cci (bOr _ _),trivial⟩) rfl rfl ?_;refine w_7 ?_;refine hcn (fun h0=>?_) (fun h0=>?_)
 · refine v_6 ?_;exact ⟨CoC.one (wu (if_neg bqj)),CoC.refl _,trivial⟩
 have hz:ck4 n l m (x ||| p) = 0:=h0;have hx:=afy (ao9 hz).2.2 (qj (a:=x) (b:=p));refine w_7 ?_;refine qcx (wgx Tryz.func192) (b2f hx) ?_;refine be2 ?_;refine bw 15 900 true 1 46 (lf sC []) bqo rfl (CoP.sl rfl (.inr rfl) (fun h=>h) (fun i j hi _=>absurd hi (bmf i))) (.inr rfl) rfl ?_;have hbl:=a4p n l m x;refine b5 (ka 4 (ka 39 (ka 40 kn))) km (fun i=>⟨[(15,some (.v (.one (.ref 900 (n9 p ((dq n l m x).take i)).length)))),(41,some (vI i))],[(900,some (.arr true 1 46 (n9 p ((dq n l m x).take i)).length (lf sC (n9 p ((dq n l m x).take i)))))]⟩) ((dq n l m x).length) ⟨⟨⟨_,rfl,(CoR.refl _)⟩,⟨_,rfl,(CoR.refl _)⟩,trivial⟩,uu⟩ ?_;rintro i hi;have hcl:(n9 p ((dq n l m x).take i)).length <= i:=bmo (aak _ _) (by rw [bmk];omega);refine w_5 ?_;refine hcd (fun h1=>?_) (fun h1=>?_)
 ·
  refine ow ?_;refine hcn (fun h2=>?_) (fun h2=>?_)
  ·
   have hq:¬ (dq n l m x).getD i default &&& p = 0:=qb h2;refine w_5 ?_;refine m9 0 ?_;refine r9 1 true ?_;refine w_6 ?_
   first | (refine ⟨i + 1, ?_, ?_, ?_⟩
            · show i + 1 <= _;omega
            · first | omega | (dsimp only;omega)
            exact ⟨⟨⟨_,rfl,(bg (xj bqi hq))⟩,⟨_,rfl,(CoR.refl _)⟩,tt⟩,⟨⟨_,rfl,(bh (xj bqi hq) (CoP.of_eq (congrArg (fun z=>PV.raw (.int .u32 z)) (fj _ _))))⟩,trivial⟩⟩)
         | (refine ⟨i + 1, ?_, ?_, ?_⟩
            · show i + 1 <= _;omega
            · first | omega | (dsimp only;omega)
            exact ⟨⟨⟨_,rfl,(bi (xu bqi hq))⟩,⟨_,rfl,(CoR.refl _)⟩,tt⟩,⟨⟨_,rfl,(b8 (xu bqi hq))⟩,trivial⟩⟩)
  have hq:(dq n l m x).getD i default &&& p = 0:=ve h2;refine w_5 ?_
  first | (refine ⟨i + 1, ?_, ?_, ?_⟩
           · show i + 1 <= _;omega
           · first | omega | (dsimp only;omega)
           exact ⟨⟨⟨_,rfl,(bg (xj bqi hq))⟩,⟨_,rfl,(CoR.refl _)⟩,tt⟩,⟨⟨_,rfl,(bh (xj bqi hq) (CoP.of_eq (congrArg (fun z=>PV.raw (.int .u32 z)) (fj _ _))))⟩,trivial⟩⟩)
        | (refine ⟨i + 1, ?_, ?_, ?_⟩
           · show i + 1 <= _;omega
           · first | omega | (dsimp only;omega)
           exact ⟨⟨⟨_,rfl,(bi (xu bqi hq))⟩,⟨_,rfl,(CoR.refl _)⟩,tt⟩,⟨⟨_,rfl,(b8 (xu bqi hq))⟩,trivial⟩⟩)
 obtain rfl:i = (dq n l m x).length:=by omega
 rw [show (dq n l m x).take (dq n l m x).length = (dq n l m x) from bmi];refine w_2 ?_;refine al 15 rfl rfl rfl ?_;refine w_2 ?_;refine qcx zi (a5s (n9 p (dq n l m x)) (a7v n l m x p)) ?_;refine v_3 ?_;exact ⟨CoC.one (CoP.of_eq (by rw [show b0j n l m x p = pg n l m x p from if_pos hz];rfl)),cci hz.symm,trivial⟩
def bdn {p:AS} (h:ck4 n l m (x ||| p) = 0):a6 br6 140 [pI n,pP (fdl l),pP (fdl m),pA x,pA p] (a8 [pP (asl (pg n l m x p)),pI 0]):=by
 have:=biq n l m x p;rw [h,show b0j n l m x p = pg n l m x p from if_pos h] at this;exact this
def bj9 (n:Int) (l m:List Fd) (p:AS):a6 br6 80 [pI n,pP (fdl l),pP (fdl m),pA p] (a8 [(a6c n l m p).1.pc,pB (a6c n l m p).2,pI (ck4 n l m p)]):=by
 refine hpx (nt:=72) Tryz.func80 ?_;refine sx7 ?_;refine m9 0 ?_;refine c5 ?_;refine qcx (wgx Tryz.func79) (art n l m p) ?_;refine w_7 ?_;refine hcn (fun h0=>?_) (fun h0=>?_)
 · refine v_8 ?_;exact by rw [bep bqj];exact ⟨CoC.agg ⟨CoP.of_eq rfl,CoP.of_eq rfl,trivial⟩,CoC.refl _,CoC.refl _,trivial⟩
 have hz:ck4 n l m p = 0:=h0;have hsl:=nu p;refine w_5 ?_;refine qcx a9e (b3u p) ?_;refine w_4 ?_;refine ae (ι:=Nat) (ka 0 (ka 1 (ka 2 (ka 3 (ka 8 (ka 27 (ka 28 kn))))))) (kb 0 km) (fun i=>⟨[(29,some (vI i))],[]⟩) (fun i=>i <= (aq p).length /\ ((aq p).take i).findSome? (a6a n l m p) = none) (fun i=>(aq p).length - i) (0) (⟨bmh _,rfl⟩) ⟨⟨⟨_,rfl,(CoR.refl _)⟩,trivial⟩,trivial⟩ ?_;rintro i ⟨hi,hI⟩;refine w_5 ?_;refine hcd (fun h1=>?_) (fun h1=>?_)
 ·
  have hil:i < (aq p).length:=by omega
  have hxs:sub ((aq p).getD i default) p:=ahy (a14 hil);have hX:ckB n l m ((aq p).getD i default) = 0:=afy (ao9 hz).2.2 hxs;have hXp:ck4 n l m (((aq p).getD i default) ||| p) = 0:=b7s hz (sm hxs (fh p));refine ml ?_;refine qcx (wgx Tryz.func139) (b2g hX) ?_;refine ak9 ?_;refine hcd (fun h2=>?_) (fun h2=>?_)
  · have hq:p &&& ~~~(qc n l m ((aq p).getD i default)) = 0:=atc h2;refine w_5 ?_;refine lpz (i + 1) ⟨⟨⟨_,rfl,(CoR.refl _)⟩,tt⟩,uu⟩ ?_;exact ⟨by omega,(jr hil hI).trans (by first | exact acx hq | exact aco hq hc)⟩
  have hq:¬ p &&& ~~~(qc n l m ((aq p).getD i default)) = 0:=ajs h2;refine w_8 ?_;refine qcx (wgx Tryz.func140) (bdn hXp) ?_;refine alb ?_;refine hcd (fun h3=>?_) (fun h3=>?_)
  ·
   have hc:1 < (pg n l m ((aq p).getD i default) p).length:=by omega
   have hcl:(pg n l m ((aq p).getD i default) p).length <= 8589934592:=bmo (jw _) (a7v n l m ((aq p).getD i default) p);refine cq ?_;refine hrr ?_
   have he:a6c n l m p = (⟨((aq p).getD i default),(pg n l m ((aq p).getD i default) p).getD 0 default⟩,true):=by
    rw [alk hz,show lu n l m p = some _ from tx hil hI (aw9 hq hc)];rfl
   exact f9 rfl rfl (by rw [he];exact ⟨CoC.agg ⟨CoP.refl _,CoP.refl _,trivial⟩,CoC.refl _,cci hz.symm,trivial⟩)
  have hc:¬ 1 < (pg n l m ((aq p).getD i default) p).length:=by omega
  refine w_5 ?_;refine lpz (i + 1) ⟨⟨⟨_,rfl,(CoR.refl _)⟩,tt⟩,uu⟩ ?_;exact ⟨by omega,(jr hil hI).trans (by first | exact acx hq | exact aco hq hc)⟩
 obtain rfl:i = (aq p).length:=by omega
 rw [show (aq p).take (aq p).length = (aq p) from bmi] at hI;refine w_8 ?_;refine hrr ?_
 have he:a6c n l m p = (⟨0,0⟩,false):=by
  rw [alk hz,show lu n l m p = none from hI];rfl
 exact f9 rfl rfl (by rw [he];exact ⟨CoC.agg ⟨CoP.of_eq rfl,CoP.of_eq rfl,trivial⟩,CoC.refl _,cci hz.symm,trivial⟩)
end
end
section
structure Mx where
 d:Dps
 m:List Dp
deriving Inhabited
def Mx.mv (x:Mx):List Fd:=x.m.map (Dp.fd x.d.num)
def Mx.c (x:Mx):Nat -> PV
 | 0=>x.d.c 0
 | 1=>x.d.c 1
 | 2=>dpl x.m
 | _=>.any
abbrev Mx.pc (x:Mx):PC:=.agg [x.c 0,x.c 1,x.c 2]
def Mx.ok (x:Mx):Bool:=decide (x.d.l.length <= 6) && decide (x.m.length <= 4)
def beo {a b:List AS} (hl:a.length = b.length) (h:∀ j,j < a.length -> a.getD j default = b.getD j default):a = b:=by
 apply List.ext_getElem hl;intro i h1 h2;have:=h i h1;rw [bmb,bmb,bma h1,bma h2] at this;simpa using this
def bly (n:Int) (l m:List Fd) (ps:List AS):Int:=if ck4 n l m 0 = 0 then lsC n ps l m else ck4 n l m 0
def bm4 (n:Int) (l m:List Fd) (ps:List AS):Bool:=if ck4 n l m 0 = 0 then (if lsC n ps l m = 0 then lsB n ps l m && ps.all (fun p=>!vBo (lu n l m) p) else false) else false
end
end Go.Hx

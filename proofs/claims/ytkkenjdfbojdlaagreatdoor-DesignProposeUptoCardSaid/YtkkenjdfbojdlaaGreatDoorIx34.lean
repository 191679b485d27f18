/- A part of the proof: Y1 Bz4 Y2. -/
import Derived.Test.YtkkenjdfbojdlaaGreatDoorIx14
import Derived.Test.YtkkenjdfbojdlaaGreatDoorIx19
import Derived.Test.YtkkenjdfbojdlaaGreatDoorIx20
import Derived.Test.YtkkenjdfbojdlaaGreatDoorIx22
import Derived.Test.YtkkenjdfbojdlaaGreatDoorIx32
import Derived.Test.YtkkenjdfbojdlaaGreatDoorIx33
set_option linter.all false
set_option maxRecDepth 100000
set_option maxHeartbeats 1000000
namespace Go.Hx
section
open Go.Proofs
def vj {a b:AS} (h:az .and .u32 (asI a) (asI b) = 0):a &&& b = 0:=c7.1 ((fv a b).symm.trans h)
def qt {a b:AS} (h:¬ az .and .u32 (asI a) (asI b) = 0):¬ a &&& b = 0:=fun e=>h ((fv a b).trans (congrArg asI e))
def at5 {a b:AS} (h:az .andNot .u32 (asI a) (asI b) = 0):a &&& ~~~b = 0:=c7.1 ((gl a b).symm.trans h)
def aop {a b:AS} (h:¬ az .andNot .u32 (asI a) (asI b) = 0):¬ a &&& ~~~b = 0:=fun e=>h ((gl a b).trans (congrArg asI e))
def a98 {m:Fd} {x:AS} (h:¬ x &&& m.lhs = 0):dw m x = false:=by unfold dw;rw [decide_eq_false h];rfl
def a8s {m:Fd} {x:AS} (h:x &&& m.rhs = 0):dw m x = false:=by simp [dw,h]
def alf (a b:AS):decide (az .and .u32 (asI a) (asI b) = 0) = decide (a &&& b = 0):=by
 by_cases h:az .and .u32 (asI a) (asI b) = 0
 · rw [decide_eq_true h,decide_eq_true (vj h)]
 rw [decide_eq_false h,decide_eq_false (qt h)]
def ber (a b:AS):decide (az .andNot .u32 (asI a) (asI b) = 0) = decide (a &&& ~~~b = 0):=by
 by_cases h:az .andNot .u32 (asI a) (asI b) = 0
 · rw [decide_eq_true h,decide_eq_true (at5 h)]
 rw [decide_eq_false h,decide_eq_false (aop h)]
def a9v (m:Fd) (x:AS):(bif (bif decide (az .and .u32 (asI x) (asI m.lhs) = 0) then !decide (az .and .u32 (asI x) (asI m.rhs) = 0) else false) then !decide (az .andNot .u32 (asI x) (asI m.rhs) = 0) else false) = dw m x:=by
 rw [alf,alf,ber];unfold dw;by_cases h1:x &&& m.lhs = 0 <;> by_cases h2:x &&& m.rhs = 0 <;> by_cases h3:x &&& ~~~m.rhs = 0 <;> simp only [h1,h2,h3,decide_true,decide_false,ne_eq,not_true_eq_false,not_false_eq_true,bpu,bqt,cond_true,cond_false,Bool.and_self,Bool.and_true,bov,bqv,Bool.false_and]
def xu {m:Fd} {l:List AS} {i:Nat} (c:Bool) (h:i < l.length) (hs:dw m (l.getD i default) = true):true = (c || (l.take (i + 1)).any (dw m)):=by
 rw [aq h,List.any_append];simp only [List.any_cons,List.any_nil,hs,Bool.or_true,Bool.or_false]
def a7q {m:Fd} {l:List AS} {i:Nat} (c:Bool) (h:i < l.length) (hs:dw m (l.getD i default) = false):(c || (l.take i).any (dw m)) = (c || (l.take (i + 1)).any (dw m)):=by
 rw [aq h,List.any_append];simp only [List.any_cons,List.any_nil,hs,Bool.or_true,Bool.or_false]
def atl (x:Nat × List AS × Bool):Nat:=x.1 + (bif x.2.2 then 1 else 0)
def b9u {f:Nat} {l l':List AS} {c:Bool} (h:0 < f):atl (f - 1,l',c) < atl (f,l,true):=by
 cases c <;> simp only [atl,cond_true,cond_false] <;> omega
def at0 (n:Int) (ms:List Fd) (x:AS) (h0:0 <= n) (h1:n <= 16):a6 brj 188 [pI n,pP (fdl ms),pA x] (a8 [pP (asl (ord (blks ms (a7 n &&& ~~~x))))]):=by
 refine hpx (nt:=76) Tryz.func188 ?_;refine ca 1 rfl fun hn=>?_;have hrest:az .andNot .u32 (IntKind.wrap .u32 (1 * 2 ^ (min n.toNat 32)) - 1) (asI x) = asI (a7 n &&& ~~~x):=by rw [sg h0 h1,gl]
 refine w_8 ?_;refine bw 7 900 true 1 46 (lf sC []) br2 rfl (CoP.sl rfl (.inr rfl) (fun h=>h) (fun i j hi _=>absurd hi (bmq i))) (.inr rfl) rfl ?_;refine kg (ka 1 kn) km ⟨[(7,some (.v (.one (.ref 900 (kw (a7 n &&& ~~~x)).length))))],[(900,some (.arr true 1 46 (kw (a7 n &&& ~~~x)).length (lf sC (kw (a7 n &&& ~~~x)))))]⟩ ?_ ?_
 ·
  refine w_4 ?_;refine rq rfl rfl rfl rfl rfl ?_ (hp:=⟨ww h0 h1,uf h0 h1⟩);refine w_9 ?_;refine hcn (fun h0=>?_) (fun h0=>?_)
  · have hne:¬ (a7 n &&& ~~~x) = 0:=fun e=>h0 (hrest.trans (congrArg asI e));refine w_3 ?_;refine m9 0 ?_;refine r9 1 true ?_;refine w_2 ?_;exact ⟨⟨⟨_,rfl,(by first | exact bf (a9e hne) | exact bj (a8u hz))⟩,tt⟩,⟨⟨_,rfl,(by first | exact bg (a9e hne) (CoP.of_eq (congrArg (fun z=>PV.raw (.int .u32 z)) hrest)) | exact bh (a8u hz))⟩,trivial⟩⟩
  have hz:(a7 n &&& ~~~x) = 0:=c7.1 (hrest.symm.trans h0);refine d6 ?_;exact ⟨⟨⟨_,rfl,(by first | exact bf (a9e hne) | exact bj (a8u hz))⟩,tt⟩,⟨⟨_,rfl,(by first | exact bg (a9e hne) (CoP.of_eq (congrArg (fun z=>PV.raw (.int .u32 z)) hrest)) | exact bh (a8u hz))⟩,trivial⟩⟩
 refine w_6 ?_;refine ae (ι:=(Nat × List AS × Bool)) (ka 1 kn) km (fun y=>⟨[(7,some (.v (.one (.ref 900 y.2.1.length)))),(9,some (vB y.2.2))],[(900,some (.arr true 1 46 y.2.1.length (lf sC y.2.1)))]⟩) (fun y=>BkI ms (blks ms (a7 n &&& ~~~x)) y) (fun y=>atl y) ((18446744073709551616,kw (a7 n &&& ~~~x),true)) (b37 ms (a7 n &&& ~~~x)) kk ?_;rintro ⟨f,l,ag⟩ hI;refine w_5 ?_;refine aj _ rfl (fun r1=>?_) (fun r1=>?_)
 ·
  have h1:=r1;obtain rfl:ag = true:=r1;obtain ⟨hI2,hf⟩:=bby hI;have hok:=hI.ok;refine jd ?_;refine b7 (ka 1 (ka 26 (ka 27 kn))) km (fun j=>⟨[(7,some (.v (.one (.ref 900 (ck (ms.take j) l).length)))),(9,some (vB (n8 (ms.take j) l))),(28,some (vI j))],[(900,some (.arr true 1 46 (ck (ms.take j) l).length (lf sC (ck (ms.take j) l))))]⟩) ms.length ⟨⟨zy,⟨_,rfl,(CoR.refl _)⟩,tt⟩,uu⟩ ?_;rintro j hj;have hokj:OkB (ck (ms.take j) l):=a8n hok;have hlj:=agk (ayf (m:=(ms.getD j default)) hokj);refine w_5 ?_;refine hcd (fun h2=>?_) (fun h2=>?_)
  ·
   refine w_7 ?_;refine m9 2 ?_;refine w_9 ?_;refine b2s 32 rfl rfl rfl ?_;refine ae (ι:=(Nat × Bool)) (ka 1 (ka 11 (ka 26 (ka 27 (ka 28 (ka 33 kn)))))) (kb 2 km) (fun y=>⟨[(7,some (.v (.one (.ref (bif y.2 then 900 else 951) (stB (ms.getD j default) (ck (ms.take j) l) y.1).length)))),(9,some (vB (n8 (ms.take j) l || ((ck (ms.take j) l).take y.1).any (dw (ms.getD j default))))),(34,some (vI y.1)),(32,some (bif y.2 then .v (.one (.win 900 (stB (ms.getD j default) (ck (ms.take j) l) y.1).length 0 (ck (ms.take j) l).length)) else bp (.sl (ck (ms.take j) l).length 1 false (a7h (ck (ms.take j) l) y.1))))],[(bif y.2 then 900 else 951,some (.arr true 1 46 (stB (ms.getD j default) (ck (ms.take j) l) y.1).length (lf sC (stB (ms.getD j default) (ck (ms.take j) l) y.1))))]⟩) (fun y=>y.1 <= (ck (ms.take j) l).length) (fun y=>(ck (ms.take j) l).length - y.1) ((0,true)) (bms _) ⟨⟨⟨_,rfl,(bj (aby _ _))⟩,⟨_,rfl,(cob br1)⟩,⟨_,rfl,(CoR.refl _)⟩,⟨_,rfl,(CoR.of_eq (by rw [aby];rfl))⟩,trivial⟩,⟨⟨_,rfl,(bh (aby _ _))⟩,trivial⟩⟩ ?_;rintro ⟨i,b⟩ hi;have hi:i <= (ck (ms.take j) l).length:=hi;have hsl:=bee (ms.getD j default) (ck (ms.take j) l) i;have hsl2:=asn (ms.getD j default) (ck (ms.take j) l) i
   rcases b with _ | _
   ·
    show HW _ _ _ ⟨_ :: _,_⟩ _;refine w_5 ?_;refine hcd (fun h3=>?_) (fun h3=>?_)
    ·
     have hil:i < (ck (ms.take j) l).length:=by omega
     refine w_7 ?_;refine rq (out:=⟨_, .v (.one (.p (asC ((ck (ms.take j) l).getD i default))))⟩) rfl rfl rfl (congrArg (fun z=>some (Out.mk _ (HR.v (HC.one (HV.p z))))) (b9n (ck (ms.take j) l) i)) rfl ?_;refine w_3 ?_;refine kg (ka 1 (ka 7 (ka 9 (ka 11 (ka 12 (ka 13 (ka 26 (ka 27 (ka 28 (ka 32 (ka 33 (ka 34 kn)))))))))))) (kb 2 km) ⟨[(57,some (vB (dw (ms.getD j default) ((ck (ms.take j) l).getD i default))))],[(951,some (.arr true 1 46 (stB (ms.getD j default) (ck (ms.take j) l) i).length (lf sC (stB (ms.getD j default) (ck (ms.take j) l) i))))]⟩ ?_ ?_
     ·
      refine w_7 ?_;refine ai rfl rfl (fun r4=>?_) (fun r4=>?_)
      ·
       have h4:=tz1 r4;have g1:((ck (ms.take j) l).getD i default) &&& (ms.getD j default).lhs = 0:=vj h4;(iterate 5 refine qy ?_ (hg:=(gtt r4)));refine w_2 ?_;refine ai rfl rfl (fun r5=>?_) (fun r5=>?_)
       ·
        have h5:=tz2 (cu (bt r4 r5));have g2:¬ ((ck (ms.take j) l).getD i default) &&& (ms.getD j default).rhs = 0:=qt h5;(iterate 5 refine qy ?_ (hg:=(gtt r5)));refine w_2 ?_
        exact ⟨⟨⟨_,rfl,(cob (by first | exact a9v _ _ | exact (a98 g1).symm | exact (a8s g2).symm))⟩,tt⟩,uu⟩
       have h5:=tz1 (ct (bt r4 r5));have g2:((ck (ms.take j) l).getD i default) &&& (ms.getD j default).rhs = 0:=vj h5;(iterate 5 refine k9 (gft r5) ?_);refine rq rfl rfl rfl rfl rfl ?_ (hp:=r5);refine c6 ?_
       exact ⟨⟨⟨_,rfl,(cob (by first | exact a9v _ _ | exact (a98 g1).symm | exact (a8s g2).symm))⟩,tt⟩,uu⟩
      have h4:=tz2 r4;have g1:¬ ((ck (ms.take j) l).getD i default) &&& (ms.getD j default).lhs = 0:=qt h4;(iterate 5 refine k9 (gft r4) ?_);refine rq rfl rfl rfl rfl rfl ?_ (hp:=r4);refine qy ?_;(iterate 5 refine k9 rfl ?_);refine w_2 ?_
      exact ⟨⟨⟨_,rfl,(cob (by first | exact a9v _ _ | exact (a98 g1).symm | exact (a8s g2).symm))⟩,tt⟩,uu⟩
     refine aj _ rfl (fun r6=>?_) (fun r6=>?_)
     ·
      have h6:=r6;have hs:dw (ms.getD j default) ((ck (ms.take j) l).getD i default) = true:=r6;have hl2:(stB (ms.getD j default) (ck (ms.take j) l) (i + 1)).length = (stB (ms.getD j default) (ck (ms.take j) l) i).length + 1:=by rw [ajn hil hs,bmo,bp0];rfl
      refine agx ?_;refine m9 3 ?_;refine r9 4 true ?_;refine w_9 ?_
      first | (refine ⟨(i + 1, false), ?_, ?_, ?_⟩
               · show i + 1 <= _;omega
               · first | omega | (dsimp only;omega)
               exact ⟨⟨⟨_,rfl,(CoR.of_eq (congrArg (fun z=>HR.v (.one (.ref 951 z))) hl2.symm))⟩,⟨_,rfl,(cob (xu _ hil hs))⟩,⟨_,rfl,(CoR.refl _)⟩,⟨_,rfl,(CoC.one (a8m rfl))⟩,tt⟩,⟨⟨_,rfl,(xh hil hs rfl (fv _ _) (CoP.of_eq (congrArg (fun z=>PV.raw (.int .u32 z)) (gl _ _))))⟩,uu⟩⟩)
            | (refine ⟨(i + 1,false), ?_, ?_, ?_⟩
               · show i + 1 <= _;omega
               · first | omega | (dsimp only;omega)
               exact ⟨⟨⟨_,rfl,(bj (pk hil hs))⟩,⟨_,rfl,(cob (a7q _ hil hs))⟩,⟨_,rfl,(CoR.refl _)⟩,⟨_,rfl,(CoC.one (a8m rfl))⟩,tt⟩,⟨⟨_,rfl,(bh (pk hil hs))⟩,uu⟩⟩)
     have h6:=r6;have hs:dw (ms.getD j default) ((ck (ms.take j) l).getD i default) = false:=r6;refine w_5 ?_
     first | (refine ⟨(i + 1, false), ?_, ?_, ?_⟩
              · show i + 1 <= _;omega
              · first | omega | (dsimp only;omega)
              exact ⟨⟨⟨_,rfl,(CoR.of_eq (congrArg (fun z=>HR.v (.one (.ref 951 z))) hl2.symm))⟩,⟨_,rfl,(cob (xu _ hil hs))⟩,⟨_,rfl,(CoR.refl _)⟩,⟨_,rfl,(CoC.one (a8m rfl))⟩,tt⟩,⟨⟨_,rfl,(xh hil hs rfl (fv _ _) (CoP.of_eq (congrArg (fun z=>PV.raw (.int .u32 z)) (gl _ _))))⟩,uu⟩⟩)
           | (refine ⟨(i + 1,false), ?_, ?_, ?_⟩
              · show i + 1 <= _;omega
              · first | omega | (dsimp only;omega)
              exact ⟨⟨⟨_,rfl,(bj (pk hil hs))⟩,⟨_,rfl,(cob (a7q _ hil hs))⟩,⟨_,rfl,(CoR.refl _)⟩,⟨_,rfl,(CoC.one (a8m rfl))⟩,tt⟩,⟨⟨_,rfl,(bh (pk hil hs))⟩,uu⟩⟩)
    obtain rfl:i = (ck (ms.take j) l).length:=by omega
    refine jz 7 900 rfl rfl rfl rfl ?_;refine w_5 ?_;exact lpx (j + 1) ⟨⟨⟨_,rfl,(bj (by rw [a4e bqx,a2q]))⟩,⟨_,rfl,(cob (by rw [ali bqx,bmt]))⟩,tt⟩,⟨⟨_,rfl,(bh (by rw [a4e bqx,a2q]))⟩,trivial⟩⟩
   show HW _ _ _ ⟨_ :: _,_⟩ _;refine w_5 ?_;refine hcd (fun h7=>?_) (fun h7=>?_)
   ·
    have hil:i < (ck (ms.take j) l).length:=by omega
    refine w_7 ?_;refine rq (out:=⟨_, .v (.one (.p (asC ((ck (ms.take j) l).getD i default))))⟩) rfl rfl rfl (congrArg (fun z=>some (Out.mk _ (HR.v (HC.one (HV.p z))))) ((show lf sC (stB (ms.getD j default) (ck (ms.take j) l) i) (0 + i) 0 = _ by rw [bnk];exact congrArg asC (b95 hil)))) rfl ?_;refine w_3 ?_;refine kg (ka 1 (ka 7 (ka 9 (ka 11 (ka 12 (ka 13 (ka 26 (ka 27 (ka 28 (ka 32 (ka 33 (ka 34 kn)))))))))))) (kb 2 km) ⟨[(57,some (vB (dw (ms.getD j default) ((ck (ms.take j) l).getD i default))))],[(900,some (.arr true 1 46 (stB (ms.getD j default) (ck (ms.take j) l) i).length (lf sC (stB (ms.getD j default) (ck (ms.take j) l) i))))]⟩ ?_ ?_
    ·
     refine w_7 ?_;refine ai rfl rfl (fun r8=>?_) (fun r8=>?_)
     ·
      have h8:=tz1 r8;have g1:((ck (ms.take j) l).getD i default) &&& (ms.getD j default).lhs = 0:=vj h8;(iterate 5 refine qy ?_ (hg:=(gtt r8)));refine w_2 ?_;refine ai rfl rfl (fun r9=>?_) (fun r9=>?_)
      ·
       have h9:=tz2 (cu (bt r8 r9));have g2:¬ ((ck (ms.take j) l).getD i default) &&& (ms.getD j default).rhs = 0:=qt h9;(iterate 5 refine qy ?_ (hg:=(gtt r9)));refine w_2 ?_
       exact ⟨⟨⟨_,rfl,(cob (by first | exact a9v _ _ | exact (a98 g1).symm | exact (a8s g2).symm))⟩,tt⟩,uu⟩
      have h9:=tz1 (ct (bt r8 r9));have g2:((ck (ms.take j) l).getD i default) &&& (ms.getD j default).rhs = 0:=vj h9;(iterate 5 refine k9 (gft r9) ?_);refine rq rfl rfl rfl rfl rfl ?_ (hp:=r9);refine c6 ?_
      exact ⟨⟨⟨_,rfl,(cob (by first | exact a9v _ _ | exact (a98 g1).symm | exact (a8s g2).symm))⟩,tt⟩,uu⟩
     have h8:=tz2 r8;have g1:¬ ((ck (ms.take j) l).getD i default) &&& (ms.getD j default).lhs = 0:=qt h8;(iterate 5 refine k9 (gft r8) ?_);refine rq rfl rfl rfl rfl rfl ?_ (hp:=r8);refine qy ?_;(iterate 5 refine k9 rfl ?_);refine w_2 ?_
     exact ⟨⟨⟨_,rfl,(cob (by first | exact a9v _ _ | exact (a98 g1).symm | exact (a8s g2).symm))⟩,tt⟩,uu⟩
    refine aj _ rfl (fun r10=>?_) (fun r10=>?_)
    ·
     have h10:=r10;have hs:dw (ms.getD j default) ((ck (ms.take j) l).getD i default) = true:=r10;have hl2:(stB (ms.getD j default) (ck (ms.take j) l) (i + 1)).length = (stB (ms.getD j default) (ck (ms.take j) l) i).length + 1:=by rw [ajn hil hs,bmo,bp0];rfl
     refine en ?_;refine b6z 7 32 rfl rfl rfl rfl rfl rfl (fun ad cap hcap=>?_) ?_
     ·
      refine w_6 ?_;refine m9 5 ?_;refine r9 6 true ?_;refine w_2 ?_;refine b1c 7 32 rfl rfl rfl rfl (by dsimp only at *;omega) rfl ?_;refine w_7 ?_
      first | (refine ⟨(i + 1, true), ?_, ?_, ?_⟩
               · show i + 1 <= _;omega
               · first | omega | (dsimp only;omega)
               exact ⟨⟨⟨_,rfl,(CoR.of_eq (congrArg (fun z=>HR.v (.one (.ref 900 z))) hl2.symm))⟩,⟨_,rfl,(cob (xu _ hil hs))⟩,⟨_,rfl,(CoR.refl _)⟩,⟨_,rfl,(CoR.of_eq (congrArg (fun z=>HR.v (.one (.win 900 z 0 _))) hl2.symm))⟩,tt⟩,⟨⟨_,rfl,(xh hil hs rfl (fv _ _) (CoP.of_eq (congrArg (fun z=>PV.raw (.int .u32 z)) (gl _ _))))⟩,uu⟩⟩)
            | (refine ⟨(i + 1,false), ?_, ?_, ?_⟩
               · show i + 1 <= _;omega
               · first | omega | (dsimp only;omega)
               exact ⟨⟨⟨_,rfl,(CoR.of_eq (congrArg (fun z=>HR.v (.one (.ref 951 z))) hl2.symm))⟩,⟨_,rfl,(cob (xu _ hil hs))⟩,⟨_,rfl,(CoR.refl _)⟩,⟨_,rfl,(CoC.one (an6 hil))⟩,tt⟩,⟨⟨_,rfl,(xh hil hs rfl (fv _ _) (CoP.of_eq (congrArg (fun z=>PV.raw (.int .u32 z)) (gl _ _))))⟩,uu⟩⟩)
            | (refine ⟨(i + 1,true), ?_, ?_, ?_⟩
               · show i + 1 <= _;omega
               · first | omega | (dsimp only;omega)
               exact ⟨⟨⟨_,rfl,(bj (pk hil hs))⟩,⟨_,rfl,(cob (a7q _ hil hs))⟩,⟨_,rfl,(CoR.refl _)⟩,⟨_,rfl,(CoR.of_eq (congrArg (fun z=>HR.v (.one (.win 900 z 0 _))) (congrArg List.length (pk hil hs)).symm))⟩,tt⟩,⟨⟨_,rfl,(bh (pk hil hs))⟩,uu⟩⟩)
     refine w_6 ?_;refine m9 950 ?_;refine r9 951 true ?_;refine w_9 ?_
     first | (refine ⟨(i + 1, true), ?_, ?_, ?_⟩
              · show i + 1 <= _;omega
              · first | omega | (dsimp only;omega)
              exact ⟨⟨⟨_,rfl,(CoR.of_eq (congrArg (fun z=>HR.v (.one (.ref 900 z))) hl2.symm))⟩,⟨_,rfl,(cob (xu _ hil hs))⟩,⟨_,rfl,(CoR.refl _)⟩,⟨_,rfl,(CoR.of_eq (congrArg (fun z=>HR.v (.one (.win 900 z 0 _))) hl2.symm))⟩,tt⟩,⟨⟨_,rfl,(xh hil hs rfl (fv _ _) (CoP.of_eq (congrArg (fun z=>PV.raw (.int .u32 z)) (gl _ _))))⟩,uu⟩⟩)
           | (refine ⟨(i + 1,false), ?_, ?_, ?_⟩
              · show i + 1 <= _;omega
              · first | omega | (dsimp only;omega)
              exact ⟨⟨⟨_,rfl,(CoR.of_eq (congrArg (fun z=>HR.v (.one (.ref 951 z))) hl2.symm))⟩,⟨_,rfl,(cob (xu _ hil hs))⟩,⟨_,rfl,(CoR.refl _)⟩,⟨_,rfl,(CoC.one (an6 hil))⟩,tt⟩,⟨⟨_,rfl,(xh hil hs rfl (fv _ _) (CoP.of_eq (congrArg (fun z=>PV.raw (.int .u32 z)) (gl _ _))))⟩,uu⟩⟩)
           | (refine ⟨(i + 1,true), ?_, ?_, ?_⟩
              · show i + 1 <= _;omega
              · first | omega | (dsimp only;omega)
              exact ⟨⟨⟨_,rfl,(bj (pk hil hs))⟩,⟨_,rfl,(cob (a7q _ hil hs))⟩,⟨_,rfl,(CoR.refl _)⟩,⟨_,rfl,(CoR.of_eq (congrArg (fun z=>HR.v (.one (.win 900 z 0 _))) (congrArg List.length (pk hil hs)).symm))⟩,tt⟩,⟨⟨_,rfl,(bh (pk hil hs))⟩,uu⟩⟩)
    have h10:=r10;have hs:dw (ms.getD j default) ((ck (ms.take j) l).getD i default) = false:=r10;refine w_5 ?_
    first | (refine ⟨(i + 1, true), ?_, ?_, ?_⟩
             · show i + 1 <= _;omega
             · first | omega | (dsimp only;omega)
             exact ⟨⟨⟨_,rfl,(CoR.of_eq (congrArg (fun z=>HR.v (.one (.ref 900 z))) hl2.symm))⟩,⟨_,rfl,(cob (xu _ hil hs))⟩,⟨_,rfl,(CoR.refl _)⟩,⟨_,rfl,(CoR.of_eq (congrArg (fun z=>HR.v (.one (.win 900 z 0 _))) hl2.symm))⟩,tt⟩,⟨⟨_,rfl,(xh hil hs rfl (fv _ _) (CoP.of_eq (congrArg (fun z=>PV.raw (.int .u32 z)) (gl _ _))))⟩,uu⟩⟩)
          | (refine ⟨(i + 1,false), ?_, ?_, ?_⟩
             · show i + 1 <= _;omega
             · first | omega | (dsimp only;omega)
             exact ⟨⟨⟨_,rfl,(CoR.of_eq (congrArg (fun z=>HR.v (.one (.ref 951 z))) hl2.symm))⟩,⟨_,rfl,(cob (xu _ hil hs))⟩,⟨_,rfl,(CoR.refl _)⟩,⟨_,rfl,(CoC.one (an6 hil))⟩,tt⟩,⟨⟨_,rfl,(xh hil hs rfl (fv _ _) (CoP.of_eq (congrArg (fun z=>PV.raw (.int .u32 z)) (gl _ _))))⟩,uu⟩⟩)
          | (refine ⟨(i + 1,true), ?_, ?_, ?_⟩
             · show i + 1 <= _;omega
             · first | omega | (dsimp only;omega)
             exact ⟨⟨⟨_,rfl,(bj (pk hil hs))⟩,⟨_,rfl,(cob (a7q _ hil hs))⟩,⟨_,rfl,(CoR.refl _)⟩,⟨_,rfl,(CoR.of_eq (congrArg (fun z=>HR.v (.one (.win 900 z 0 _))) (congrArg List.length (pk hil hs)).symm))⟩,tt⟩,⟨⟨_,rfl,(bh (pk hil hs))⟩,uu⟩⟩)
   obtain rfl:i = (ck (ms.take j) l).length:=by omega
   refine w_5 ?_;exact lpx (j + 1) ⟨⟨⟨_,rfl,(bj (by rw [a4e bqx,a2q]))⟩,⟨_,rfl,(cob (by rw [ali bqx,bmt]))⟩,tt⟩,⟨⟨_,rfl,(bh (by rw [a4e bqx,a2q]))⟩,trivial⟩⟩
  obtain rfl:j = ms.length:=by omega
  rw [show ms.take ms.length = ms from bmt];refine dj ?_;refine ⟨(f - 1,ck ms l,n8 ms l), ?_, ?_, ?_⟩
  · exact hI2
  · exact b9u hf
  exact kk
 have h1:=r1;obtain rfl:ag = false:=r1;have hl:l = (blks ms (a7 n &&& ~~~x)):=hI.f rfl;subst hl;refine w_2 ?_;refine al 7 rfl rfl rfl ?_;refine w_2 ?_;refine qcx zk (a7k (blks ms (a7 n &&& ~~~x)) (bmy (agk hI.ok) br2)) ?_;refine v_2 ?_;exact CoL.refl _
end
section
def b7v {f:Fd} {k:Nat} (h:k < (ak f.rhs).length):(sgl f).getD k default = ⟨f.lhs,jx ((ak f.rhs).getD k default)⟩:=by
 unfold sgl;simp [bmm,bml h]
def aex (f:Fd):(sgl f).length = (ak f.rhs).length:=by unfold sgl;rw [bn6]
def as9 {fs ms:List Fd} {i k:Nat} (h:k < (ak (fs.getD i default).rhs).length):me fs ms i (k + 1) = me fs ms i k ++ [⟨(fs.getD i default).lhs,jx ((ak (fs.getD i default).rhs).getD k default)⟩]:=by
 rw [axi (by rw [aex];exact h),b7v h]
def ar7 {fs ms:List Fd} {i:Nat} (h:i < fs.length):me fs ms (i + 1) 0 = me fs ms i (ak (fs.getD i default).rhs).length:=by rw [ax0 h,aex]
def b94 {a b:AS} {k:Nat} (h:sub a b) (hb:b >>> k = 0):a >>> k = 0:=by
 apply lc;intro i hi;have:=congrArg (fun z:AS=>z.getLsbD i) hb;simp only [bph] at this ⊢
 cases ha:a.getLsbD (k + i) with
 | false=>simp
 | true=>rw [ap.1 h _ (a0d ha) ha] at this;simp at this
def a0i (b:AS) (f:Fd):Bool:=!decide ((f.rhs &&& ~~~f.lhs) &&& b = 0)
def w7 (l:List Fd) (o b:AS):AS:=if bsz b = 1 then (if l.any (a0i b) = true then o ||| b else o) else o
def ux (l:List Fd) (o:AS) (bs:List AS):AS:=bs.foldl (w7 l) o
def a6o {l:List Fd} {o:AS} {bs:List AS} {i:Nat} (h:i < bs.length):ux l o (bs.take (i + 1)) = w7 l (ux l o (bs.take i)) (bs.getD i default):=by
 unfold ux;rw [aq h,bo0];rfl
section
variable {l:List Fd} {o:AS} {bs:List AS} {i:Nat}
def ako (h:i < bs.length) (hq:¬ bsz (bs.getD i default) = 1):ux l o (bs.take i) = ux l o (bs.take (i + 1)):=by rw [a6o h,w7,if_neg hq]
def ald (h:i < bs.length) (hq:bsz (bs.getD i default) = 1) (ha:l.any (a0i (bs.getD i default)) = false):ux l o (bs.take i) = ux l o (bs.take (i + 1)):=by rw [a6o h,w7,if_pos hq,if_neg (by rw [ha];decide)]
def alc (h:i < bs.length) (hq:bsz (bs.getD i default) = 1) (ha:l.any (a0i (bs.getD i default)) = true):ux l o (bs.take i) ||| bs.getD i default = ux l o (bs.take (i + 1)):=by rw [a6o h,w7,if_pos hq,if_pos ha]
end
def dc (n:Int) (l m:List Fd) (x:AS):List AS:=ord (blks (jr l m) (a7 n &&& ~~~x))
def b0p (n:Int) (l m:List Fd) (x:AS):List AS:=if ckB n l m x = 0 then dc n l m x else []
def qa (n:Int) (l m:List Fd) (x:AS):AS:=ux l x (dc n l m x)
def at8 (n:Int) (l m:List Fd) (x:AS):AS:=if ckB n l m x = 0 then qa n l m x else 0
def b0t (ms:List Fd) (rest:AS):OkB (blks ms rest):=by
 have:∀ (f:Nat) (l:List AS),OkB l -> OkB (yc ms f l):=by
  intro f
  induction f with
  | zero=>intro l h;exact h
  | succ f ih =>
   intro l h;unfold yc;split
   · exact ih _ (a8n h)
   exact a8n h
 exact this _ _ (aiu rest)
def a51 (n:Int) (l m:List Fd) (x:AS):(dc n l m x).length <= 4294967296:=bmy (ke _) (agk (b0t _ _))
def mb (p:AS) (bs:List AS):List AS:=(bs.filter fun b=>!decide (b &&& p = 0)).map fun b=>b &&& p
section
variable {i:Nat} {p:AS}
def xv {bs:List AS} (h:i < bs.length) (hq:¬ bs.getD i default &&& p = 0):mb p (bs.take (i + 1)) = mb p (bs.take i) ++ [bs.getD i default &&& p]:=by
 unfold mb;rw [aq h,bnv,bou,bns,if_pos (by rw [decide_eq_false hq];rfl)];rfl
def xt {bs:List AS} (h:i < bs.length) (hq:bs.getD i default &&& p = 0):mb p (bs.take (i + 1)) = mb p (bs.take i):=by
 unfold mb;rw [aq h,bnv,bou,bns,if_neg (by rw [decide_eq_true hq];decide)];simp
def abs (p:AS) (bs:List AS):(mb p bs).length <= bs.length:=by
 unfold mb;rw [bn6];exact boj _ _
def jh (n:Int) (l m:List Fd) (x p:AS):List AS:=ord (mb p (dc n l m x))
def a8a (n:Int) (l m:List Fd) (x p:AS):(mb p (dc n l m x)).length <= 8589934592:=bmy (abs _ _) (bmy (a51 _ _ _ _) br2)
def ck4 (n:Int) (l m:List Fd) (s:AS):Int:=if n < 0 \/ 8 < n then 7 else ckB n l m s
variable {l m:List Fd} {n:Int} {s:AS}
def b4f (h:n < 0 \/ 8 < n):ck4 n l m s = 7:=if_pos h
def a5o (h:¬ (n < 0 \/ 8 < n)):ck4 n l m s = ckB n l m s:=if_neg h
def a68 (h:ck4 n l m s = 0):0 <= n /\ n <= 8 /\ ckB n l m s = 0:=by
 unfold ck4 at h;split at h
 · cases h
 exact ⟨by omega,by omega,h⟩
def afx {t:AS} (h:ckB n l m s = 0) (ht:sub t s):ckB n l m t = 0:=ae9 (a67 h).1 (b94 ht (a67 h).2)
def ah3 {t:AS} (h:ck4 n l m s = 0) (ht:sub t s):ck4 n l m t = 0:=by
 obtain ⟨h1,h2,h3⟩:=a68 h;rw [a5o bqx];exact afx h3 ht
def b0n (n:Int) (l m:List Fd) (x p:AS):List AS:=if ck4 n l m (x ||| p) = 0 then jh n l m x p else []
def a47 (n:Int) (l m:List Fd) (p x:AS):Option Fd:=if p &&& ~~~(qa n l m x) = 0 then none else if 1 < (jh n l m x p).length then some ⟨x,(jh n l m x p).getD 0 default⟩ else none
def ce (n:Int) (l m:List Fd) (p:AS):Option Fd:=(ax p).findSome? (a47 n l m p)
def afr:Option Fd -> Fd × Bool
 | some v=>(v,true)
 | none=>(⟨0,0⟩,false)
def a6h (n:Int) (l m:List Fd) (p:AS):Fd × Bool:=if ck4 n l m p = 0 then afr (ce n l m p) else (⟨0,0⟩,false)
def bgw (h:¬ ck4 n l m p = 0):a6h n l m p = (⟨0,0⟩,false):=if_neg h
def acz (h:ck4 n l m p = 0):a6h n l m p = afr (ce n l m p):=if_pos h
def jv {α β:Type} [Inhabited α] {f:α -> Option β} {l:List α} (h:i < l.length) (hn:(l.take i).findSome? f = none):(l.take (i + 1)).findSome? f = f (l.getD i default):=by
 rw [aq h,bqw,hn];simp only [List.findSome?_cons,List.findSome?_nil,Option.none_or];cases f (l.getD i default) <;> rfl
def ua {α β:Type} [Inhabited α] {f:α -> Option β} {l:List α} {v:β} (h:i < l.length) (hn:(l.take i).findSome? f = none) (hv:f (l.getD i default) = some v):l.findSome? f = some v:=by
 have h1:=jv h hn;rw [hv] at h1;rw [<- bq2 (i + 1) l,bqw,h1];rfl
def a6m {z:AS} (h:z ∈ ax s):sub z s:=by
 unfold ax at h;split at h
 · cases h
 exact a1e.1 h
def qe {α:Type} [Inhabited α] {l:List α} (h:i < l.length):l.getD i default ∈ l:=by
 rw [bmm,bml h];exact bnb h
def an4 {x c:AS}:c ∈ jh n l m x p <-> ∃ b ∈ blks (jr l m) (a7 n &&& ~~~x),b &&& p ≠ 0 /\ c = b &&& p:=by
 unfold jh mb dc;rw [jb,bne];constructor
 · rintro ⟨b,hb,rfl⟩
   rw [bol,jb] at hb;exact ⟨b,hb.1,by simpa using hb.2,rfl⟩
 rintro ⟨b,hb,h,rfl⟩;exact ⟨b,bol.2 ⟨jb.2 hb,by simpa using h⟩,rfl⟩
def a1q (V:AS -> Option Fd):Prop:=∀ p v,V p = some v -> sub (v.lhs ||| v.rhs) p /\ v.lhs ||| v.rhs ≠ p /\ p &&& ~~~v.rhs ≠ p
def ln (n:Int) (l m:List Fd):a1q (ce n l m):=by
 intro p v h;unfold ce at h;obtain ⟨x,hx,hv⟩:=bpm h;have hxp:=a6m hx;unfold a47 at hv;split at hv
 · cases hv
 split at hv
 · rename_i hlen
   cases hv;have hbk:=(a9j (jr l m) (a7 n &&& ~~~x)).1;have m0:=qe (l:=jh n l m x p) (i:=0) bqx;have m1:=qe (l:=jh n l m x p) (i:=1) hlen;have hnd:=um (mb p (dc n l m x))
   have hne:(jh n l m x p).getD 0 default ≠ (jh n l m x p).getD 1 default:=by
    intro e;rw [bmm,bmm,bml (show 0 < (jh n l m x p).length by omega),bml hlen,bnf,bnf] at e;have:=(List.getElem_inj (xs:=jh n l m x p) hnd).1 e;omega
   generalize (jh n l m x p).getD 0 default = c0 at *;generalize (jh n l m x p).getD 1 default = c1 at *;obtain ⟨b0,hb0,hz0,rfl⟩:=an4.1 m0;obtain ⟨b1,hb1,hz1,rfl⟩:=an4.1 m1;dsimp only;refine ⟨vc hxp a1m,fun e=>?_,fun e=>?_⟩
   · obtain ⟨a,ha,h1,h2⟩:=a0o hz1
     have h3:=congrArg (fun z:AS=>z.getLsbD a) e;simp only [bo9,bn4,h2,Bool.and_true] at h3;have hr:=ap.1 (hbk.sub hb1) a ha h1;rw [cw ha,bmw] at hr;have hxa:x.getLsbD a = false:=by simpa using hr.2
     rw [hxa,bqi] at h3;exact hne (by rw [hbk.one hb0 hb1 h3 h1])
   obtain ⟨a,ha,h1,h2⟩:=a0o hz0;have h3:=congrArg (fun z:AS=>z.getLsbD a) e;simp only [cw ha,bn4,h1,h2] at h3;simp at h3
 cases hv
end
section
variable {V:AS -> Option Fd}
def vF (V:AS -> Option Fd) (s:AS):Fd:=(afr (V s)).1
def vBo (V:AS -> Option Fd) (s:AS):Bool:=(afr (V s)).2
def nv (V:AS -> Option Fd) (s:AS):AS:=(vF V s).lhs ||| (vF V s).rhs
def lu (V:AS -> Option Fd) (s:AS):AS:=s &&& ~~~(vF V s).rhs
def ab1 {s:AS} (h:vBo V s = true):V s = some (vF V s):=by
 unfold vBo at h;unfold vF
 cases hv:V s with
 | none=>rw [hv] at h;cases h
 | some v=>rfl
def a0v (V:AS -> Option Fd):Nat -> List AS -> List AS -> List AS
 | 0,_,out=>out
 | n + 1,todo,out =>
  if todo.length = 0 then out
  else if vBo V (todo.getD (todo.length - 1) default) = true then a0v V n (todo.take (todo.length - 1) ++ [nv V (todo.getD (todo.length - 1) default),lu V (todo.getD (todo.length - 1) default)]) out
  else a0v V n (todo.take (todo.length - 1)) (out ++ [todo.getD (todo.length - 1) default])
def a89 (V:AS -> Option Fd) (p0:AS) (x:Nat × List AS × List AS):Prop:=a0v V x.1 x.2.1 x.2.2 = a0v V 6562 [p0] [] /\ i6 x.2.1 < x.1 /\ x.2.2.length + x.1 <= 6562
def air {n:Int} (h8:n <= 8):a89 V (a7 n) (6562,[a7 n],[]):=by
 refine ⟨rfl, ?_,bmp _⟩;show 3 ^ bsz (a7 n) + 0 < 6562;have h1:=ta (n:=n) (m:=8) h8 bqx;have h2:3 ^ bsz (a7 n) <= 3 ^ 8:=bo2 bqx h1;have h3:3 ^ 8 = 6561:=rfl;omega
section
variable {p0:AS} {x:Nat × List AS × List AS}
def a4t (h:a89 V p0 x):x.2.1.length < 6562 /\ x.2.2.length <= 6562 /\ 0 < x.1:=by
 have:=abk x.2.1;obtain ⟨h1,h2,h3⟩:=h;omega
def b16 (h:a89 V p0 x) (h0:x.2.1.length = 0):x.2.2 = a0v V 6562 [p0] []:=by
 have hp:=(a4t h).2.2;obtain ⟨h1,h2,h3⟩:=h;obtain ⟨m,hm⟩:∃ m,x.1 = m + 1:=⟨x.1 - 1,by omega⟩;rw [hm] at h1;unfold a0v at h1;rw [if_pos h0] at h1;exact h1
def ue (hV:a1q V) {s:AS} (h:vBo V s = true):bsz (nv V s) < bsz s /\ bsz (lu V s) < bsz s:=by
 obtain ⟨h1,h2,h3⟩:=hV s _ (ab1 h);exact ⟨ij h1 h2,ij ml h3⟩
def axh (hV:a1q V) (h:a89 V p0 x) (h0:0 < x.2.1.length) (hv:vBo V (x.2.1.getD (x.2.1.length - 1) default) = true):
 a89 V p0 (x.1 - 1,x.2.1.take (x.2.1.length - 1) ++ [nv V (x.2.1.getD (x.2.1.length - 1) default),lu V (x.2.1.getD (x.2.1.length - 1) default)],x.2.2):=by
 have hp:=(a4t h).2.2;obtain ⟨h1,h2,h3⟩:=h;obtain ⟨m,hm⟩:∃ m,x.1 = m + 1:=⟨x.1 - 1,by omega⟩;rw [hm] at h1;unfold a0v at h1;rw [if_neg bqx,if_pos hv] at h1;refine ⟨by rw [hm];exact h1, ?_,by dsimp only;omega⟩;have e:=mz (x.2.1.take (x.2.1.length - 1)) [x.2.1.getD (x.2.1.length - 1) default];rw [<- up h0] at e;have e1:i6 [x.2.1.getD (x.2.1.length - 1) default] = 3 ^ bsz (x.2.1.getD (x.2.1.length - 1) default):=by simp [i6]
 generalize x.2.1.getD (x.2.1.length - 1) default = s at *;dsimp only;rw [mz];have e2:i6 [nv V s,lu V s] = 3 ^ bsz (nv V s) + 3 ^ bsz (lu V s):=by simp [i6]
 obtain ⟨g1,g2⟩:=ue hV hv;obtain ⟨b,hb⟩:∃ b,bsz s = b + 1:=⟨bsz s - 1,by omega⟩;have p1:3 ^ bsz (nv V s) <= 3 ^ b:=bo2 bqx bqx;have p2:3 ^ bsz (lu V s) <= 3 ^ b:=bo2 bqx bqx;have p3:3 ^ bsz s = 3 ^ b * 3:=by rw [hb,bqe]
 have p4:0 < 3 ^ b:=bpg bqx;omega
def ayu (h:a89 V p0 x) (h0:0 < x.2.1.length) (hv:vBo V (x.2.1.getD (x.2.1.length - 1) default) = false):
 a89 V p0 (x.1 - 1,x.2.1.take (x.2.1.length - 1),x.2.2 ++ [x.2.1.getD (x.2.1.length - 1) default]):=by
 have hp:=(a4t h).2.2;obtain ⟨h1,h2,h3⟩:=h;obtain ⟨m,hm⟩:∃ m,x.1 = m + 1:=⟨x.1 - 1,by omega⟩;rw [hm] at h1;unfold a0v at h1;rw [if_neg bqx,if_neg (by rw [hv];decide)] at h1;refine ⟨by rw [hm];exact h1, ?_,by dsimp only;rw [bmo,bo3];omega⟩;have e:=mz (x.2.1.take (x.2.1.length - 1)) [x.2.1.getD (x.2.1.length - 1) default];rw [<- up h0] at e;have e1:i6 [x.2.1.getD (x.2.1.length - 1) default] = 3 ^ bsz (x.2.1.getD (x.2.1.length - 1) default):=by simp [i6]
 have p4:0 < 3 ^ bsz (x.2.1.getD (x.2.1.length - 1) default):=bpg bqx;dsimp only;omega
def lvG (V:AS -> Option Fd):Nat -> AS -> List AS
 | 0,s=>[s]
 | n + 1,s=>if vBo V s = true then lvG V n (nv V s) ++ lvG V n (lu V s) else [s]
def a0x (hV:a1q V):∀ (a b:Nat) (s:AS),bsz s < a -> bsz s < b -> lvG V a s = lvG V b s
 | 0,_,_,h,_=>absurd h (bmq _)
 | _,0,_,_,h=>absurd h (bmq _)
 | a + 1,b + 1,s,ha,hb=>by
  unfold lvG;split
  · rename_i hv
    obtain ⟨g1,g2⟩:=ue hV hv;rw [a0x hV a b _ bqx bqx,a0x hV a b _ bqx bqx]
  rfl
def bi5 (hV:a1q V) {s:AS} (h:vBo V s = true):lvG V 33 s = lvG V 33 (nv V s) ++ lvG V 33 (lu V s):=by
 have h1:lvG V 33 s = lvG V 32 (nv V s) ++ lvG V 32 (lu V s):=by
  show (if vBo V s = true then _ else _) = _;rw [if_pos h]
 obtain ⟨g1,g2⟩:=ue hV h;have:=aec s;rw [h1,a0x hV 32 33 _ bqx bqx,a0x hV 32 33 _ bqx bqx]
def bjf {s:AS} (h:vBo V s = false):lvG V 33 s = [s]:=by
 show (if vBo V s = true then _ else _) = _;rw [if_neg (by rw [h];decide)]
def ac5 (hV:a1q V):∀ (f:Nat) (todo out:List AS),i6 todo < f -> ∀ z,z ∈ a0v V f todo out <-> z ∈ out \/ ∃ s ∈ todo,z ∈ lvG V 33 s
 | 0,_,_,h,_=>absurd h (bmq _)
 | f + 1,todo,out,hm,z=>by
  unfold a0v;by_cases h0:todo.length = 0
  · rw [if_pos h0]
    obtain rfl:=bqh.1 h0;simp
  rw [if_neg h0];have htl:=up (todo:=todo) bqx;have e:=mz (todo.take (todo.length - 1)) [todo.getD (todo.length - 1) default];rw [<- htl] at e;have e1:i6 [todo.getD (todo.length - 1) default] = 3 ^ bsz (todo.getD (todo.length - 1) default):=by simp [i6]
  generalize hs:todo.getD (todo.length - 1) default = s at *;generalize todo.take (todo.length - 1) = t at *
  have hmem:∀ P:AS -> Prop,(∃ q ∈ todo,P q) <-> (∃ q ∈ t,P q) \/ P s:=fun P=>by
   rw [htl];simp only [bn1,bn2];constructor
   · rintro ⟨q,h | rfl,hp⟩
     · exact .inl ⟨q,h,hp⟩
     exact .inr hp
   rintro (⟨q,h,hp⟩ | hp)
   · exact ⟨q, .inl h,hp⟩
   exact ⟨s, .inr rfl,hp⟩
  have p4:0 < 3 ^ bsz s:=bpg bqx;cases hv:vBo V s
  · simp only [bo1,if_false]
    rw [ac5 hV f t _ bqx z,hmem,bjf hv];simp only [bn1,bn2];constructor
    · rintro ((h | h) | h)
      · exact .inl h
      · exact .inr (.inr h)
      exact .inr (.inl h)
    rintro (h | h | h)
    · exact .inl (.inl h)
    · exact .inr h
    exact .inl (.inr h)
  simp only [if_true];obtain ⟨g1,g2⟩:=ue hV hv;have e2:i6 [nv V s,lu V s] = 3 ^ bsz (nv V s) + 3 ^ bsz (lu V s):=by simp [i6]
  obtain ⟨b,hb⟩:∃ b,bsz s = b + 1:=⟨bsz s - 1,by omega⟩;have p1:3 ^ bsz (nv V s) <= 3 ^ b:=bo2 bqx bqx;have p2:3 ^ bsz (lu V s) <= 3 ^ b:=bo2 bqx bqx;have p3:3 ^ bsz s = 3 ^ b * 3:=by rw [hb,bqe]
  have p5:0 < 3 ^ b:=bpg bqx;rw [ac5 hV f _ out (by rw [mz,e2];omega) z,hmem,bi5 hV hv];simp only [bn1,bn0,List.not_mem_nil,or_false];constructor
  · rintro (h | ⟨q,h | rfl | rfl,hq⟩)
    · exact .inl h
    · exact .inr (.inl ⟨q,h,hq⟩)
    · exact .inr (.inr (.inl hq))
    exact .inr (.inr (.inr hq))
  rintro (h | ⟨q,h,hq⟩ | h | h)
  · exact .inl h
  · exact .inr ⟨q, .inl h,hq⟩
  · exact .inr ⟨_, .inr (.inl rfl),h⟩
  exact .inr ⟨_, .inr (.inr rfl),h⟩
def ag0 (hV:a1q V):∀ (f:Nat) (s:AS),(lvG V f s).length <= 2 ^ f
 | 0,s=>by simp [lvG]
 | f + 1,s=>by
  unfold lvG;split
  · have h1:=ag0 hV f (nv V s)
    have h2:=ag0 hV f (lu V s);rw [bmo,bqe];omega
  have:0 < 2 ^ (f + 1):=bpg bqx;simp only [bo3];omega
end
end
def ac8 (n:Int) (l m:List Fd):List AS:=a0v (ce n l m) 6562 [a7 n] []
def af0 (n:Int) (l m:List Fd):List AS:=if ck4 n l m 0 = 0 then ek (ac8 n l m) else []
def ayn {n:Int} {l m:List Fd} (h:ck4 n l m 0 = 0):af0 n l m = ek (ac8 n l m):=if_pos h
def beb {n:Int} {l m:List Fd} (h:¬ ck4 n l m 0 = 0):af0 n l m = []:=if_neg h
end
section
open Go.Proofs
def bf2 (n:Nat) (c:Bool) (f:Nat -> Nat -> PV) (hn:n <= 17592186044416) :
 cb brj 234 [.one (.p (.sl n 2 c f))] [] (.v (.one (.ref 0 n))) [(0, .arr true 2 49 n f)] []:=by
 refine hfx (nt:=8) Tryz.func234 ?_;refine sx7 ?_;refine du true rfl rfl rfl rfl rfl trivial ?_;refine c6 ?_;refine a9f (ι:=Bool) (fun c=>⟨[(0,some (bp (.sl n 2 c f)))],[]⟩) (fun _=>True) ?_ fun c _=>?_
 · rcases bon n with hz | h0
   · subst hz
     refine hw_exact' 0 rfl fun ad cap hcap=>?_;refine sx7 ?_;(iterate 2 refine du true rfl rfl rfl rfl rfl trivial ?_);refine c6 ?_;refine aj ad.isNone rfl (fun hc=>?_) (fun hc=>?_)
     · refine sx7 ?_
       refine du true rfl rfl rfl rfl rfl trivial ?_;refine c6 ?_;refine bw 2 0 true 2 49 f br2 rfl (CoP.sl rfl (.inr rfl) (fun h=>h) fun i j hi _=>absurd hi (bmq i)) (.inr rfl) rfl ?_;refine hrr ?_;exact ⟨_,_,rfl,trivial,CoR.refl _,uu⟩
     refine d6 ?_;exact ⟨false,trivial,⟨⟨_,rfl,CoP.raw_sl hcap⟩,trivial⟩,trivial⟩
   refine sx7 ?_;refine du true rfl rfl rfl rfl rfl trivial ?_;refine du true rfl rfl rfl rfl rfl h0 ?_;refine c6 ?_;refine aj false rfl (fun hc=>by cases hc) (fun hc=>?_);refine d6 ?_;exact ⟨c,trivial,tt,trivial⟩
 refine sx7 ?_;refine a3o 0 rfl rfl rfl rfl rfl rfl trivial ?_;refine du true rfl rfl rfl rfl rfl trivial ?_;refine a6a 0 true rfl rfl rfl rfl rfl rfl ⟨trivial,rfl,rfl,rfl, .inl rfl,by show 0 + n <= 9223372036854775807;omega,by show (0 + n) * 8 <= 140737488355328;omega,fun _=>.inl rfl⟩ ?_;refine du true rfl rfl rfl rfl rfl trivial ?_;refine c6 ?_;refine hrr ?_;refine ⟨_,_,rfl,trivial,CoR.of_eq (by show HR.v (.one (.ref 0 (0 + n))) = _;rw [bnk]),⟨⟨_,rfl, ?_⟩,trivial⟩⟩;exact ⟨fun h=>h,rfl,rfl,(bnk n).symm,fun i j _ _=>CoP.of_eq (by simp [fm])⟩
def aqh (n:Int) (l m:List Fd) (x:AS):a6 brj 187 [pI n,pP (fdl l),pP (fdl m),pA x] (a8 [pI (ckB n l m x)]):=by
 refine hpx (nt:=21) Tryz.func187 ?_;refine bz ?_;refine qcx a2r (zg n l m) ?_;refine w_7 ?_;refine hcn (fun h0=>?_) (fun h0=>?_)
 · refine v_5 ?_;exact ⟨cci (b48 bqy).symm,trivial⟩
 have hb:br n l m = 0:=h0;obtain ⟨hn0,hn1,_⟩:=l7 hb;refine w_6 ?_;refine rq rfl rfl rfl rfl rfl ?_ (hp:=hn0);refine w_2 ?_;refine hcn (fun h1=>?_) (fun h1=>?_)
 · refine v_4 ?_;exact ⟨cci (b51 hb (fun e=>(by assumption:¬ _ = _) ((y9 x n.toNat).trans (congrArg asI e)))).symm,trivial⟩
 refine v_5 ?_;exact ⟨cci (ae9 hb (c7.1 ((y9 x n.toNat).symm.trans bqy))).symm,trivial⟩
def b4r (l m:List Fd) (hl:l.length <= 64) (hm:m.length <= 64):a6 brj 189 [pP (fdl l),pP (fdl m)] (a8 [pP (fdl (jr l m))]):=by
 refine hpx (nt:=37) Tryz.func189 ?_;refine w_7 ?_;refine fc9 (wgx Tryz.func234) ((bf2 m.length false (lf Fd.c m) bqx).swap 0 900) trivial ?_;refine bz ?_;refine b7 (ka 12 (ka 13 kn)) km (fun i=>⟨[(5,some (.v (.one (.ref 900 (me l m i 0).length)))),(14,some (vI i))],[(900,some (.arr true 2 49 (me l m i 0).length (lf Fd.c (me l m i 0))))]⟩) l.length ⟨⟨⟨_,rfl,(bj (aij l m))⟩,⟨_,rfl,(CoR.refl _)⟩,trivial⟩,⟨⟨_,rfl,(bh (aij l m))⟩,trivial⟩⟩ ?_;rintro i hi;have hmb:=o6 (l.getD i default).rhs;refine w_5 ?_;refine hcd (fun h0=>?_) (fun h0=>?_)
 ·
  refine w_7 ?_;refine m9 0 ?_;refine w_6 ?_;refine qcx a3q (afj (l.getD i default).rhs) ?_;refine w_4 ?_;refine b7 (ka 7 (ka 12 (ka 13 (ka 14 (ka 20 (ka 21 kn)))))) (kb 0 km) (fun k=>⟨[(5,some (.v (.one (.ref 900 (me l m i k).length)))),(22,some (vI k))],[(900,some (.arr true 2 49 (me l m i k).length (lf Fd.c (me l m i k))))]⟩) ((ak (l.getD i default).rhs).length) ⟨⟨zy,⟨_,rfl,(CoR.refl _)⟩,trivial⟩,uu⟩ ?_;rintro k hk;have hal:=b21 (fs:=l) (ms:=m) (i:=i) (k:=k);refine w_5 ?_;refine hcd (fun h1=>?_) (fun h1=>?_)
  · refine pg ?_;refine m9 1 ?_;refine r9 2 true ?_;refine w_7 ?_;exact lpx (k + 1) ⟨⟨⟨_,rfl,(bf (as9 bqx))⟩,tt⟩,⟨⟨_,rfl,(jp (as9 bqx) (CoP.refl _) (CoP.of_eq (congrArg (fun z=>PV.raw (.int .u32 z)) (akl 1 _))))⟩,uu⟩⟩
  obtain rfl:k = (ak (l.getD i default).rhs).length:=by omega
  refine w_5 ?_;exact lpx (i + 1) ⟨⟨⟨_,rfl,(bj (ar7 bqx))⟩,tt⟩,⟨⟨_,rfl,(bh (ar7 bqx))⟩,trivial⟩⟩
 obtain rfl:i = l.length:=by omega
 refine w_6 ?_;refine al 4 rfl rfl rfl ?_;exact hx8 rfl rfl rfl (⟨CoC.one (CoP.of_eq (by rw [b2j];rfl)),trivial⟩)
def b8v (n:Int) (l m:List Fd) (x:AS):a6 brj 192 [pI n,pP (fdl l),pP (fdl m),pA x] (a8 [pP (asl (b0p n l m x)),pI (ckB n l m x)]):=by
 refine hpx (nt:=25) Tryz.func192 ?_;refine en ?_;refine qcx (wgx Tryz.func187) (aqh n l m x) ?_;refine w_7 ?_;refine hcn (fun h0=>?_) (fun h0=>?_)
 · refine v_6 ?_;exact ⟨CoC.one (zr (if_neg bqy)),CoC.refl _,trivial⟩
 have hz:ckB n l m x = 0:=h0;have hb:=a67 hz;obtain ⟨hn0,hn1,hl64,_,hm64,_⟩:=l7 hb.1;refine w_6 ?_;refine qcx (wgx Tryz.func189) (b4r l m hl64 hm64) ?_;refine qy ?_;refine qcx (wgx Tryz.func188) (at0 n (jr l m) x hn0 hn1) ?_;refine v_3 ?_;exact ⟨CoC.one (CoP.of_eq (by rw [show b0p n l m x = dc n l m x from if_pos hz];rfl)),cci hz.symm,trivial⟩
def bct (f:Fd) (b:AS):a6 brj 191 [f.pc,pP (bx (asC b))] (a8 [pB (a0i b f)]):=by
 refine hpx (nt:=12) Tryz.func191 ?_;refine sx7 ?_;refine m9 0 ?_;refine pw ?_;exact hx8 rfl rfl rfl (⟨ccb (by unfold a0i;rw [gl,alf]),trivial⟩)
def ba5 (n:Int) (l m:List Fd) (x:AS):a6 brj 139 [pI n,pP (fdl l),pP (fdl m),pA x] (a8 [pA (at8 n l m x),pI (ckB n l m x)]):=by
 refine hpx (nt:=45) Tryz.func139 ?_;refine en ?_;refine qcx (wgx Tryz.func187) (aqh n l m x) ?_;refine w_7 ?_;refine hcn (fun h0=>?_) (fun h0=>?_)
 · refine v_6 ?_;exact ⟨cci (congrArg asI (show (0:AS) = at8 n l m x from (if_neg bqy).symm)),CoC.refl _,trivial⟩
 have hz:ckB n l m x = 0:=h0;have hb:=a67 hz;obtain ⟨hn0,hn1,hl64,_,hm64,_⟩:=l7 hb.1;refine en ?_;refine qcx (wgx Tryz.func189) (b4r l m hl64 hm64) ?_;refine qy ?_;refine qcx (wgx Tryz.func188) (at0 n (jr l m) x hn0 hn1) ?_;refine w_4 ?_;have hbl:=a51 n l m x;refine b7 (ka 1 (ka 28 (ka 29 kn))) km (fun i=>⟨[(11,some (vA (ux l x ((dc n l m x).take i)))),(30,some (vI i))],[]⟩) ((dc n l m x).length) ⟨⟨⟨_,rfl,(CoR.refl _)⟩,⟨_,rfl,(CoR.refl _)⟩,trivial⟩,trivial⟩ ?_;rintro i hi;refine w_5 ?_;refine hcd (fun h1=>?_) (fun h1=>?_)
 ·
  have hil:i < (dc n l m x).length:=Int.ofNat_lt.1 h1;refine w_7 ?_;refine m9 0 ?_;refine w_6 ?_;refine qcx zo (a9w ((dc n l m x).getD i default)) ?_;refine w_2 ?_;refine hcn (fun h2=>?_) (fun h2=>?_)
  · have hq:¬ bsz ((dc n l m x).getD i default) = 1:=fun e=>h2 (by rw [e];rfl);refine w_5 ?_;exact lpx (i + 1) ⟨⟨⟨_,rfl,(by first | exact bn (congrArg asI (ako hil hq)) | exact bn (congrArg asI (ald hil hq ha)) | exact bn ((bOr _ _).trans (congrArg asI (alc hil hq ha))))⟩,tt⟩,trivial⟩
  have hq:bsz ((dc n l m x).getD i default) = 1:=Int.ofNat_inj.1 h2;refine w_2 ?_;refine d8 13 rfl rfl rfl ?_;refine w_3 ?_;refine qcx (wgx Tryz.func190) (bh6 l 191 1 (fun j=>[bx (asC ((dc n l m x).getD i default))].getD j .any) (a0i ((dc n l m x).getD i default)) (wgx Tryz.func191) (fun f=>bct f ((dc n l m x).getD i default))) ?_;refine c6 ?_;refine aj _ rfl (fun r3=>?_) (fun r3=>?_)
  · have h3:=r3;have ha:l.any (a0i ((dc n l m x).getD i default)) = true:=r3;refine bz ?_;exact lpx (i + 1) ⟨⟨⟨_,rfl,(by first | exact bn (congrArg asI (ako hil hq)) | exact bn (congrArg asI (ald hil hq ha)) | exact bn ((bOr _ _).trans (congrArg asI (alc hil hq ha))))⟩,tt⟩,trivial⟩
  have h3:=r3;have ha:l.any (a0i ((dc n l m x).getD i default)) = false:=r3;refine w_5 ?_;exact lpx (i + 1) ⟨⟨⟨_,rfl,(by first | exact bn (congrArg asI (ako hil hq)) | exact bn (congrArg asI (ald hil hq ha)) | exact bn ((bOr _ _).trans (congrArg asI (alc hil hq ha))))⟩,tt⟩,trivial⟩
 obtain rfl:i = (dc n l m x).length:=Nat.le_antisymm hi (bqc fun q=>h1 (Int.ofNat_lt.2 q));rw [show (dc n l m x).take (dc n l m x).length = (dc n l m x) from bmt];refine v_7 ?_;exact ⟨cci (congrArg asI (show qa n l m x = at8 n l m x from (if_pos hz).symm)),cci hz.symm,trivial⟩
def amr:goodFn brj 79:=wgx Tryz.func79
def aez (n:Int) (l m:List Fd) (s:AS):a6 brj 79 [pI n,pP (fdl l),pP (fdl m),pA s] (a8 [pI (ck4 n l m s)]):=by
 refine hpx (nt:=27) Tryz.func79 ?_;refine bz ?_;refine ai rfl rfl (fun r0=>?_) (fun r0=>?_)
 ·
  have h0:=tz1 r0;(iterate 2 refine k9 (gtf r0) ?_);refine rq rfl rfl rfl rfl rfl ?_ (hp:=r0);refine w_6 ?_
  exact hx8 rfl rfl rfl (⟨cci (b4f bqx).symm,trivial⟩)
 have h0:=tz2 r0;(iterate 2 refine qy ?_ (hg:=(gff r0)));refine w_2 ?_;refine aj _ rfl (fun r1=>?_) (fun r1=>?_)
 · have h1:=tz1 (av r0 r1);refine v_4 ?_;exact ⟨cci (b4f bqx).symm,trivial⟩
 have h1:=tz2 (av r0 r1);refine w_7 ?_;refine qcx a2r (zg n l m) ?_;refine w_7 ?_;refine hcn (fun h2=>?_) (fun h2=>?_)
 ·
  have hc:¬ (n < 0 \/ 8 < n):=by omega
  refine v_5 ?_;exact ⟨cci ((a5o hc).trans (b48 bqy)).symm,trivial⟩
 have hb:br n l m = 0:=h2;obtain ⟨hn0,hn1,_⟩:=l7 hb;have hc:¬ (n < 0 \/ 8 < n):=by omega
 refine w_6 ?_;refine rq rfl rfl rfl rfl rfl ?_ (hp:=hn0);refine w_2 ?_;refine hcn (fun h3=>?_) (fun h3=>?_)
 · refine v_4 ?_;exact ⟨cci ((a5o hc).trans (b51 hb (fun e=>(by assumption:¬ _ = _) ((y9 s n.toNat).trans (congrArg asI e))))).symm,trivial⟩
 refine v_5 ?_;exact ⟨cci ((a5o hc).trans (ae9 hb (c7.1 ((y9 s n.toNat).symm.trans bqy)))).symm,trivial⟩
end
end Go.Hx

/- A part of the proof: Hx27 Y1 Bz4 W1. -/
import Derived.Test.YtkkenjdfbojdlaaGreatDoorEx21
import Derived.Test.YtkkenjdfbojdlaaGreatDoorEx23
import Derived.Test.YtkkenjdfbojdlaaGreatDoorEx31
set_option linter.all false
section
namespace Go.Hx
open Go.RowKit
section
variable {ro:Option Nat} {P:Program} {nt:Nat} {st:HSt} {Q:Exit → HSt → Prop}
theorem qv {w0:World} {cc:Ctx} {a:Act} {w:World} (hrr:ak w0 nt cc st.den a w) {d:Nat} {x:HR} (hx:aq cc st.den.o x (a.tmps.getD d undef)):ak w0 nt cc (HSt.den ⟨(d,some x) :: st.t,st.o⟩) a w:=by
 refine ⟨hrr.defers,hrr.size,hrr.below,fun k y hy=>?_,hrr.objs,hrr.inj,hrr.imm,hrr.sep,hrr.was,hrr.frm,hrr.fsep,hrr.fixed⟩
 simp only [HSt.den] at hy
 rw [bo] at hy
 dsimp only at hy
 split at hy
 · rename_i hk
   subst hk
   simp only [Option.some.injEq] at hy
   subst hy
   exact hx
 exact hrr.tmps k y hy
theorem awc {c:Code} (d:Nat) {id n n' s:Nat} {wr:Bool} {e:TypeId} {f:Nat → Nat → PV} (hd:bf st.t d = some (.v (.one (.ref id n)))) (ho:bf st.o id = some (.arr wr s e n' f)) (hn:n' = n)
 (h:HW (ro:=ro) P nt c ⟨(d,some (.v (.one (.win id n 0 n)))) :: st.t,st.o⟩ Q):HW (ro:=ro) P nt c st Q:=by
 subst hn
 refine vc st d _ (fun w0 m0 a w hr=>?_) h
 obtain ⟨cc,hold,hrr⟩:=hr
 refine ⟨cc,hold,hrr, ?_⟩
 have hu:b7 cc st.den.o (.ref id n') (a.tmps.getD d undef):=hrr.tmps d _ hd
 refine ⟨hu.1,hu.2.1,fun ob s2 e2 n2 ho2 hd2=>⟨(hu.2.2 _ _ _ _ ho2 hd2).1,fun hk=>?_⟩⟩
 have he:=(hu.2.2 _ _ _ _ ho2 hd2).2 hk
 obtain rfl:ob = .arr wr s e n' f:=Option.some.inj (ho2.symm.trans ho)
 simp only [af.dim,Option.some.injEq,Prod.mk.injEq] at hd2
 obtain ⟨rfl,rfl,rfl⟩:=hd2
 obtain ⟨ad,cap,hv,hc1,hc2⟩:=uf (hrr.objs _ _ ho2)
 exact ⟨ad,ad,cap,hv,by rw [he,hv];rfl,by omega,hc1,hc2,fun _=>by cases ad <;> simp [kz]⟩
theorem b1p {c:Code} (d dh:Nat) {id n n' n0 k s:Nat} {e:TypeId} {f:Nat → Nat → PV} (hd:bf st.t d = some (.v (.one (.ref id n)))) (hh:bf st.t dh = some (.v (.one (.win id k 0 n0)))) (ho:bf st.o id = some (.arr true s e n' f)) (hn:n' = n) (hk:k = n) (hne:Nat.beq d dh = false)
 (hA:∀ ad cap,n + 1 ≤ cap → HW (ro:=ro) P nt c ⟨(d,some (.v (.one (.pin id n ad cap)))) :: (dh,some (be (.raw (.slice ad n0 cap)))) :: st.t,st.o⟩ Q)
 (hB:HW (ro:=ro) P nt c ⟨(d,some (be (.sl n s true f))) :: (dh,some (be (.sl n0 s false f))) :: st.t,(id,none) :: st.o⟩ Q):HW (ro:=ro) P nt c st Q:=by
 subst hn hk
 intro w0 m0 a w hr
 obtain ⟨cc,hold,hrr⟩:=hr
 have hu:b7 cc st.den.o (.ref id k) (a.tmps.getD d undef):=hrr.tmps d _ hd
 have hv:b7 cc st.den.o (.win id k 0 n0) (a.tmps.getD dh undef):=hrr.tmps dh _ hh
 obtain ⟨ad,ad',cap,q1,q2,q3,q4,q5,q6⟩:=tx hv ho rfl
 have hu1:=(hu.2.2 _ _ _ _ ho rfl).2 rfl
 by_cases hc:k + 1 ≤ cap
 · obtain rfl:ad' = ad:=by
    rw [q6 (by omega)]
    cases ad <;> simp [kz]
   refine hA ad' cap hc w0 m0 a w ⟨cc,hold, ?_⟩
   have h1:ak w0 nt cc (HSt.den ⟨(dh,some (be (.raw (.slice ad' n0 cap)))) :: st.t,st.o⟩) a w:=qv hrr ⟨by simpa using q2,rfl⟩
   refine qv (st:=⟨(dh,some (be (.raw (.slice ad' n0 cap)))) :: st.t,st.o⟩) h1 ⟨hu1.trans q1,hu.2.1,hu.2.2⟩
 obtain rfl:cap = k:=by omega
 have hfr:=hrr.freeze (id:=id) ho
 rw [← v6] at hfr
 refine hB w0 m0 a w ⟨{ old:=cc.old,imm:=frozenImm cc w id,tab:=t8 hrr ho,own:=cc.own,blk:=cc.blk,rows:=cc.rows },hold, ?_⟩
 have hfa:=tl hrr ho
 have h1:=qv (st:=⟨st.t,(id,none) :: st.o⟩) (d:=dh) (x:=be (.sl n0 s false fun a b=>f (0 + a) b)) hfr (a6g hrr ho hv)
 have e0:(fun a b=>f (0 + a) b) = f:=by funext a b;rw [Nat.zero_add]
 rw [e0] at h1
 refine qv (st:=⟨(dh,some (be (.sl n0 s false f))) :: st.t,(id,none) :: st.o⟩) h1 ?_
 rw [hu1]
 obtain ⟨A,C,r1,r2,r3,r4,r5⟩:=hfa
 refine ⟨A,C,r1,r2,r3,fun _=>?_,r5⟩
 rw [q1] at r1
 simp only [Value.slice.injEq,true_and] at r1
 exact r1.2.symm
theorem avw {c:Code} (d dh:Nat) {id n n' n0 s cap:Nat} {ad:Option Addr} {e:TypeId} {f:Nat → Nat → PV} (hd:bf st.t d = some (.v (.one (.pin id n ad cap)))) (hh:bf st.t dh = some (be (.raw (.slice ad n0 cap)))) (ho:bf st.o id = some (.arr true s e n' f)) (hn:n' = n) (hle:n0 ≤ n) (hne:Nat.beq d dh = false)
 (h:HW (ro:=ro) P nt c ⟨(d,some (.v (.one (.ref id n)))) :: (dh,some (.v (.one (.win id n 0 n0)))) :: st.t,st.o⟩ Q):HW (ro:=ro) P nt c st Q:=by
 subst hn
 intro w0 m0 a w hr
 obtain ⟨cc,hold,hrr⟩:=hr
 have hu:b7 cc st.den.o (.pin id n' ad cap) (a.tmps.getD d undef):=hrr.tmps d _ hd
 have hv:b7 cc st.den.o (.p (.raw (.slice ad n0 cap))) (a.tmps.getD dh undef):=hrr.tmps dh _ hh
 obtain ⟨hv1,_⟩:=hv
 have hu1:=(hu.2.2 _ _ _ _ ho rfl).2 rfl
 refine h w0 m0 a w ⟨cc,hold, ?_⟩
 have h1:ak w0 nt cc (HSt.den ⟨(dh,some (.v (.one (.win id n' 0 n0)))) :: st.t,st.o⟩) a w:=by
  refine qv hrr ⟨by rw [hv1];rfl,hu.2.1,fun ob s2 e2 n2 ho2 hd2=>⟨(hu.2.2 _ _ _ _ ho2 hd2).1,fun hk=>?_⟩⟩
  obtain rfl:ob = .arr true s e n' f:=Option.some.inj (ho2.symm.trans ho)
  simp only [af.dim,Option.some.injEq,Prod.mk.injEq] at hd2
  obtain ⟨rfl,rfl,rfl⟩:=hd2
  obtain ⟨ad2,cap2,g1,g2,g3⟩:=uf (hrr.objs _ _ ho2)
  have hown:cc.own id = .slice ad n' cap:=hu1.symm.trans hu.1
  rw [hown] at g1
  simp only [Value.slice.injEq,true_and] at g1
  obtain ⟨rfl,rfl⟩:=g1
  exact ⟨ad,ad,cap,hown,hv1,by omega,g2,g3,fun _=>by cases ad <;> simp [kz]⟩
 exact qv (st:=⟨(dh,some (.v (.one (.win id n' 0 n0)))) :: st.t,st.o⟩) h1 ⟨by rw [hu.1];rfl,hu.2.1,hu.2.2⟩
end
end Go.Hx
end
section
namespace Go.Hx
open Go.Proofs
set_option maxRecDepth 100000
set_option maxHeartbeats 1000000
theorem a2n {a b:AS} (h:bj .and .u32 (asI a) (asI b) = 0):a &&& b = 0:=c6.1 ((i6 a b).symm.trans h)
theorem yd {a b:AS} (h:¬ bj .and .u32 (asI a) (asI b) = 0):¬ a &&& b = 0:=fun e=>h ((i6 a b).trans (congrArg asI e))
theorem b03 {a b:AS} (h:bj .andNot .u32 (asI a) (asI b) = 0):a &&& ~~~b = 0:=c6.1 ((jd a b).symm.trans h)
theorem amv {a b:AS} (h:¬ bj .andNot .u32 (asI a) (asI b) = 0):¬ a &&& ~~~b = 0:=fun e=>h ((jd a b).trans (congrArg asI e))
theorem a32 {m:Fd} {x:AS} (h:¬ x &&& m.lhs = 0):dw m x = false:=by unfold dw;rw [decide_eq_false h];rfl
theorem a2k {m:Fd} {x:AS} (h:x &&& m.rhs = 0):dw m x = false:=by simp [dw,h]
theorem ac3 (a b:AS):decide (bj .and .u32 (asI a) (asI b) = 0) = decide (a &&& b = 0):=by
 by_cases h:bj .and .u32 (asI a) (asI b) = 0
 · rw [decide_eq_true h,decide_eq_true (a2n h)]
 rw [decide_eq_false h,decide_eq_false (yd h)]
theorem b82 (a b:AS):decide (bj .andNot .u32 (asI a) (asI b) = 0) = decide (a &&& ~~~b = 0):=by
 by_cases h:bj .andNot .u32 (asI a) (asI b) = 0
 · rw [decide_eq_true h,decide_eq_true (b03 h)]
 rw [decide_eq_false h,decide_eq_false (amv h)]
theorem a2r (m:Fd) (x:AS):(bif (bif decide (bj .and .u32 (asI x) (asI m.lhs) = 0) then !decide (bj .and .u32 (asI x) (asI m.rhs) = 0) else false) then !decide (bj .andNot .u32 (asI x) (asI m.rhs) = 0) else false) = dw m x:=by
 rw [ac3,ac3,b82]
 unfold dw
 by_cases h1:x &&& m.lhs = 0 <;> by_cases h2:x &&& m.rhs = 0 <;> by_cases h3:x &&& ~~~m.rhs = 0 <;> simp only [h1,h2,h3,decide_true,decide_false,ne_eq,not_true_eq_false,not_false_eq_true,Bool.not_true,Bool.not_false,cond_true,cond_false,Bool.and_self,Bool.and_true,Bool.true_and,Bool.and_false,Bool.false_and]
theorem s8 {m:Fd} {l:List AS} {i:Nat} (c:Bool) (h:i < l.length) (hs:dw m (l.getD i default) = true):true = (c || (l.take (i + 1)).any (dw m)):=by
 rw [b6 h,List.any_append];simp only [List.any_cons,List.any_nil,hs,Bool.or_true,Bool.or_false]
theorem a0l {m:Fd} {l:List AS} {i:Nat} (c:Bool) (h:i < l.length) (hs:dw m (l.getD i default) = false):(c || (l.take i).any (dw m)) = (c || (l.take (i + 1)).any (dw m)):=by
 rw [b6 h,List.any_append];simp only [List.any_cons,List.any_nil,hs,Bool.or_true,Bool.or_false]
def aji (x:Nat × List AS × Bool):Nat:=x.1 + (bif x.2.2 then 1 else 0)
theorem b3t {f:Nat} {l l':List AS} {c:Bool} (h:0 < f):aji (f - 1,l',c) < aji (f,l,true):=by
 cases c <;> simp only [aji,cond_true,cond_false] <;> omega
theorem ai1:goodFn Tryz.prog 188:=⟨Tryz.f188,Tryz.func188,by kernel_rfl,by kernel_rfl⟩
theorem aht (n:Int) (ms:List Fd) (x:AS) (h0:0 ≤ n) (h1:n ≤ 16):ae Tryz.prog 188 [pI n,pP (fdl ms),pA x] (ai [pP (asl (ord (blks ms (ar n &&& ~~~x))))]):=by
 refine a8 (nt:=76) a7 Tryz.func188 rfl rfl l9 ?_
 refine dg 1 rfl fun hn=>?_
 have hrest:bj .andNot .u32 (IntKind.wrap .u32 (1 * 2 ^ (min n.toNat 32)) - 1) (asI x) = asI (ar n &&& ~~~x):=by rw [p8 h0 h1,jd]
 refine w_8 ?_;refine dy 7 900 true 1 46 (lf sC []) (by decide) rfl (CoP.sl rfl (.inr rfl) (fun h=>h) (fun i j hi _=>absurd hi (Nat.not_lt_zero i))) (.inr rfl) rfl ?_
 refine cj (ι:=Unit) ⟨[(1,some _)],[]⟩ ⟨⟨c9,trivial⟩,trivial⟩ (fun _i=>⟨[(7,some (.v (.one (.ref 900 (ir (ar n &&& ~~~x)).length))))],[(900,some (.arr true 1 46 (ir (ar n &&& ~~~x)).length (lf sC (ir (ar n &&& ~~~x)))))]⟩) (fun _i=>True) ?_ ?_
 ·
  refine w_4 ?_;refine rq rfl rfl rfl rfl rfl ?_ (hp:=⟨vd h0 h1,s6 h0 h1⟩);refine w_9 ?_;refine a6 _ rfl (fun r0=>?_) (fun r0=>?_)
  ·
   have h0:=r0
   have h0:=of_decide_eq_false (ap h0)
   try simp only [ty] at h0
   have hne:¬ (ar n &&& ~~~x) = 0:=fun e=>h0 (hrest.trans (congrArg asI e))
   refine w_3 ?_;refine m9 0 ?_;refine ra 1 true rfl rfl rfl rfl rfl rfl ?_;refine w_2 ?_;refine ⟨(), ?_, ?_⟩
   · trivial
   exact ⟨⟨⟨_,rfl,(by first | exact d8 (a2q hne) | exact cz (a2t hz))⟩,c9,trivial⟩,⟨⟨_,rfl,(by first | exact dt (a2q hne) (CoP.of_eq (congrArg (fun z=>PV.raw (.int .u32 z)) hrest)) | exact d4 (a2t hz))⟩,trivial⟩⟩
  have h0:=r0
  have h0:=of_decide_eq_true (am h0)
  try simp only [ty] at h0
  have hz:(ar n &&& ~~~x) = 0:=c6.1 (hrest.symm.trans h0)
  refine dp ?_;refine ⟨(), ?_, ?_⟩
  · trivial
  exact ⟨⟨⟨_,rfl,(by first | exact d8 (a2q hne) | exact cz (a2t hz))⟩,c9,trivial⟩,⟨⟨_,rfl,(by first | exact dt (a2q hne) (CoP.of_eq (congrArg (fun z=>PV.raw (.int .u32 z)) hrest)) | exact d4 (a2t hz))⟩,trivial⟩⟩
 rintro _ _
 refine w_6 ?_
 refine aj (ι:=(Nat × List AS × Bool)) ⟨[(1,some _)],[]⟩ ⟨⟨c9,trivial⟩,trivial⟩ (fun y=>⟨[(7,some (.v (.one (.ref 900 y.2.1.length)))),(9,some (vB y.2.2))],[(900,some (.arr true 1 46 y.2.1.length (lf sC y.2.1)))]⟩) (fun y=>BkI ms (blks ms (ar n &&& ~~~x)) y) (fun y=>aji y) ((18446744073709551616,ir (ar n &&& ~~~x),true)) (ats ms (ar n &&& ~~~x)) ⟨⟨zy,zy,trivial⟩,⟨u9,trivial⟩⟩ ?_
 rintro ⟨f,l,ag⟩ hI
 refine w_5 ?_;refine a6 _ rfl (fun r1=>?_) (fun r1=>?_)
 ·
  have h1:=r1
  obtain rfl:ag = true:=r1
  obtain ⟨hI2,hf⟩:=b2b hI
  have hok:=hI.ok
  refine ld ?_
  refine aj (ι:=Nat) ⟨[(1,some _),(26,some _),(27,some _)],[]⟩ ⟨⟨c9,c9,c9,trivial⟩,trivial⟩ (fun j=>⟨[(7,some (.v (.one (.ref 900 (c5 (ms.take j) l).length)))),(9,some (vB (lj (ms.take j) l))),(28,some (vI j))],[(900,some (.arr true 1 46 (c5 (ms.take j) l).length (lf sC (c5 (ms.take j) l))))]⟩) (fun j=>j ≤ ms.length) (fun j=>ms.length - j) (0) (Nat.zero_le _) ⟨⟨zy,⟨_,rfl,(CoR.refl _)⟩,zy,trivial⟩,⟨u9,trivial⟩⟩ ?_
  rintro j hj
  have hokj:OkB (c5 (ms.take j) l):=a2p hok
  have hlj:=a8m (an3 (m:=(ms.getD j default)) hokj)
  refine w_5 ?_;refine a6 _ rfl (fun r2=>?_) (fun r2=>?_)
  ·
   have h2:=of_decide_eq_true r2
   try simp only [ty] at h2
   refine w_7 ?_;refine m9 2 ?_;refine w_9 ?_;refine awc 32 rfl rfl rfl ?_
   refine aj (ι:=(Nat × Bool)) ⟨[(1,some _),(11,some _),(26,some _),(27,some _),(28,some _),(33,some _)],[(2,some _)]⟩ ⟨⟨c9,c9,c9,c9,c9,c9,trivial⟩,⟨u9,trivial⟩⟩ (fun y=>⟨[(7,some (.v (.one (.ref (bif y.2 then 900 else 951) (stB (ms.getD j default) (c5 (ms.take j) l) y.1).length)))),(9,some (vB (lj (ms.take j) l || ((c5 (ms.take j) l).take y.1).any (dw (ms.getD j default))))),(34,some (vI y.1)),(32,some (bif y.2 then .v (.one (.win 900 (stB (ms.getD j default) (c5 (ms.take j) l) y.1).length 0 (c5 (ms.take j) l).length)) else be (.sl (c5 (ms.take j) l).length 1 false (a1e (c5 (ms.take j) l) y.1))))],[(bif y.2 then 900 else 951,some (.arr true 1 46 (stB (ms.getD j default) (c5 (ms.take j) l) y.1).length (lf sC (stB (ms.getD j default) (c5 (ms.take j) l) y.1))))]⟩) (fun y=>y.1 ≤ (c5 (ms.take j) l).length) (fun y=>(c5 (ms.take j) l).length - y.1) ((0,true)) (Nat.zero_le _) ⟨⟨⟨_,rfl,(cz (a5w _ _))⟩,⟨_,rfl,(cob (by simp))⟩,⟨_,rfl,(CoR.refl _)⟩,⟨_,rfl,(CoR.of_eq (by rw [a5w];rfl))⟩,trivial⟩,⟨⟨_,rfl,(d4 (a5w _ _))⟩,trivial⟩⟩ ?_
   rintro ⟨i,b⟩ hi
   have hi:i ≤ (c5 (ms.take j) l).length:=hi
   have hsl:=b90 (ms.getD j default) (c5 (ms.take j) l) i
   have hsl2:=ahs (ms.getD j default) (c5 (ms.take j) l) i
   rcases b with _ | _
   ·
    show HW _ _ _ ⟨_ :: _,_⟩ _
    refine w_5 ?_;refine a6 _ rfl (fun r3=>?_) (fun r3=>?_)
    ·
     have h3:=of_decide_eq_true r3
     try simp only [ty] at h3
     have hil:i < (c5 (ms.take j) l).length:=by omega
     refine w_7 ?_;refine rq (out:=⟨_, .v (.one (.p (asC ((c5 (ms.take j) l).getD i default))))⟩) rfl rfl rfl (congrArg (fun z=>some (Out.mk _ (HR.v (HC.one (HV.p z))))) (b1k (c5 (ms.take j) l) i)) rfl ?_
     refine w_3 ?_
     refine cj (ι:=Unit) ⟨[(1,some _),(7,some _),(9,some _),(11,some _),(12,some _),(13,some _),(26,some _),(27,some _),(28,some _),(32,some _),(33,some _),(34,some _)],[(2,some _)]⟩ ⟨⟨c9,c9,c9,c9,c9,c9,c9,c9,c9,c9,c9,c9,trivial⟩,⟨u9,trivial⟩⟩ (fun _i=>⟨[(57,some (vB (dw (ms.getD j default) ((c5 (ms.take j) l).getD i default))))],[(951,some (.arr true 1 46 (stB (ms.getD j default) (c5 (ms.take j) l) i).length (lf sC (stB (ms.getD j default) (c5 (ms.take j) l) i))))]⟩) (fun _i=>True) ?_ ?_
     ·
      refine w_7 ?_;refine bc rfl rfl (fun r4=>?_) (fun r4=>?_)
      ·
       have h4:=of_decide_eq_true r4
       try simp only [ty] at h4
       have g1:((c5 (ms.take j) l).getD i default) &&& (ms.getD j default).lhs = 0:=a2n h4
       (iterate 5 refine qy ?_ (hg:=(gtt r4)));refine w_2 ?_;refine bc rfl rfl (fun r5=>?_) (fun r5=>?_)
       ·
        have h5:=r5
        have h5:=dc r4 h5
        have h5:=of_decide_eq_false (ap h5)
        try simp only [ty] at h5
        have g2:¬ ((c5 (ms.take j) l).getD i default) &&& (ms.getD j default).rhs = 0:=yd h5
        (iterate 5 refine qy ?_ (hg:=(gtt r5)));refine w_2 ?_;refine ⟨(), ?_, ?_⟩
        · trivial
        exact ⟨⟨⟨_,rfl,(cob (by first | exact a2r _ _ | exact (a32 g1).symm | exact (a2k g2).symm))⟩,c9,c9,c9,c9,c9,c9,c9,c9,c9,c9,c9,c9,trivial⟩,⟨u9,u9,trivial⟩⟩
       have h5:=r5
       have h5:=dc r4 h5
       have h5:=of_decide_eq_true (am h5)
       try simp only [ty] at h5
       have g2:((c5 (ms.take j) l).getD i default) &&& (ms.getD j default).rhs = 0:=a2n h5
       (iterate 5 refine k9 (gft r5) ?_);refine rq rfl rfl rfl rfl rfl ?_ (hp:=r5);refine b8 ?_;refine ⟨(), ?_, ?_⟩
       · trivial
       exact ⟨⟨⟨_,rfl,(cob (by first | exact a2r _ _ | exact (a32 g1).symm | exact (a2k g2).symm))⟩,c9,c9,c9,c9,c9,c9,c9,c9,c9,c9,c9,c9,trivial⟩,⟨u9,u9,trivial⟩⟩
      have h4:=of_decide_eq_false r4
      try simp only [ty] at h4
      have g1:¬ ((c5 (ms.take j) l).getD i default) &&& (ms.getD j default).lhs = 0:=yd h4
      (iterate 5 refine k9 (gft r4) ?_);refine rq rfl rfl rfl rfl rfl ?_ (hp:=r4);refine qy ?_;(iterate 5 refine k9 rfl ?_);refine w_2 ?_;refine ⟨(), ?_, ?_⟩
      · trivial
      exact ⟨⟨⟨_,rfl,(cob (by first | exact a2r _ _ | exact (a32 g1).symm | exact (a2k g2).symm))⟩,c9,c9,c9,c9,c9,c9,c9,c9,c9,c9,c9,c9,trivial⟩,⟨u9,u9,trivial⟩⟩
     rintro _ _
     refine a6 _ rfl (fun r6=>?_) (fun r6=>?_)
     ·
      have h6:=r6
      have hs:dw (ms.getD j default) ((c5 (ms.take j) l).getD i default) = true:=r6
      have hl2:(stB (ms.getD j default) (c5 (ms.take j) l) (i + 1)).length = (stB (ms.getD j default) (c5 (ms.take j) l) i).length + 1:=by rw [abd hil hs,List.length_append,List.length_set];rfl
      refine ava ?_;refine m9 3 ?_;refine ra 4 true rfl rfl rfl rfl rfl rfl ?_;refine w_9 ?_
      first | (refine ⟨(i + 1, false), ?_, ?_, ?_⟩
               · show i + 1 ≤ _;omega
               · first | omega | (dsimp only;omega)
               exact ⟨⟨⟨_,rfl,(CoR.of_eq (congrArg (fun z=>HR.v (.one (.ref 951 z))) hl2.symm))⟩,⟨_,rfl,(cob (s8 _ hil hs))⟩,⟨_,rfl,(CoR.refl _)⟩,⟨_,rfl,(CoC.one (a3d rfl))⟩,c9,c9,c9,c9,c9,c9,trivial⟩,⟨⟨_,rfl,(sa hil hs rfl (i6 _ _) (CoP.of_eq (congrArg (fun z=>PV.raw (.int .u32 z)) (jd _ _))))⟩,u9,trivial⟩⟩)
            | (refine ⟨(i + 1,false), ?_, ?_, ?_⟩
               · show i + 1 ≤ _;omega
               · first | omega | (dsimp only;omega)
               exact ⟨⟨⟨_,rfl,(cz (ll hil hs))⟩,⟨_,rfl,(cob (a0l _ hil hs))⟩,⟨_,rfl,(CoR.refl _)⟩,⟨_,rfl,(CoC.one (a3d rfl))⟩,c9,c9,c9,c9,c9,c9,trivial⟩,⟨⟨_,rfl,(d4 (ll hil hs))⟩,u9,trivial⟩⟩)
     have h6:=r6
     have hs:dw (ms.getD j default) ((c5 (ms.take j) l).getD i default) = false:=r6
     refine w_5 ?_
     first | (refine ⟨(i + 1, false), ?_, ?_, ?_⟩
              · show i + 1 ≤ _;omega
              · first | omega | (dsimp only;omega)
              exact ⟨⟨⟨_,rfl,(CoR.of_eq (congrArg (fun z=>HR.v (.one (.ref 951 z))) hl2.symm))⟩,⟨_,rfl,(cob (s8 _ hil hs))⟩,⟨_,rfl,(CoR.refl _)⟩,⟨_,rfl,(CoC.one (a3d rfl))⟩,c9,c9,c9,c9,c9,c9,trivial⟩,⟨⟨_,rfl,(sa hil hs rfl (i6 _ _) (CoP.of_eq (congrArg (fun z=>PV.raw (.int .u32 z)) (jd _ _))))⟩,u9,trivial⟩⟩)
           | (refine ⟨(i + 1,false), ?_, ?_, ?_⟩
              · show i + 1 ≤ _;omega
              · first | omega | (dsimp only;omega)
              exact ⟨⟨⟨_,rfl,(cz (ll hil hs))⟩,⟨_,rfl,(cob (a0l _ hil hs))⟩,⟨_,rfl,(CoR.refl _)⟩,⟨_,rfl,(CoC.one (a3d rfl))⟩,c9,c9,c9,c9,c9,c9,trivial⟩,⟨⟨_,rfl,(d4 (ll hil hs))⟩,u9,trivial⟩⟩)
    have h3:=of_decide_eq_false r3
    try simp only [ty] at h3
    obtain rfl:i = (c5 (ms.take j) l).length:=by omega
    refine sd 7 900 rfl rfl rfl rfl ?_;refine w_5 ?_;refine ⟨j + 1, ?_, ?_, ?_⟩
    · show j + 1 ≤ _;omega
    · first | omega | (dsimp only;omega)
    exact ⟨⟨⟨_,rfl,(cz (by rw [zr (by omega),xn]))⟩,⟨_,rfl,(cob (by rw [acv (by omega),List.take_length]))⟩,zy,c9,c9,c9,trivial⟩,⟨⟨_,rfl,(d4 (by rw [zr (by omega),xn]))⟩,trivial⟩⟩
   show HW _ _ _ ⟨_ :: _,_⟩ _
   refine w_5 ?_;refine a6 _ rfl (fun r7=>?_) (fun r7=>?_)
   ·
    have h7:=of_decide_eq_true r7
    try simp only [ty] at h7
    have hil:i < (c5 (ms.take j) l).length:=by omega
    refine w_7 ?_
    refine rq (out:=⟨_, .v (.one (.p (asC ((c5 (ms.take j) l).getD i default))))⟩) rfl rfl rfl (congrArg (fun z=>some (Out.mk _ (HR.v (HC.one (HV.p z))))) ((show lf sC (stB (ms.getD j default) (c5 (ms.take j) l) i) (0 + i) 0 = _ by rw [Nat.zero_add];exact congrArg asC (b20 hil)))) rfl ?_
    refine w_3 ?_
    refine cj (ι:=Unit) ⟨[(1,some _),(7,some _),(9,some _),(11,some _),(12,some _),(13,some _),(26,some _),(27,some _),(28,some _),(32,some _),(33,some _),(34,some _)],[(2,some _)]⟩ ⟨⟨c9,c9,c9,c9,c9,c9,c9,c9,c9,c9,c9,c9,trivial⟩,⟨u9,trivial⟩⟩ (fun _i=>⟨[(57,some (vB (dw (ms.getD j default) ((c5 (ms.take j) l).getD i default))))],[(900,some (.arr true 1 46 (stB (ms.getD j default) (c5 (ms.take j) l) i).length (lf sC (stB (ms.getD j default) (c5 (ms.take j) l) i))))]⟩) (fun _i=>True) ?_ ?_
    ·
     refine w_7 ?_;refine bc rfl rfl (fun r8=>?_) (fun r8=>?_)
     ·
      have h8:=of_decide_eq_true r8
      try simp only [ty] at h8
      have g1:((c5 (ms.take j) l).getD i default) &&& (ms.getD j default).lhs = 0:=a2n h8
      (iterate 5 refine qy ?_ (hg:=(gtt r8)));refine w_2 ?_;refine bc rfl rfl (fun r9=>?_) (fun r9=>?_)
      ·
       have h9:=r9
       have h9:=dc r8 h9
       have h9:=of_decide_eq_false (ap h9)
       try simp only [ty] at h9
       have g2:¬ ((c5 (ms.take j) l).getD i default) &&& (ms.getD j default).rhs = 0:=yd h9
       (iterate 5 refine qy ?_ (hg:=(gtt r9)));refine w_2 ?_;refine ⟨(), ?_, ?_⟩
       · trivial
       exact ⟨⟨⟨_,rfl,(cob (by first | exact a2r _ _ | exact (a32 g1).symm | exact (a2k g2).symm))⟩,c9,c9,c9,c9,c9,c9,c9,c9,c9,c9,c9,c9,trivial⟩,⟨u9,u9,trivial⟩⟩
      have h9:=r9
      have h9:=dc r8 h9
      have h9:=of_decide_eq_true (am h9)
      try simp only [ty] at h9
      have g2:((c5 (ms.take j) l).getD i default) &&& (ms.getD j default).rhs = 0:=a2n h9
      (iterate 5 refine k9 (gft r9) ?_);refine rq rfl rfl rfl rfl rfl ?_ (hp:=r9);refine b8 ?_;refine ⟨(), ?_, ?_⟩
      · trivial
      exact ⟨⟨⟨_,rfl,(cob (by first | exact a2r _ _ | exact (a32 g1).symm | exact (a2k g2).symm))⟩,c9,c9,c9,c9,c9,c9,c9,c9,c9,c9,c9,c9,trivial⟩,⟨u9,u9,trivial⟩⟩
     have h8:=of_decide_eq_false r8
     try simp only [ty] at h8
     have g1:¬ ((c5 (ms.take j) l).getD i default) &&& (ms.getD j default).lhs = 0:=yd h8
     (iterate 5 refine k9 (gft r8) ?_);refine rq rfl rfl rfl rfl rfl ?_ (hp:=r8);refine qy ?_;(iterate 5 refine k9 rfl ?_);refine w_2 ?_;refine ⟨(), ?_, ?_⟩
     · trivial
     exact ⟨⟨⟨_,rfl,(cob (by first | exact a2r _ _ | exact (a32 g1).symm | exact (a2k g2).symm))⟩,c9,c9,c9,c9,c9,c9,c9,c9,c9,c9,c9,c9,trivial⟩,⟨u9,u9,trivial⟩⟩
    rintro _ _
    refine a6 _ rfl (fun r10=>?_) (fun r10=>?_)
    ·
     have h10:=r10
     have hs:dw (ms.getD j default) ((c5 (ms.take j) l).getD i default) = true:=r10
     have hl2:(stB (ms.getD j default) (c5 (ms.take j) l) (i + 1)).length = (stB (ms.getD j default) (c5 (ms.take j) l) i).length + 1:=by rw [abd hil hs,List.length_append,List.length_set];rfl
     refine fl ?_;refine b1p 7 32 rfl rfl rfl rfl rfl rfl (fun ad cap hcap=>?_) ?_
     ·
      refine w_6 ?_;refine m9 5 ?_;refine ra 6 true rfl rfl rfl rfl rfl rfl ?_;refine w_2 ?_;refine avw 7 32 rfl rfl rfl rfl (by dsimp only at *;omega) rfl ?_;refine w_7 ?_
      first | (refine ⟨(i + 1, true), ?_, ?_, ?_⟩
               · show i + 1 ≤ _;omega
               · first | omega | (dsimp only;omega)
               exact ⟨⟨⟨_,rfl,(CoR.of_eq (congrArg (fun z=>HR.v (.one (.ref 900 z))) hl2.symm))⟩,⟨_,rfl,(cob (s8 _ hil hs))⟩,⟨_,rfl,(CoR.refl _)⟩,⟨_,rfl,(CoR.of_eq (congrArg (fun z=>HR.v (.one (.win 900 z 0 _))) hl2.symm))⟩,c9,c9,c9,c9,c9,c9,trivial⟩,⟨⟨_,rfl,(sa hil hs rfl (i6 _ _) (CoP.of_eq (congrArg (fun z=>PV.raw (.int .u32 z)) (jd _ _))))⟩,u9,trivial⟩⟩)
            | (refine ⟨(i + 1,false), ?_, ?_, ?_⟩
               · show i + 1 ≤ _;omega
               · first | omega | (dsimp only;omega)
               exact ⟨⟨⟨_,rfl,(CoR.of_eq (congrArg (fun z=>HR.v (.one (.ref 951 z))) hl2.symm))⟩,⟨_,rfl,(cob (s8 _ hil hs))⟩,⟨_,rfl,(CoR.refl _)⟩,⟨_,rfl,(CoC.one (adu hil))⟩,c9,c9,c9,c9,c9,c9,trivial⟩,⟨⟨_,rfl,(sa hil hs rfl (i6 _ _) (CoP.of_eq (congrArg (fun z=>PV.raw (.int .u32 z)) (jd _ _))))⟩,u9,trivial⟩⟩)
            | (refine ⟨(i + 1,true), ?_, ?_, ?_⟩
               · show i + 1 ≤ _;omega
               · first | omega | (dsimp only;omega)
               exact ⟨⟨⟨_,rfl,(cz (ll hil hs))⟩,⟨_,rfl,(cob (a0l _ hil hs))⟩,⟨_,rfl,(CoR.refl _)⟩,⟨_,rfl,(CoR.of_eq (congrArg (fun z=>HR.v (.one (.win 900 z 0 _))) (congrArg List.length (ll hil hs)).symm))⟩,c9,c9,c9,c9,c9,c9,trivial⟩,⟨⟨_,rfl,(d4 (ll hil hs))⟩,u9,trivial⟩⟩)
     refine w_6 ?_;refine m9 950 ?_;refine ra 951 true rfl rfl rfl rfl rfl rfl ?_;refine w_9 ?_
     first | (refine ⟨(i + 1, true), ?_, ?_, ?_⟩
              · show i + 1 ≤ _;omega
              · first | omega | (dsimp only;omega)
              exact ⟨⟨⟨_,rfl,(CoR.of_eq (congrArg (fun z=>HR.v (.one (.ref 900 z))) hl2.symm))⟩,⟨_,rfl,(cob (s8 _ hil hs))⟩,⟨_,rfl,(CoR.refl _)⟩,⟨_,rfl,(CoR.of_eq (congrArg (fun z=>HR.v (.one (.win 900 z 0 _))) hl2.symm))⟩,c9,c9,c9,c9,c9,c9,trivial⟩,⟨⟨_,rfl,(sa hil hs rfl (i6 _ _) (CoP.of_eq (congrArg (fun z=>PV.raw (.int .u32 z)) (jd _ _))))⟩,u9,trivial⟩⟩)
           | (refine ⟨(i + 1,false), ?_, ?_, ?_⟩
              · show i + 1 ≤ _;omega
              · first | omega | (dsimp only;omega)
              exact ⟨⟨⟨_,rfl,(CoR.of_eq (congrArg (fun z=>HR.v (.one (.ref 951 z))) hl2.symm))⟩,⟨_,rfl,(cob (s8 _ hil hs))⟩,⟨_,rfl,(CoR.refl _)⟩,⟨_,rfl,(CoC.one (adu hil))⟩,c9,c9,c9,c9,c9,c9,trivial⟩,⟨⟨_,rfl,(sa hil hs rfl (i6 _ _) (CoP.of_eq (congrArg (fun z=>PV.raw (.int .u32 z)) (jd _ _))))⟩,u9,trivial⟩⟩)
           | (refine ⟨(i + 1,true), ?_, ?_, ?_⟩
              · show i + 1 ≤ _;omega
              · first | omega | (dsimp only;omega)
              exact ⟨⟨⟨_,rfl,(cz (ll hil hs))⟩,⟨_,rfl,(cob (a0l _ hil hs))⟩,⟨_,rfl,(CoR.refl _)⟩,⟨_,rfl,(CoR.of_eq (congrArg (fun z=>HR.v (.one (.win 900 z 0 _))) (congrArg List.length (ll hil hs)).symm))⟩,c9,c9,c9,c9,c9,c9,trivial⟩,⟨⟨_,rfl,(d4 (ll hil hs))⟩,u9,trivial⟩⟩)
    have h10:=r10
    have hs:dw (ms.getD j default) ((c5 (ms.take j) l).getD i default) = false:=r10
    refine w_5 ?_
    first | (refine ⟨(i + 1, true), ?_, ?_, ?_⟩
             · show i + 1 ≤ _;omega
             · first | omega | (dsimp only;omega)
             exact ⟨⟨⟨_,rfl,(CoR.of_eq (congrArg (fun z=>HR.v (.one (.ref 900 z))) hl2.symm))⟩,⟨_,rfl,(cob (s8 _ hil hs))⟩,⟨_,rfl,(CoR.refl _)⟩,⟨_,rfl,(CoR.of_eq (congrArg (fun z=>HR.v (.one (.win 900 z 0 _))) hl2.symm))⟩,c9,c9,c9,c9,c9,c9,trivial⟩,⟨⟨_,rfl,(sa hil hs rfl (i6 _ _) (CoP.of_eq (congrArg (fun z=>PV.raw (.int .u32 z)) (jd _ _))))⟩,u9,trivial⟩⟩)
          | (refine ⟨(i + 1,false), ?_, ?_, ?_⟩
             · show i + 1 ≤ _;omega
             · first | omega | (dsimp only;omega)
             exact ⟨⟨⟨_,rfl,(CoR.of_eq (congrArg (fun z=>HR.v (.one (.ref 951 z))) hl2.symm))⟩,⟨_,rfl,(cob (s8 _ hil hs))⟩,⟨_,rfl,(CoR.refl _)⟩,⟨_,rfl,(CoC.one (adu hil))⟩,c9,c9,c9,c9,c9,c9,trivial⟩,⟨⟨_,rfl,(sa hil hs rfl (i6 _ _) (CoP.of_eq (congrArg (fun z=>PV.raw (.int .u32 z)) (jd _ _))))⟩,u9,trivial⟩⟩)
          | (refine ⟨(i + 1,true), ?_, ?_, ?_⟩
             · show i + 1 ≤ _;omega
             · first | omega | (dsimp only;omega)
             exact ⟨⟨⟨_,rfl,(cz (ll hil hs))⟩,⟨_,rfl,(cob (a0l _ hil hs))⟩,⟨_,rfl,(CoR.refl _)⟩,⟨_,rfl,(CoR.of_eq (congrArg (fun z=>HR.v (.one (.win 900 z 0 _))) (congrArg List.length (ll hil hs)).symm))⟩,c9,c9,c9,c9,c9,c9,trivial⟩,⟨⟨_,rfl,(d4 (ll hil hs))⟩,u9,trivial⟩⟩)
   have h7:=of_decide_eq_false r7
   try simp only [ty] at h7
   obtain rfl:i = (c5 (ms.take j) l).length:=by omega
   refine w_5 ?_;refine ⟨j + 1, ?_, ?_, ?_⟩
   · show j + 1 ≤ _;omega
   · first | omega | (dsimp only;omega)
   exact ⟨⟨⟨_,rfl,(cz (by rw [zr (by omega),xn]))⟩,⟨_,rfl,(cob (by rw [acv (by omega),List.take_length]))⟩,zy,c9,c9,c9,trivial⟩,⟨⟨_,rfl,(d4 (by rw [zr (by omega),xn]))⟩,trivial⟩⟩
  have h2:=of_decide_eq_false r2
  try simp only [ty] at h2
  obtain rfl:j = ms.length:=by omega
  rw [show ms.take ms.length = ms from List.take_length]
  refine er ?_;refine ⟨(f - 1,c5 ms l,lj ms l), ?_, ?_, ?_⟩
  · exact hI2
  · exact b3t hf
  exact ⟨⟨zy,zy,c9,trivial⟩,⟨u9,trivial⟩⟩
 have h1:=r1
 obtain rfl:ag = false:=r1
 have hl:l = (blks ms (ar n &&& ~~~x)):=hI.f rfl
 subst hl
 refine w_2 ?_;refine bt 7 rfl rfl rfl ?_;refine w_2 ?_;refine rc rfl rfl rfl rfl rfl rfl uh (a28 (blks ms (ar n &&& ~~~x)) (Nat.le_trans (a8m hI.ok) (by decide))) (CoL.refl _) rfl rfl ?_;refine w_2 ?_
 exact hx8 rfl rfl rfl (CoL.refl _)
end Go.Hx
end
section
namespace Go.Hx
theorem b3k {f:Fd} {k:Nat} (h:k < (al f.rhs).length):(sgl f).getD k default = ⟨f.lhs,ajp ((al f.rhs).getD k default)⟩:=by
 unfold sgl
 simp [List.getD_eq_getElem?_getD,List.getElem?_eq_getElem h]
theorem a7c (f:Fd):(sgl f).length = (al f.rhs).length:=by unfold sgl;rw [List.length_map]
theorem agu {fs ms:List Fd} {i k:Nat} (h:k < (al (fs.getD i default).rhs).length):je fs ms i (k + 1) = je fs ms i k ++ [⟨(fs.getD i default).lhs,ajp ((al (fs.getD i default).rhs).getD k default)⟩]:=by
 rw [amn (by rw [a7c];exact h),b3k h]
theorem ai9 {fs ms:List Fd} {i:Nat} (h:i < fs.length):je fs ms (i + 1) 0 = je fs ms i (al (fs.getD i default).rhs).length:=by rw [atb h,a7c]
theorem b2t {a b:AS} {k:Nat} (h:sub a b) (hb:b >>> k = 0):a >>> k = 0:=by
 apply xv
 intro i hi
 have:=congrArg (fun z:AS=>z.getLsbD i) hb
 simp only [BitVec.getLsbD_ushiftRight] at this ⊢
 cases ha:a.getLsbD (k + i) with
 | false=>simp
 | true=>rw [cb.1 h _ (aq5 ha) ha] at this;simp at this
def a0j (b:AS) (f:Fd):Bool:=!decide ((f.rhs &&& ~~~f.lhs) &&& b = 0)
def ye (l:List Fd) (o b:AS):AS:=if bsz b = 1 then (if l.any (a0j b) = true then o ||| b else o) else o
def uj (l:List Fd) (o:AS) (bs:List AS):AS:=bs.foldl (ye l) o
theorem a14 {l:List Fd} {o:AS} {bs:List AS} {i:Nat} (h:i < bs.length):uj l o (bs.take (i + 1)) = ye l (uj l o (bs.take i)) (bs.getD i default):=by
 unfold uj
 rw [b6 h,List.foldl_append]
 rfl
section
variable {l:List Fd} {o:AS} {bs:List AS} {i:Nat}
theorem adh (h:i < bs.length) (hq:¬ bsz (bs.getD i default) = 1):uj l o (bs.take i) = uj l o (bs.take (i + 1)):=by rw [a14 h,ye,if_neg hq]
theorem ace (h:i < bs.length) (hq:bsz (bs.getD i default) = 1) (ha:l.any (a0j (bs.getD i default)) = false):uj l o (bs.take i) = uj l o (bs.take (i + 1)):=by rw [a14 h,ye,if_pos hq,if_neg (by rw [ha];decide)]
theorem af8 (h:i < bs.length) (hq:bsz (bs.getD i default) = 1) (ha:l.any (a0j (bs.getD i default)) = true):uj l o (bs.take i) ||| bs.getD i default = uj l o (bs.take (i + 1)):=by rw [a14 h,ye,if_pos hq,if_pos ha]
end
def en (n:Int) (l m:List Fd) (x:AS):List AS:=ord (blks (a36 l m) (ar n &&& ~~~x))
def aw3 (n:Int) (l m:List Fd) (x:AS):List AS:=if ckB n l m x = 0 then en n l m x else []
def wz (n:Int) (l m:List Fd) (x:AS):AS:=uj l x (en n l m x)
def ajg (n:Int) (l m:List Fd) (x:AS):AS:=if ckB n l m x = 0 then wz n l m x else 0
theorem ays (ms:List Fd) (rest:AS):OkB (blks ms rest):=by
 have:∀ (f:Nat) (l:List AS),OkB l → OkB (zp ms f l):=by
  intro f
  induction f with
  | zero=>intro l h;exact h
  | succ f ih =>
   intro l h
   unfold zp
   split
   · exact ih _ (a2p h)
   exact a2p h
 exact this _ _ (aaz rest)
theorem a54 (n:Int) (l m:List Fd) (x:AS):(en n l m x).length ≤ 4294967296:=Nat.le_trans (mo _) (a8m (ays _ _))
def o9 (p:AS) (bs:List AS):List AS:=(bs.filter fun b=>!decide (b &&& p = 0)).map fun b=>b &&& p
theorem a6l {p:AS} {bs:List AS} {i:Nat} (h:i < bs.length) (hq:¬ bs.getD i default &&& p = 0):o9 p (bs.take (i + 1)) = o9 p (bs.take i) ++ [bs.getD i default &&& p]:=by
 unfold o9
 rw [b6 h,List.filter_append,List.map_append,List.filter_cons,if_pos (by rw [decide_eq_false hq];rfl)]
 rfl
theorem a7u {p:AS} {bs:List AS} {i:Nat} (h:i < bs.length) (hq:bs.getD i default &&& p = 0):o9 p (bs.take (i + 1)) = o9 p (bs.take i):=by
 unfold o9
 rw [b6 h,List.filter_append,List.map_append,List.filter_cons,if_neg (by rw [decide_eq_true hq];decide)]
 simp
theorem acz (p:AS) (bs:List AS):(o9 p bs).length ≤ bs.length:=by
 unfold o9
 rw [List.length_map]
 exact List.length_filter_le _ _
def qr (n:Int) (l m:List Fd) (x p:AS):List AS:=ord (o9 p (en n l m x))
theorem ai4 (n:Int) (l m:List Fd) (x p:AS):(o9 p (en n l m x)).length ≤ 8589934592:=Nat.le_trans (acz _ _) (Nat.le_trans (a54 _ _ _ _) (by decide))
def ck4 (n:Int) (l m:List Fd) (s:AS):Int:=if n < 0 ∨ 8 < n then 7 else ckB n l m s
theorem azv {n:Int} {l m:List Fd} {s:AS} (h:n < 0 ∨ 8 < n):ck4 n l m s = 7:=if_pos h
theorem abn {n:Int} {l m:List Fd} {s:AS} (h:¬ (n < 0 ∨ 8 < n)):ck4 n l m s = ckB n l m s:=if_neg h
theorem afk {n:Int} {l m:List Fd} {s:AS} (h:ck4 n l m s = 0):0 ≤ n ∧ n ≤ 8 ∧ ckB n l m s = 0:=by
 unfold ck4 at h
 split at h
 · cases h
 exact ⟨by omega,by omega,h⟩
theorem a99 {n:Int} {l m:List Fd} {s t:AS} (h:ckB n l m s = 0) (ht:sub t s):ckB n l m t = 0:=akg (a71 h).1 (b2t ht (a71 h).2)
theorem b0r {n:Int} {l m:List Fd} {s t:AS} (h:ck4 n l m s = 0) (ht:sub t s):ck4 n l m t = 0:=by
 obtain ⟨h1,h2,h3⟩:=afk h
 rw [abn (by omega)]
 exact a99 h3 ht
def atw (n:Int) (l m:List Fd) (x p:AS):List AS:=if ck4 n l m (x ||| p) = 0 then qr n l m x p else []
def a5k (n:Int) (l m:List Fd) (p x:AS):Option Fd:=if p &&& ~~~(wz n l m x) = 0 then none else if 1 < (qr n l m x p).length then some ⟨x,(qr n l m x p).getD 0 default⟩ else none
def a88 (n:Int) (l m:List Fd) (p:AS):Option Fd:=(bi p).findSome? (a5k n l m p)
def aj4:Option Fd → Fd × Bool
 | some v=>(v,true)
 | none=>(⟨0,0⟩,false)
def a1y (n:Int) (l m:List Fd) (p:AS):Fd × Bool:=if ck4 n l m p = 0 then aj4 (a88 n l m p) else (⟨0,0⟩,false)
theorem b62 {n:Int} {l m:List Fd} {p:AS} (h:¬ ck4 n l m p = 0):a1y n l m p = (⟨0,0⟩,false):=if_neg h
theorem as4 {n:Int} {l m:List Fd} {p:AS} (h:ck4 n l m p = 0):a1y n l m p = aj4 (a88 n l m p):=if_pos h
theorem a1a {α β:Type} [Inhabited α] {f:α → Option β} {l:List α} {i:Nat} (h:i < l.length) (hn:(l.take i).findSome? f = none):(l.take (i + 1)).findSome? f = f (l.getD i default):=by
 rw [b6 h,List.findSome?_append,hn]
 simp only [List.findSome?_cons,List.findSome?_nil,Option.none_or]
 cases f (l.getD i default) <;> rfl
theorem at2 {α β:Type} [Inhabited α] {f:α → Option β} {l:List α} {i:Nat} {v:β} (h:i < l.length) (hn:(l.take i).findSome? f = none) (hv:f (l.getD i default) = some v):l.findSome? f = some v:=by
 have h1:=a1a h hn
 rw [hv] at h1
 rw [← List.take_append_drop (i + 1) l,List.findSome?_append,h1]
 rfl
theorem at6 {s z:AS} (h:z ∈ bi s):sub z s:=by
 unfold bi at h
 split at h
 · cases h
 exact vk.1 h
theorem a1m {α:Type} [Inhabited α] {l:List α} {i:Nat} (h:i < l.length):l.getD i default ∈ l:=by
 rw [List.getD_eq_getElem?_getD,List.getElem?_eq_getElem h]
 exact List.getElem_mem h
def be1 (V:AS → Option Fd):Prop:=∀ p v,V p = some v → sub (v.lhs ||| v.rhs) p ∧ v.lhs ||| v.rhs ≠ p ∧ p &&& ~~~v.rhs ≠ p
section
variable {V:AS → Option Fd}
def vF (V:AS → Option Fd) (s:AS):Fd:=(aj4 (V s)).1
def vBo (V:AS → Option Fd) (s:AS):Bool:=(aj4 (V s)).2
def b6k (V:AS → Option Fd) (s:AS):AS:=(vF V s).lhs ||| (vF V s).rhs
def b8y (V:AS → Option Fd) (s:AS):AS:=s &&& ~~~(vF V s).rhs
def ack (V:AS → Option Fd):Nat → List AS → List AS → List AS
 | 0,_,out=>out
 | n + 1,todo,out =>
  if todo.length = 0 then out
  else if vBo V (todo.getD (todo.length - 1) default) = true then ack V n (todo.take (todo.length - 1) ++ [b6k V (todo.getD (todo.length - 1) default),b8y V (todo.getD (todo.length - 1) default)]) out
  else ack V n (todo.take (todo.length - 1)) (out ++ [todo.getD (todo.length - 1) default])
def bej (V:AS → Option Fd) (p0:AS) (x:Nat × List AS × List AS):Prop:=ack V x.1 x.2.1 x.2.2 = ack V 6562 [p0] [] ∧ mr x.2.1 < x.1 ∧ x.2.2.length + x.1 ≤ 6562
def lvG (V:AS → Option Fd):Nat → AS → List AS
 | 0,s=>[s]
 | n + 1,s=>if vBo V s = true then lvG V n (b6k V s) ++ lvG V n (b8y V s) else [s]
end
def bdb (n:Int) (l m:List Fd):List AS:=ack (a88 n l m) 6562 [ar n] []
def bcf (n:Int) (l m:List Fd):List AS:=if ck4 n l m 0 = 0 then gt (bdb n l m) else []
end Go.Hx
end
section
namespace Go.Hx
open Go.Proofs
set_option maxRecDepth 100000
set_option maxHeartbeats 1000000
theorem b2l:goodFn Tryz.prog 112:=⟨Tryz.f112,Tryz.func112,by kernel_rfl,by kernel_rfl⟩
theorem b6j (ps:List AS):ae Tryz.prog 112 [pP (asl ps)] (ai [pA (orL ps)]):=by
 refine a8 (nt:=17) a7 Tryz.func112 rfl rfl l9 ?_;refine d7 ?_
 refine dg 0 rfl fun hn=>?_
 refine w_6 ?_
 refine aj (ι:=Nat) ⟨[(6,some _),(7,some _)],[]⟩ ⟨⟨c9,c9,trivial⟩,trivial⟩ (fun i=>⟨[(3,some (vA (orL (ps.take i)))),(8,some (vI i))],[]⟩) (fun i=>i ≤ ps.length) (fun i=>ps.length - i) (0) (Nat.zero_le _) ⟨⟨⟨_,rfl,(CoR.refl _)⟩,zy,trivial⟩,trivial⟩ ?_
 rintro i hi
 refine w_5 ?_;refine a6 _ rfl (fun r0=>?_) (fun r0=>?_)
 ·
  have h0:=of_decide_eq_true r0
  try simp only [ty] at h0
  refine a86 ?_;refine ⟨i + 1, ?_, ?_, ?_⟩
  · show i + 1 ≤ _;omega
  · first | omega | (dsimp only;omega)
  exact ⟨⟨⟨_,rfl,(dv (by rw [bOr,a5a (by omega)];rfl))⟩,zy,c9,c9,trivial⟩,trivial⟩
 have h0:=of_decide_eq_false r0
 try simp only [ty] at h0
 obtain rfl:i = ps.length:=by omega
 refine w_6 ?_
 exact hx8 rfl rfl rfl (⟨cci (by rw [List.take_length]),trivial⟩)
theorem apz:goodFn Tryz.prog 52:=⟨Tryz.f52,Tryz.func52,by kernel_rfl,by kernel_rfl⟩
theorem aik (n:Int) (ps:List AS):ae Tryz.prog 52 [pI n,pP (asl ps)] (ai [pI (lvE n ps)]):=by
 refine a8 (nt:=28) a7 Tryz.func52 rfl rfl l9 ?_;refine ez ?_;refine bc rfl rfl (fun r0=>?_) (fun r0=>?_)
 ·
  have h0:=of_decide_eq_true r0
  try simp only [ty] at h0
  (iterate 2 refine k9 (gtf r0) ?_);refine rq rfl rfl rfl rfl rfl ?_ (hp:=r0);refine w_2 ?_;refine a6 _ rfl (fun _=>?_) (fun e=>by cases e);refine w_4 ?_
  exact hx8 rfl rfl rfl (⟨cci (abp (by omega)).symm,trivial⟩)
 have h0:=of_decide_eq_false r0
 try simp only [ty] at h0
 (iterate 2 refine qy ?_ (hg:=(gff r0)));refine w_3 ?_;refine a6 _ rfl (fun r1=>?_) (fun r1=>?_)
 ·
  have h1:=r1
  have h1:=bu r0 h1
  have h1:=of_decide_eq_true h1
  try simp only [ty] at h1
  refine w_4 ?_
  exact hx8 rfl rfl rfl (⟨cci (abp (by omega)).symm,trivial⟩)
 have h1:=r1
 have h1:=bu r0 h1
 have h1:=of_decide_eq_false h1
 try simp only [ty] at h1
 have hz0:0 ≤ n:=by omega
 have hz1:n ≤ 16:=by omega
 refine w_7 ?_;refine a6 _ rfl (fun r2=>?_) (fun r2=>?_)
 ·
  have h2:=of_decide_eq_true r2
  try simp only [ty] at h2
  refine w_4 ?_
  exact hx8 rfl rfl rfl (⟨cci (b0d (by omega) (by omega)).symm,trivial⟩)
 have h2:=of_decide_eq_false r2
 try simp only [ty] at h2
 refine ct ?_;refine bp (E:=bm) a7 ax [0,1,2,3,4,5,6,7,8,9,10,11] ?_;refine w_4 ?_;refine bc rfl rfl (fun r3=>?_) (fun r3=>?_)
 ·
  have h3:=of_decide_eq_true r3
  try simp only [ty] at h3
  (iterate 6 refine k9 (gtf r3) ?_);refine rq rfl rfl rfl rfl rfl ?_ (hp:=r3);refine w_2 ?_;refine ⟨by kernel_rfl, ?_⟩;refine a6 _ rfl (fun _=>?_) (fun e=>by cases e);refine w_4 ?_
  exact hx8 rfl rfl rfl (⟨cci (abc (by omega) (by omega) (by first | exact .inl (by omega) | exact .inr (fun e=>absurd (show asI (orL ps) = IntKind.wrap .u32 (1 * 2 ^ (min n.toNat 32)) - 1 by rw [p8 hz0 hz1,e]) (by assumption)))).symm,trivial⟩)
 have h3:=of_decide_eq_false r3
 try simp only [ty] at h3
 refine qy ?_ (hg:=(gff r3));refine rc rfl rfl rfl rfl rfl rfl b2l (b6j ps) (CoL.refl _) rfl (gff r3) ?_;(iterate 2 refine qy ?_ (hg:=(gff r3)))
 refine rq rfl rfl rfl rfl (gff r3) ?_ (hp:=⟨vd hz0 hz1,s6 hz0 hz1⟩);refine qy ?_ (hg:=(gff r3));refine w_3 ?_;refine ⟨by kernel_rfl, ?_⟩;refine a6 _ rfl (fun r4=>?_) (fun r4=>?_)
 ·
  have h4:=r4
  have h4:=bu r3 h4
  have h4:=of_decide_eq_false (ap h4)
  try simp only [ty] at h4
  refine w_4 ?_
  exact hx8 rfl rfl rfl (⟨cci (abc (by omega) (by omega) (by first | exact .inl (by omega) | exact .inr (fun e=>absurd (show asI (orL ps) = IntKind.wrap .u32 (1 * 2 ^ (min n.toNat 32)) - 1 by rw [p8 hz0 hz1,e]) (by assumption)))).symm,trivial⟩)
 have h4:=r4
 have h4:=bu r3 h4
 have h4:=of_decide_eq_true (am h4)
 try simp only [ty] at h4
 refine w_6 ?_;refine ⟨.inr rfl, ?_⟩
 exact ⟨_,_,_,_,rfl,(by (repeat' apply And.intro) <;> first | trivial | exact Nat.le_of_ble_eq_true rfl | rfl),rfl,(by (repeat' apply And.intro) <;> first | trivial | exact Nat.le_of_ble_eq_true rfl | rfl),⟨cci (azq (by omega) (by omega) (fun e=>by
  rcases e with e | e
  · omega
  exact e (c6.1 ((by assumption:asI (orL ps) = IntKind.wrap .u32 (1 * 2 ^ (min n.toNat 32)) - 1).trans (p8 hz0 hz1))))).symm,trivial⟩⟩
theorem aie:goodFn Tryz.prog 100:=⟨Tryz.f100,Tryz.func100,by kernel_rfl,by kernel_rfl⟩
theorem ai3 (n:Int) (ps:List AS) (p m:List Fd):ae Tryz.prog 100 [pI n,pP (asl ps),pP (fdl p),pP (fdl m)] (ai [pT (lcR n ps p m).1.1 (lcR n ps p m).1.2,pP (stl (lcR n ps p m).2.1),pT (lcR n ps p m).2.2.1.1 (lcR n ps p m).2.2.1.2,pI (lcR n ps p m).2.2.2]):=by
 refine a8 (nt:=58) a7 Tryz.func100 rfl rfl l9 ?_;refine sx7 ?_;refine m9 0 ?_;refine qy ?_;refine m9 1 ?_;refine w_7 ?_;refine rc rfl rfl rfl rfl rfl rfl apz (aik n ps) (CoL.refl _) rfl rfl ?_
 refine w_7 ?_;refine a6 _ rfl (fun r0=>?_) (fun r0=>?_)
 ·
  have h0:=r0
  have h0:=of_decide_eq_false (ap h0)
  try simp only [ty] at h0
  refine ez ?_;refine ⟨.inr rfl, ?_⟩
  have he:=bbm (p:=p) (m:=m) (by assumption:¬ lvE n ps = 0)
  exact f9 rfl rfl (by rw [he];exact ⟨CoC.agg ⟨CoP.refl _,df,trivial⟩,CoC.one (CoP.sl rfl (.inr rfl) (fun _=>rfl) (fun i j hi _=>absurd hi (Nat.not_lt_zero i))),CoC.agg ⟨CoP.refl _,df,trivial⟩,CoC.refl _,trivial⟩)
 have h0:=r0
 have h0:=of_decide_eq_true (am h0)
 try simp only [ty] at h0
 have hv:lvE n ps = 0:=by assumption
 refine w_7 ?_;refine rc rfl rfl rfl rfl rfl rfl y4 (uc n p m) (CoL.refl _) rfl rfl ?_;refine w_7 ?_;refine a6 _ rfl (fun r1=>?_) (fun r1=>?_)
 ·
  have h1:=r1
  have h1:=of_decide_eq_false (ap h1)
  try simp only [ty] at h1
  refine ez ?_;refine ⟨.inr rfl, ?_⟩
  have he:=bbr hv (by assumption:¬ bw n p m = 0)
  exact f9 rfl rfl (by rw [he];exact ⟨CoC.agg ⟨CoP.refl _,df,trivial⟩,CoC.one (CoP.sl rfl (.inr rfl) (fun _=>rfl) (fun i j hi _=>absurd hi (Nat.not_lt_zero i))),CoC.agg ⟨CoP.refl _,df,trivial⟩,CoC.refl _,trivial⟩)
 have h1:=r1
 have h1:=of_decide_eq_true (am h1)
 try simp only [ty] at h1
 have hb:bw n p m = 0:=by assumption
 refine w_5 ?_;refine rc rfl rfl rfl rfl rfl rfl b18 (b24 n ps hv) (CoL.refl _) rfl rfl ?_;refine w_3 ?_;refine m9 2 ?_;refine w_9 ?_;refine a6 _ rfl (fun e=>by cases e) (fun _=>?_);refine w_6 ?_
 refine rc rfl rfl rfl rfl rfl rfl b4v (b56 n ps p m) (CoL.refl _) rfl rfl ?_;refine w_4 ?_;refine m9 3 ?_;refine w_5 ?_;refine bp (E:=bm) a7 ax [0,1,2,3,4,5,6,7] ?_;refine w_9 ?_
 refine ⟨by kernel_rfl, ?_⟩;refine gn ?_;refine ⟨.inr rfl, ?_⟩
 have he:=akh hv hb
 exact f9 rfl rfl (by rw [he];exact CoL.refl _)
theorem ahg:goodFn Tryz.prog 102:=⟨Tryz.f102,Tryz.func102,by kernel_rfl,by kernel_rfl⟩
theorem agt (n:Int) (h0:0 ≤ n) (h1:n ≤ 16):ae Tryz.prog 102 [pI n] (ai [pZ (dx n)]):=by
 refine a8 (nt:=18) a7 Tryz.func102 rfl rfl l9 ?_;refine w_7 ?_;refine m9 0 ?_;refine d7 ?_
 refine aj (ι:=Nat) ⟨[(3,some _),(8,some _)],[]⟩ ⟨⟨c9,c9,trivial⟩,trivial⟩ (fun k=>⟨[(9,some (vI k))],[(0,some (.arr true 1 3 n.toNat (lf zC (stT n 0 (iu 32) k))))]⟩) (fun k=>k ≤ n.toNat) (fun k=>n.toNat - k) (0) (Nat.zero_le _) ⟨⟨zy,trivial⟩,⟨⟨_,rfl,(acj rfl (fun _=>rfl))⟩,trivial⟩⟩ ?_
 rintro k hk
 refine w_5 ?_;refine a6 _ rfl (fun r0=>?_) (fun r0=>?_)
 ·
  have h0:=of_decide_eq_true r0
  try simp only [ty] at h0
  refine a86 ?_;refine ⟨k + 1, ?_, ?_, ?_⟩
  · show k + 1 ≤ _;omega
  · first | omega | (dsimp only;omega)
  exact ⟨⟨zy,c9,c9,trivial⟩,⟨⟨_,rfl,(b86 (aqc (by omega)) rfl (by omega))⟩,trivial⟩⟩
 have h0:=of_decide_eq_false r0
 try simp only [ty] at h0
 refine w_2 ?_;refine bt 3 rfl rfl rfl ?_;refine w_4 ?_
 exact hx8 rfl rfl rfl (⟨ao2 h1 (by omega),trivial⟩)
theorem b84:goodFn Tryz.prog 45:=⟨Tryz.f45,Tryz.func45,by kernel_rfl,by kernel_rfl⟩
theorem bcs (n:Int) (ps:List AS) (p m:List Fd):ae Tryz.prog 45 [pI n,pP (asl ps),pP (fdl p),pP (fdl m)] (ai [pB (lsB n ps p m),pI (lsC n ps p m)]):=by
 refine a8 (nt:=33) a7 Tryz.func45 rfl rfl l9 ?_;refine ez ?_;refine rc rfl rfl rfl rfl rfl rfl aie (ai3 n ps p m) (CoL.refl _) rfl rfl ?_;refine w_5 ?_;refine m9 0 ?_;refine m9 1 ?_;refine w_6 ?_
 refine bp (E:=bm) a7 ax [0,1,2,3,4,5,6,7,8,9,10] ?_;refine w_3 ?_;refine bc rfl rfl (fun r0=>?_) (fun r0=>?_)
 ·
  have h0:=of_decide_eq_true r0
  try simp only [ty] at h0
  have hz:=bde (n:=n) (ps:=ps) (p:=p) (m:=m) rfl h0
  (iterate 2 refine qy ?_ (hg:=(gtt r0)));refine rc rfl rfl rfl rfl rfl rfl ahg (agt n hz.1 (by omega)) (CoL.refl _) rfl (gtt r0) ?_
  refine rc rfl rfl rfl rfl rfl rfl a9h (ajs (lcR n ps p m).2.2.1.1 (lcR n ps p m).2.2.1.2 (dx n)) (CoL.refl _) rfl (gtt r0) ?_;refine w_5 ?_;refine ⟨by kernel_rfl, ?_⟩
  exact hx8 rfl rfl rfl (⟨ccb (by first | exact b8e | exact ay6 (n:=n) (ps:=ps) (p:=p) (m:=m) (by assumption) | exact (axq (n:=n) (ps:=ps) (p:=p) (m:=m) (by assumption)).symm),cci ly,trivial⟩)
 have h0:=of_decide_eq_false r0
 try simp only [ty] at h0
 (iterate 4 refine k9 (gft r0) ?_);refine rq rfl rfl rfl rfl rfl ?_ (hp:=r0);refine w_4 ?_;refine ⟨by kernel_rfl, ?_⟩
 exact hx8 rfl rfl rfl (⟨ccb (by first | exact b8e | exact ay6 (n:=n) (ps:=ps) (p:=p) (m:=m) (by assumption) | exact (axq (n:=n) (ps:=ps) (p:=p) (m:=m) (by assumption)).symm),cci ly,trivial⟩)
theorem b5y:goodFn Tryz.prog 62:=⟨Tryz.f62,Tryz.func62,by kernel_rfl,by kernel_rfl⟩
theorem ay7 (n:Int) (ps:List AS):ae Tryz.prog 62 [pI n,pP (asl ps)] (ai [pI (lvE n ps)]):=by
 refine a8 (nt:=37) a7 Tryz.func62 rfl rfl l9 ?_;refine d7 ?_;refine bc rfl rfl (fun r0=>?_) (fun r0=>?_)
 ·
  have h0:=of_decide_eq_true r0
  try simp only [ty] at h0
  (iterate 2 refine k9 (gtf r0) ?_);refine rq rfl rfl rfl rfl rfl ?_ (hp:=r0);refine b8 ?_;refine a6 _ rfl (fun _=>?_) (fun e=>by cases e);refine w_4 ?_
  exact hx8 rfl rfl rfl (⟨cci (abp (by omega)).symm,trivial⟩)
 have h0:=of_decide_eq_false r0
 try simp only [ty] at h0
 (iterate 2 refine qy ?_ (hg:=(gff r0)));refine w_2 ?_;refine a6 _ rfl (fun r1=>?_) (fun r1=>?_)
 ·
  have h1:=r1
  have h1:=bu r0 h1
  have h1:=of_decide_eq_true h1
  try simp only [ty] at h1
  refine w_4 ?_
  exact hx8 rfl rfl rfl (⟨cci (abp (by omega)).symm,trivial⟩)
 have h1:=r1
 have h1:=bu r0 h1
 have h1:=of_decide_eq_false h1
 try simp only [ty] at h1
 refine w_8 ?_;refine a6 _ rfl (fun r2=>?_) (fun r2=>?_)
 ·
  have h2:=of_decide_eq_true r2
  try simp only [ty] at h2
  refine w_4 ?_
  exact hx8 rfl rfl rfl (⟨cci (b0d (by omega) (by omega)).symm,trivial⟩)
 have h2:=of_decide_eq_false r2
 try simp only [ty] at h2
 refine ez ?_
 refine aj (ι:=Nat) ⟨[(0,some _),(1,some _)],[]⟩ ⟨⟨c9,c9,trivial⟩,trivial⟩ (fun i=>⟨[(5,some (vA (orL (ps.take i)))),(6,some (vI i))],[]⟩) (fun i=>i ≤ ps.length) (fun i=>ps.length - i) (0) (Nat.zero_le _) ⟨⟨⟨_,rfl,(CoR.refl _)⟩,zy,trivial⟩,trivial⟩ ?_
 rintro i hi
 refine w_8 ?_;refine a6 _ rfl (fun r3=>?_) (fun r3=>?_)
 ·
  have h3:=of_decide_eq_true r3
  try simp only [ty] at h3
  refine akn ?_;refine ⟨i + 1, ?_, ?_, ?_⟩
  · show i + 1 ≤ _;omega
  · first | omega | (dsimp only;omega)
  exact ⟨⟨⟨_,rfl,(dv (by rw [bOr,a5a (by omega)];rfl))⟩,zy,c9,c9,trivial⟩,trivial⟩
 have h3:=of_decide_eq_false r3
 try simp only [ty] at h3
 obtain rfl:i = ps.length:=by omega
 rw [show ps.take ps.length = ps from List.take_length]
 refine w_8 ?_;refine bc rfl rfl (fun r4=>?_) (fun r4=>?_)
 ·
  have h4:=of_decide_eq_true r4
  try simp only [ty] at h4
  (iterate 4 refine k9 (gtf r4) ?_);refine rq rfl rfl rfl rfl rfl ?_ (hp:=r4);refine b8 ?_;refine a6 _ rfl (fun _=>?_) (fun e=>by cases e);refine w_4 ?_
  exact hx8 rfl rfl rfl (⟨cci (abc (by omega) (by omega) (by first | exact .inl (by omega) | exact .inr (fun e=>absurd (show asI (orL ps) = asI (ar n) by rw [e]) (by assumption)))).symm,trivial⟩)
 have h4:=of_decide_eq_false r4
 try simp only [ty] at h4
 (iterate 2 refine qy ?_ (hg:=(gff r4)));refine rc rfl rfl rfl rfl rfl rfl adr (adg n) (CoL.refl _) rfl (gff r4) ?_;refine qy ?_ (hg:=(gff r4));refine w_2 ?_;refine a6 _ rfl (fun r5=>?_) (fun r5=>?_)
 ·
  have h5:=r5
  have h5:=bu r4 h5
  have h5:=of_decide_eq_false (ap h5)
  try simp only [ty] at h5
  refine w_4 ?_
  exact hx8 rfl rfl rfl (⟨cci (abc (by omega) (by omega) (by first | exact .inl (by omega) | exact .inr (fun e=>absurd (show asI (orL ps) = asI (ar n) by rw [e]) (by assumption)))).symm,trivial⟩)
 have h5:=r5
 have h5:=bu r4 h5
 have h5:=of_decide_eq_true (am h5)
 try simp only [ty] at h5
 refine w_6 ?_;refine ⟨.inr rfl, ?_⟩
 exact ⟨_,_,_,_,rfl,(by (repeat' apply And.intro) <;> first | trivial | exact Nat.le_of_ble_eq_true rfl | rfl),rfl,(by (repeat' apply And.intro) <;> first | trivial | exact Nat.le_of_ble_eq_true rfl | rfl),⟨cci (azq (by omega) (by omega) (fun e=>by
  rcases e with e | e
  · omega
  exact e (c6.1 (by assumption)))).symm,trivial⟩⟩
theorem b6t:goodFn Tryz.prog 68:=⟨Tryz.f68,Tryz.func68,by kernel_rfl,by kernel_rfl⟩
theorem b76:goodFn Tryz.prog 28:=⟨Tryz.f28,Tryz.func28,by kernel_rfl,by kernel_rfl⟩
theorem b7j:goodFn Tryz.prog 47:=⟨Tryz.f47,Tryz.func47,by kernel_rfl,by kernel_rfl⟩
end Go.Hx
end

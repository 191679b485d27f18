/- A part of the proof: Jw5 Jw6 Bz6 Bz7 Bz8 Bz9 Y12 Jw7 Jw8 Jrw9. -/
import Derived.Test.YteklilhbjjofbaaGreatDoorLe34
set_option linter.all false
set_option maxRecDepth 100000
set_option maxHeartbeats 1000000
namespace Go.Hx
section
open Go.Proofs
def au4 (n:Int) (ps:List AS) (p m:List Fd):aa b65 21 [pI n,pP (asl ps),pP (fdl p),pP (fdl m)] (af [pP (stl (prS n ps p m)),pI (prC n ps p m)]):=by
 refine hpx (nt:=55) Tryz.func21 ?_;refine j5 ?_;refine qcx abk (a6a n ps p m) ?_;refine w_5 ?_;refine m9 0 ?_;refine m9 1 ?_;refine j5 ?_;refine hcn (fun h0=>?_) (fun h0=>?_)
 · refine w_6 ?_;refine hrr ?_;obtain ⟨e1,e2⟩:=auq (p:=p) (m:=m) (n:=n) (ps:=ps) (by rw [<- gq];assumption);exact f9 rfl rfl (⟨(by rw [e1];exact CoC.one (CoP.sl rfl (.inr rfl) (fun _=>rfl) (fun i j hi _=>absurd hi (b2o i)))),cci (gq.trans e2.symm),trivial⟩)
 have hls:lsC n ps p m = 0:=gq.symm.trans b5i;obtain ⟨hv,hb,hc,hR⟩:=ajz hls;have hz:=agq hv;have htr:=au7 hv hb hc;have hfew:(lsT n ps p m).1.length <= 1300000:=aq4 (p:=p) (m:=m) hv hb;refine w_6 ?_;refine ai (ι:=Nat) (ka 0 (ka 2 (ka 3 (ka 10 kn)))) km (fun i=>⟨[(14,some (vI i)),(11,some (vP (stl (lsT n ps p m).1)))],[(0,some (.box [.p (.raw (.int .i64 n)), .p (rl ((trL n p m (au (av n ps)) (lsT n ps p m).1).getD i default))]))]⟩) (fun i=>i <= (lsT n ps p m).1.length /\ (∀ j,j < i -> kr n ((trL n p m (au (av n ps)) (lsT n ps p m).1).getD j default) = false)) (fun i=>(lsT n ps p m).1.length - i) (0) (⟨b2n _,fun j hj=>absurd hj (b2o j)⟩) ⟨⟨zy,⟨_,rfl,(by rw [hR];exact CoR.refl _)⟩,trivial⟩,⟨⟨_,rfl,(by rw [hR,aq3];exact CoO.refl _)⟩,trivial⟩⟩ ?_;rintro i ⟨hi,hI⟩;refine w_7 ?_;refine qcx a3i (a0c n hz.1 b5h) ?_;refine qcx zw (a4d n ((trL n p m (au (av n ps)) (lsT n ps p m).1).getD i default) (cu n)) ?_;refine w_2 ?_;refine aj _ rfl (fun r1=>?_) (fun r1=>?_)
 · have h1:=r1;obtain ⟨e1,e2⟩:=atu hls hi hI r1;refine v_8 ?_;exact by rw [e1,e2];exact ⟨CoC.one (al0 (by rw [b2y];dsimp only [fu,bo];omega) (fun a j=>by first | rfl | (simp;rfl))),CoC.refl _,trivial⟩
 have h1:=r1;have hno:kr n ((trL n p m (au (av n ps)) (lsT n ps p m).1).getD i default) = false:=r1;refine w_9 ?_;refine hcd (fun h2=>?_) (fun h2=>?_)
 ·
  obtain ⟨e1,e2⟩:=aqk hls fun j hj=>by
   by_cases e:j = i
   · rw [e];exact hno
   exact hI j b5h
  refine v_5 ?_;exact by rw [e1,e2];exact ⟨CoC.one (CoP.sl rfl (.inr rfl) (fun _=>rfl) (fun i j hi _=>absurd hi (b2o i))),CoC.refl _,trivial⟩
 obtain ⟨hx1,hx2,hx3⟩:=axd b5h (aoz htr (i:=i) b5h);refine dy ?_;refine qcx (wgx Tryz.func48) (ahq n ((trL n p m (au (av n ps)) (lsT n ps p m).1).getD i default) p m ((lsT n ps p m).1.getD i default) hx1 hb hx2 hx3) ?_;refine acb ?_;refine lpz (i + 1) ⟨tt,⟨⟨_,rfl,(by rw [afi b5h];exact CoO.refl _)⟩,trivial⟩⟩ ?_;refine ⟨by omega,fun j hj=>?_⟩;by_cases e:j = i
 · rw [e];exact hno
 exact hI j b5h
def arb (n:Int) (ps:List AS) (p m:List Fd) (sts:List RSt):aa b65 24 [pI n,pP (asl ps),pP (fdl p),pP (fdl m),pP (alc sts)] (af [pB (vk n ps p m sts)]):=by
 refine hpx (nt:=57) Tryz.func24 ?_;refine w_9 ?_;refine qcx ab9 (a61 n ps) ?_;refine w_2 ?_;refine ab rfl rfl (fun r0=>?_) (fun r0=>?_)
 ·
  have h0:=tz2 (ec r0);(iterate 5 refine k9 (gtf r0) ?_);refine w_7 ?_
  exact hx8 rfl rfl rfl (⟨ccb (by first | exact (ai7 b5i).symm | exact (aki b5i).symm | (symm;simp_all [vk])),trivial⟩)
 have h0:=tz1 (eg r0);(iterate 3 refine qy ?_ (hg:=(gff r0)));refine qcx ac5 (a6v n p m) ?_ (hg:=(gff r0));refine qy ?_ (hg:=(gff r0));refine w_2 ?_;refine aj _ rfl (fun r1=>?_) (fun r1=>?_)
 · have h1:=tz2 (ec (ao r0 r1));refine v_4 ?_;exact ⟨ccb (by first | exact (ai7 b5i).symm | exact (aki b5i).symm | (symm;simp_all [vk])),trivial⟩
 have h1:=tz1 (eg (ao r0 r1));have hv:lvE n ps = 0:=by simp_all
 have hb:cj n p m = 0:=by simp_all
 have hz:=agq hv;refine w_5 ?_;refine qcx (wgx Tryz.func53) (aeh n ps hv) ?_;refine w_3 ?_;refine m9 0 ?_;refine j5 ?_;refine ai (ι:=Nat × Int × List Rw × Int) (ka 0 (ka 2 (ka 3 (ka 11 (ka 32 (ka 33 kn)))))) km (fun x=>⟨[(12,some (vI x.2.2.2)),(34,some (vI x.1))],[(0,some (.box [.p (.raw (.int .i64 x.2.1)), .p (rl x.2.2.1)]))]⟩) (fun x=>xx n ps p m sts x) (fun x=>sts.length - x.1) ((0,n,(au (av n ps)),0)) (xx.start) kk ?_;rintro x hC;have hle:=hC.le;refine dn ?_;refine df 32 rfl fun hsn=>?_;refine w_4 ?_;refine hcd (fun h2=>?_) (fun h2=>?_)
 ·
  refine w_7 ?_;refine m9 1 ?_;refine w_8 ?_;refine hcn (fun h3=>?_) (fun h3=>?_)
  · refine v_4 ?_;exact ⟨ccb (by rw [aa7 hv hb];exact (hC.no b5i).symm),trivial⟩
  refine w_6 ?_;refine qcx (wgx Tryz.func48) (ae3 x.2.1 x.2.2.1 p m (sts.getD x.1 default).1 (sts.getD x.1 default).2.1 (sts.getD x.1 default).2.2.1 (sts.getD x.1 default).2.2.2) ?_;refine dy ?_;refine lpz (x.1 + 1,(xa x.2.1 x.2.2.1 p m (sts.getD x.1 default)).1,(xa x.2.1 x.2.2.1 p m (sts.getD x.1 default)).2.1,(xa x.2.1 x.2.2.1 p m (sts.getD x.1 default)).2.2) ⟨⟨⟨_,rfl,(CoR.refl _)⟩,⟨_,rfl,(coi b5m)⟩,tt⟩,uu⟩ ?_;exact hC.step b5h b5i
 have hend:¬ x.1 < sts.length:=by omega
 refine w_6 ?_;refine ab rfl rfl (fun r4=>?_) (fun r4=>?_)
 ·
  have h4:=tz1 r4;(iterate 2 refine qy ?_ (hg:=(gtt r4)));refine qcx a3i (a0c n hz.1 b5h) ?_ (hg:=(gtt r4));refine qcx zw (a4d x.2.1 x.2.2.1 (cu n)) ?_ (hg:=(gtt r4));refine w_4 ?_
  exact hx8 rfl rfl rfl (⟨ccb (by rw [aa7 hv hb];first | exact (hC.no b5i).symm | (refine Eq.trans ?_ (hC.no b5i).symm;simp_all;done) | (refine Eq.trans ?_ (hC.fin hend b5i).symm;first | rfl | (simp_all;done) | (simp_all;rfl))),trivial⟩)
 have h4:=tz2 r4;(iterate 4 refine k9 (gft r4) ?_);refine w_4 ?_
 exact hx8 rfl rfl rfl (⟨ccb (by rw [aa7 hv hb];first | exact (hC.no b5i).symm | (refine Eq.trans ?_ (hC.no b5i).symm;simp_all;done) | (refine Eq.trans ?_ (hC.fin hend b5i).symm;first | rfl | (simp_all;done) | (simp_all;rfl))),trivial⟩)
def ay8 (n:Int) (ps:List AS) (p m:List Fd):aa b65 27 [pI n,pP (asl ps),pP (fdl p),pP (fdl m)] (af [(acj n ps p m).pc,pI (ss n ps p m)]):=by
 refine hpx (nt:=88) Tryz.func27 ?_;refine sx7 ?_;refine m9 0 ?_;refine w_8 ?_;refine qcx abk (a6a n ps p m) ?_;refine w_5 ?_;refine m9 1 ?_;refine m9 2 ?_;refine j5 ?_;refine hcn (fun h0=>?_) (fun h0=>?_)
 · refine w_7 ?_;refine hrr ?_;obtain ⟨e1,e2⟩:=at7 (p:=p) (m:=m) (n:=n) (ps:=ps) (by rw [<- gq];assumption);exact f9 rfl rfl (⟨(by rw [e2];exact CoC.agg ⟨CoP.refl _,kx,kx,trivial⟩),cci (gq.trans e1.symm),trivial⟩)
 have hls:lsC n ps p m = 0:=gq.symm.trans b5i;obtain ⟨hv,hb,hc,hR⟩:=ajz hls;have hz:=agq hv;obtain ⟨sts0,lend,he0,_,htk,_⟩:=ai1 hv hb hc;have htok:tok n (lsT n ps p m).2.1.2 = true:=by rw [he0];exact htk
 obtain ⟨_,_,hl256,hlen⟩:=iw htok;refine w_6 ?_;refine qcx a3i (a0c n hz.1 b5h) ?_;refine qcx zw (a4d (lcR n ps p m).2.2.1.1 (lcR n ps p m).2.2.1.2 (cu n)) ?_;refine w_2 ?_;refine aj _ rfl (fun r1=>?_) (fun r1=>?_)
 ·
  have h1:=r1;have hf:kr n (lsT n ps p m).2.1.2 = true:=by have hq:=r1;rw [hR] at hq;exact hq
  refine w_6 ?_;refine hrr ?_;obtain ⟨e1,e2⟩:=avk hls hf;exact f9 rfl rfl (⟨(by rw [e2];exact CoC.agg ⟨CoP.refl _,kx,kx,trivial⟩),cci e1.symm,trivial⟩)
 have h1:=r1;have hf:kr n (lsT n ps p m).2.1.2 = false:=by have hq:=r1;rw [hR] at hq;exact hq
 refine w_4 ?_;refine m9 3 ?_;refine w_9 ?_;refine ep 3 1 30 true 1 9 (lf xr jp) b5n rfl rfl (CoP.sl rfl (.inr rfl) (fun h=>h) (fun i j hi _=>absurd hi (b2o i))) (.inr rfl) rfl rfl ?_;refine c7 (ka 8 (ka 12 (ka 14 (ka 41 kn)))) (kb 0 (kb 2 km)) (fun a=>⟨[(42,some (vI a))],[(3,some (.box [.p (.raw (.string ⟨#[116]⟩)), .ref 30 a, .p (ju (.slice none 0 0))])),(30,some (.arr true 1 9 a (lf xr jp)))]⟩) n.toNat kk ?_;rintro a ha;refine w_5 ?_;refine hcd (fun h2=>?_) (fun h2=>?_)
 · refine tk ?_;refine m9 4 ?_;refine Go.Hx.r9 5 true ?_;refine w_7 ?_;exact lpx (a + 1) ⟨tt,⟨u9,⟨_,rfl,(li (fun h=>h) (lt1 (CoP.of_eq (congrArg (fun s=>PV.raw (.string s)) (ak2 b5h)))))⟩,uu⟩⟩
 obtain rfl:a = n.toNat:=by omega
 refine w_3 ?_;refine ct 3 1 rfl rfl rfl rfl rfl ?_;refine w_7 ?_;refine ep 3 2 31 true 2 112 (lf Row.c (xy (lsT n ps p m).2.1.2)) b5n rfl rfl (CoP.sl rfl (.inr rfl) (fun h=>h) (fun i j hi _=>absurd hi (b2o i))) (.inr rfl) rfl rfl ?_;refine c7 (ka 8 (ka 14 kn)) (kb 0 km) (fun i=>⟨[(58,some (vI i)),(56,some (vP (rl (lsT n ps p m).2.1.2))),(57,some (vI (lsT n ps p m).2.1.2.length))],[(3,some (.box [.p (.raw (.string ⟨#[116]⟩)), .p (.sl n.toNat 1 false (lf xr jp)), .ref 31 i])),(31,some (.arr true 2 112 i (lf Row.c (xy (lsT n ps p m).2.1.2))))]⟩) ((lsT n ps p m).2.1.2.length) ⟨⟨zy,⟨_,rfl,(by rw [hR];exact CoR.refl _)⟩,⟨_,rfl,(by rw [hR];exact CoR.refl _)⟩,trivial⟩,uu⟩ ?_;rintro i hi;refine w_5 ?_;refine hcd (fun h3=>?_) (fun h3=>?_)
 ·
  refine vc ?_;refine m9 6 ?_;refine dy ?_;refine ep 6 1 32 true 3 114 (lf Val.c (yl ((lsT n ps p m).2.1.2.getD i default))) b5n rfl rfl (CoP.sl rfl (.inr rfl) (fun h=>h) (fun i j hi _=>absurd hi (b2o i))) (.inr rfl) rfl rfl ?_;refine c7 (ka 8 (ka 14 (ka 18 (ka 56 (ka 57 (ka 58 (ka 66 (ka 67 kn)))))))) (kb 3 (kb 31 (kb 0 km))) (fun k=>⟨[(68,some (vI k))],[(6,some (.box [.p (.raw (.int .i64 ((i:Int) + 1))), .ref 32 k])),(32,some (.arr true 3 114 k (lf Val.c (yl ((lsT n ps p m).2.1.2.getD i default)))))]⟩) (((lsT n ps p m).2.1.2.getD i default).length) kk ?_;rintro k hk;have hrl:=hlen i b5h;refine w_5 ?_;refine hcd (fun h4=>?_) (fun h4=>?_)
  ·
   refine j3 ?_;refine qcx (wgx Tryz.func58) (ayp _) ?_;refine m9 7 ?_;refine Go.Hx.r9 8 true ?_;refine w_8 ?_;refine ⟨k + 1, ?_, ?_, ?_⟩
   · show k + 1 <= _;omega
   · first | omega | (dsimp only;omega)
   exact ⟨tt,⟨u9,⟨_,rfl,(li (fun h=>h) fun j hj=>by
   show CoP _ (Val.c ((yl _).getD k default) j);rw [anp b5h];revert j
   exact sw (CoP.refl _) (CoP.refl _) (CoP.refl _))⟩,uu⟩⟩
  obtain rfl:k = ((lsT n ps p m).2.1.2.getD i default).length:=by omega
  refine c6 ?_;refine ct 6 1 rfl rfl rfl rfl rfl ?_;refine w_4 ?_;refine m9 9 ?_;refine Go.Hx.r9 10 true ?_;refine w_7 ?_;refine ⟨i + 1, ?_, ?_, ?_⟩
  · show i + 1 <= _;omega
  · first | omega | (dsimp only;omega)
  exact ⟨tt,⟨u9,⟨_,rfl,(li (fun h=>h) fun j hj=>by
  show CoP _ (Row.c ((xy (lsT n ps p m).2.1.2).getD i default) j);rw [ant b5h];revert j
  exact lt2 (CoP.refl _) (CoP.sl alh (.inl rfl) (fun h=>h) fun _ _ _ _=>CoP.refl _))⟩,uu⟩⟩
 obtain rfl:i = (lsT n ps p m).2.1.2.length:=by omega
 refine w_2 ?_;refine ct 3 2 rfl rfl rfl rfl rfl ?_;refine w_5 ?_;refine hrr ?_;obtain ⟨e1,e2⟩:=avu hls hf;exact f9 rfl rfl (⟨(by rw [e2];exact CoC.agg ⟨CoP.refl _,a0t (by show n.toNat <= 8;omega),CoP.sl amc (.inl rfl) (fun h=>h) (fun _ _ _ _=>CoP.refl _),trivial⟩),cci e1.symm,trivial⟩)
end
section
open Go.Proofs
def axs:aa b65 17 [pI 3,pP (asl [3,6]),pP (fdl [⟨2,4⟩]),pP (fdl [])] (af [pB true,pI 0]):=by
 have h:=ayu 3 [3,6] [⟨2,4⟩] [];rw [ao6.1,ao6.2] at h;exact h
def ax3:aa b65 21 [pI 3,pP (asl [3,6]),pP (fdl [⟨2,4⟩]),pP (fdl [])] (af [pP (stl [(false,0,0,1)]),pI 0]):=by
 have h:=au4 3 [3,6] [⟨2,4⟩] [];rw [aot.1,aot.2] at h;exact h
def awf:aa b65 24 [pI 3,pP (asl [3,6]),pP (fdl [⟨2,4⟩]),pP (fdl []),pP (alc [(false,0,0,1)])] (af [pB true]):=by
 have h:=arb 3 [3,6] [⟨2,4⟩] [] [(false,0,0,1)];rw [axn] at h;exact h
def ax7:aa b65 27 [pI 3,pP (asl [3,6]),pP (fdl []),pP (fdl [])] (af [awT.pc,pI 0]):=by
 have h:=ay8 3 [3,6] [] [];rw [ap1.1,ap1.2] at h;exact h
def ay9:aa b65 30 [awT.pc,pP (asl [3,6])] (af [(cb awT [3,6]).pc,pI 0]):=by
 have h:=oo awT [3,6];rw [aoe] at h;exact h
def a6l {cl:Bool} {x:Fd} {f:Nat -> Nat -> PV} (h0:CoP (f 0 0) (Fd.c x 0)) (h1:CoP (f 0 1) (Fd.c x 1)):CoP (.sl 1 2 cl f) (fdl [x]):=as7 (lt2 h0 h1)
def zj:goodFn b65 11:=wgx Tryz.func11
def aq1 (J:Tbl) (hJ:J.rows.length = 4) (hc:aa b65 30 [awT.pc,pP (asl [3,6])] (af [J.pc,pI 0])):aa b65 11 [] (af [pB true]):=by
 refine hpx (nt:=77) Tryz.func11 ?_;refine w_6 ?_;refine m9 0 ?_;refine qy ?_;refine m9 1 ?_;refine w_4 ?_;refine cz 1 rfl rfl rfl ?_;refine cz 2 rfl rfl rfl ?_;refine w_3 ?_;refine rc rfl rfl rfl rfl rfl rfl (wgx Tryz.func17) (axs) (⟨CoC.refl _,CoC.one (wn (CoP.refl _) (CoP.refl _)),CoC.one (a6l (CoP.refl _) (CoP.refl _)),a3k,trivial⟩) rfl rfl ?_;refine dy ?_;refine rc rfl rfl rfl rfl rfl rfl (wgx Tryz.func21) (ax3) (⟨CoC.refl _,CoC.one (wn (CoP.refl _) (CoP.refl _)),CoC.one (a6l (CoP.refl _) (CoP.refl _)),a3k,trivial⟩) rfl rfl ?_;refine w_9 ?_;refine rc rfl rfl rfl rfl rfl rfl (wgx Tryz.func27) (ax7) (⟨CoC.refl _,CoC.one (wn (CoP.refl _) (CoP.refl _)),a3k,a3k,trivial⟩) rfl rfl ?_;refine w_3 ?_;refine m9 2 ?_;refine w_7 ?_;refine rc rfl rfl rfl rfl rfl rfl tl (hc) (⟨CoC.refl _,CoC.one (wn (CoP.refl _) (CoP.refl _)),trivial⟩) rfl rfl ?_;refine w_3 ?_;refine m9 3 ?_;refine agt ?_;refine rc rfl rfl rfl rfl rfl rfl (wgx Tryz.func24) (awf) (⟨CoC.refl _,CoC.one (wn (CoP.refl _) (CoP.refl _)),CoC.one (a6l (CoP.refl _) (CoP.refl _)),a3k,CoC.one aq6,trivial⟩) rfl rfl ?_;refine agt ?_;exact hx8 rfl rfl rfl (⟨ccb (by first | rfl | (show decide ((J.rows.length:Int) = 4) = true;rw [hJ];rfl)),trivial⟩)
def tn:aa b65 11 [] (af [pB true]):=aq1 (cb awT [3,6]) awu ay9
end
section
def fdP (d:Fd) (r k:AS):Option AS:=if (r ^^^ k) &&& d.lhs = 0 then (if (r ^^^ k) &&& d.rhs = 0 then none else some ((r ^^^ k) &&& d.rhs)) else none
def fdQ (d:Fd) (T:List AS) (r:AS):Option AS:=T.findSome? (fdP d r)
def fdT (d:Fd) (T:List AS):Option AS:=T.findSome? (fdQ d T)
section
variable {T:List AS} {d:Fd}
def aky {s:AS} (h:fdT d T = some s):∃ r ∈ T,∃ k ∈ T,agB d r k = true /\ s = (r ^^^ k) &&& d.rhs /\ s ≠ 0:=by
 unfold fdT at h;obtain ⟨r,hr,h⟩:=b59 h;unfold fdQ at h;obtain ⟨k,hk,h⟩:=b59 h;unfold fdP at h;split at h
 · rename_i h1
   split at h
   · cases h
   rename_i h2;cases h;exact ⟨r,hr,k,hk,decide_eq_true h1,rfl,h2⟩
 cases h
def ud (h:T.Nodup):T.length <= 4294967296:=by
 have h1:(T.map BitVec.toNat).Nodup:=List.Pairwise.map _ (fun a b hab e=>hab (b4y e)) h
 have h2:∀ x ∈ T.map BitVec.toNat,x < 4294967296:=by
  intro x hx;obtain ⟨a,_,rfl⟩:=b37.1 hx;exact a.isLt
 have hlen:(T.map BitVec.toNat).length = T.length:=b3v _;rw [<- hlen]
 have key:∀ (N:Nat) (l:List Nat),l.Nodup -> (∀ x ∈ l,x < N) -> l.length <= N:=by
  intro N
  induction N with
  | zero =>
   intro l _ hl
   cases l with
   | nil=>exact b2j _
   | cons a l=>exact absurd (hl a b5k) (b2o _)
  | succ N ih =>
   intro l hn hl
   have h3:=ih (l.filter fun x=>!decide (x = N)) (hn.filter _) fun x hx=>by
    rw [b4r] at hx;have:=hl x hx.1;have hx2:¬ x = N:=by simpa using hx.2
    omega
   have h4:l.length <= (l.filter fun x=>!decide (x = N)).length + 1:=by
    have h5:∀ l:List Nat,l.length = (l.filter fun x=>!decide (x = N)).length + l.countP fun x=>decide (x = N):=by
     intro l
     induction l with
     | nil=>rfl
     | cons a l ih =>
      by_cases e:a = N
      · simp [b4m,b4n,e,ih];omega
      simp [b4m,b4n,e,ih];omega
    have h6:=h5 l
    have h7:(l.countP fun x=>decide (x = N)) <= 1:=by
     have:=hn.count (a:=N)
     have e:(l.countP fun x=>decide (x = N)) = l.count N:=by
      unfold List.count;congr 1
     rw [e]
     first | exact List.nodup_iff_count.1 hn N | (rw [this];split <;> omega)
    omega
   omega
 exact key _ _ h1 h2
def t6 {i:Nat} (hi:i < 32):(orL T).getLsbD i = T.any fun r=>r.getLsbD i:=by
 unfold orL
 have:∀ (T:List AS) (o:AS),(T.foldl (· ||| ·) o).getLsbD i = (o.getLsbD i || T.any fun r=>r.getLsbD i):=by
  intro T
  induction T with
  | nil=>intro o;simp
  | cons a T ih=>intro o;rw [List.foldl_cons,ih,b52,List.any_cons,Bool.or_assoc]
 rw [this];simp
def aqq {s:AS}:orL (mt T s) = orL T &&& ~~~s:=by
 apply acu;intro i hi;rw [t6 hi,mq hi,t6 hi]
 cases hs:s.getLsbD i with
 | true =>
  simp only [Bool.not_true,Bool.and_false];rw [b3x];intro z hz;obtain ⟨r,hr,rfl⟩:=a2f.1 hz;rw [mq hi,hs];simp
 | false =>
  simp only [Bool.not_false,Bool.and_true];rw [Bool.eq_iff_iff,b3g,b3g];constructor
  · rintro ⟨z,hz,hb⟩
    obtain ⟨r,hr,rfl⟩:=a2f.1 hz;rw [mq hi,b2p] at hb;exact ⟨r,hr,hb.1⟩
  rintro ⟨r,hr,hb⟩;exact ⟨r &&& ~~~s,a2f.2 ⟨r,hr,rfl⟩,by rw [mq hi,hb,hs];rfl⟩
def a5p {s:AS} (h:fdT d T = some s):(orL (mt T s)).toNat < (orL T).toNat:=by
 obtain ⟨r,hr,k,hk,_,rfl,hz⟩:=aky h;rw [aqq];refine aba aku fun e=>?_;obtain ⟨i,hi,hb⟩:=auy hz;have h1:=congrArg (fun z:AS=>z.getLsbD i) e;simp only [mq hi,hb,Bool.not_true,Bool.and_false] at h1;have h1:(orL T).getLsbD i = false:=h1.symm;rw [t6 hi,b3x] at h1;rw [b3y,BitVec.getLsbD_xor,b2p] at hb;have h2:r.getLsbD i = false:=by simpa using h1 r hr
 have h3:k.getLsbD i = false:=by simpa using h1 k hk
 rw [h2,h3] at hb;simp at hb
def lv (d:Fd):Nat -> List AS -> List AS
 | 0,T=>T
 | f + 1,T=>match fdT d T with
  | none=>T
  | some s=>lv d f (mt T s)
def mvS (d:Fd) (T:List AS) (i k:Nat):List AS:=if agB d (T.getD i default) (T.getD k default) = true then lu T (va d (T.getD i default) (T.getD k default)) else T
def mvI (d:Fd):Nat -> List AS -> Nat -> Nat -> List AS
 | 0,T,_,_=>T
 | f + 1,T,i,k=>if k < T.length then mvI d f (mvS d T i k) i (k + 1) else T
def mvO (d:Fd):Nat -> List AS -> Nat -> List AS
 | 0,T,_=>T
 | f + 1,T,i=>if i < T.length then mvO d f (mvI d 8589934592 T i 0) (i + 1) else T
def a0g (d:Fd) (T:List AS) (i k:Nat):T <+: mvS d T i k:=by
 unfold mvS lu;split
 · split
   · exact b4o _
   exact List.prefix_append _ _
 exact b4o _
def a13 (d:Fd):∀ (f:Nat) (T:List AS) (i k:Nat),T <+: mvI d f T i k
 | 0,T,_,_=>b4o _
 | f + 1,T,i,k=>by
  unfold mvI;split
  · exact (a0g d T i k).trans (a13 d f _ i (k + 1))
  exact b4o _
def aff (d:Fd):∀ (f:Nat) (T:List AS) (i:Nat),T <+: mvO d f T i
 | 0,T,_=>b4o _
 | f + 1,T,i=>by
  unfold mvO;split
  · exact (a13 d _ T i 0).trans (aff d f _ (i + 1))
  exact b4o _
def ahp {i k:Nat} (h:T.Nodup):(mvS d T i k).Nodup:=by
 unfold mvS;split
 · exact s3 h
 exact h
def ac3:∀ {f:Nat} {T:List AS} {i k:Nat},T.Nodup -> (mvI d f T i k).Nodup
 | 0,T,_,_,h=>h
 | f + 1,T,i,k,h=>by
  unfold mvI;split
  · exact ac3 (ahp h)
  exact h
def abf:∀ {f:Nat} {T:List AS} {i:Nat},T.Nodup -> (mvO d f T i).Nodup
 | 0,T,_,h=>h
 | f + 1,T,i,h=>by
  unfold mvO;split
  · exact abf (ac3 h)
  exact h
abbrev TC:=List AS × Bool
def FU2:Nat:=8589934592
def fdR (x:TC) (d:Fd):TC:=(lv d FU2 x.1,x.2 || (fdT d x.1).isSome)
def mvR (x:TC) (d:Fd):TC:=(mvO d FU2 x.1 0,x.2 || decide (x.1.length < (mvO d FU2 x.1 0).length))
def qt (fs ms:List Fd) (T:List AS):TC:=ms.foldl mvR (fs.foldl fdR (T,false))
def chF (fs ms:List Fd):Nat -> List AS -> List AS
 | 0,T=>T
 | f + 1,T=>if (qt fs ms T).2 = true then chF fs ms f (qt fs ms T).1 else (qt fs ms T).1
def muT (T:List AS):Nat:=(orL T).toNat * FU2 + (4294967296 - T.length)
def uk {f:Nat} {s:AS} (h:fdT d T = some s):lv d (f + 1) T = lv d f (mt T s):=by
 show (match fdT d T with | none=>T | some s=>lv d f (mt T s)) = _;rw [h]
def yk {f:Nat} (h:fdT d T = none):lv d f T = T:=by
 cases f with
 | zero=>rfl
 | succ f =>
  show (match fdT d T with | none=>T | some s=>lv d f (mt T s)) = _;rw [h]
variable {P:List AS -> Prop}
def a9y (hP:∀ T s,P T -> fdT d T = some s -> P (mt T s)):∀ (f:Nat) (T:List AS),P T -> P (lv d f T)
 | 0,T,h=>h
 | f + 1,T,h=>by
  cases hq:fdT d T with
  | none=>rw [yk hq];exact h
  | some s=>rw [uk hq];exact a9y hP f _ (hP T s h hq)
def ae2 (hP:∀ T r k,P T -> r ∈ T -> k ∈ T -> agB d r k = true -> P (lu T (va d r k))):∀ (f:Nat) (T:List AS) (i k:Nat),i < T.length -> P T -> P (mvI d f T i k)
 | 0,T,_,_,_,h=>h
 | f + 1,T,i,k,hi,h=>by
  unfold mvI;split
  · rename_i hk
    refine ae2 hP f _ i (k + 1) (b4e hi (a0g d T i k).length_le) ?_;unfold mvS;split
    · rename_i ha
      exact hP T _ _ h (a7r hi) (a7r hk) ha
    exact h
  exact h
def a62 (hP:∀ T r k,P T -> r ∈ T -> k ∈ T -> agB d r k = true -> P (lu T (va d r k))):∀ (f:Nat) (T:List AS) (i:Nat),P T -> P (mvO d f T i)
 | 0,T,_,h=>h
 | f + 1,T,i,h=>by
  unfold mvO;split
  · rename_i hi
    exact a62 hP f _ (i + 1) (ae2 hP _ T i 0 hi h)
  exact h
variable {fs:List Fd}
def a65 (hP:∀ d ∈ fs,∀ T s,P T -> fdT d T = some s -> P (mt T s)):∀ (ds:List Fd) (x:TC),(∀ d ∈ ds,d ∈ fs) -> P x.1 -> P (ds.foldl fdR x).1
 | [],x,_,h=>h
 | d :: ds,x,hd,h=>a65 hP ds (fdR x d) (fun e he=>hd e (by simp [he])) (a9y (hP d (hd d b5k)) _ _ h)
variable {ms:List Fd}
def aep (hP:∀ d ∈ ms,∀ T r k,P T -> r ∈ T -> k ∈ T -> agB d r k = true -> P (lu T (va d r k))):∀ (ds:List Fd) (x:TC),(∀ d ∈ ds,d ∈ ms) -> P x.1 -> P (ds.foldl mvR x).1
 | [],x,_,h=>h
 | d :: ds,x,hd,h=>aep hP ds (mvR x d) (fun e he=>hd e (by simp [he])) (a62 (hP d (hd d b5k)) _ _ _ h)
def ar5 (h1:∀ d ∈ fs,∀ T s,P T -> fdT d T = some s -> P (mt T s)) (h2:∀ d ∈ ms,∀ T r k,P T -> r ∈ T -> k ∈ T -> agB d r k = true -> P (lu T (va d r k))) (h:P T):P (qt fs ms T).1 :=
 aep h2 ms _ (fun _ h=>h) (a65 h1 fs (T,false) (fun _ h=>h) h)
def aon:∀ d ∈ fs,∀ (T:List AS) (s:AS),T.Nodup -> fdT d T = some s -> (mt T s).Nodup:=fun _ _ T s _ _=>a4x T s
def axq:∀ d ∈ ms,∀ (T:List AS) (r k:AS),T.Nodup -> r ∈ T -> k ∈ T -> agB d r k = true -> (lu T (va d r k)).Nodup:=fun _ _ _ _ _ h _ _ _=>s3 h
def ajf {A B:List AS} (h:(orL B).toNat < (orL A).toNat):muT B < muT A:=by
 unfold muT;have h1:((orL B).toNat + 1) * FU2 <= (orL A).toNat * FU2:=b2r _ h;rw [b3b] at h1;have:FU2 = 8589934592:=rfl;omega
def aqi {A B:List AS} (hp:A <+: B) (ho:(orL B).toNat = (orL A).toNat) (hB:B.length <= 4294967296):muT B <= muT A /\ (A.length < B.length -> muT B < muT A):=by
 unfold muT;rw [ho];have:=hp.length_le;omega
def ap9 {r k:AS} (hr:r ∈ T) (hk:k ∈ T):orL (lu T (va d r k)) = orL T:=by
 apply acu;intro i hi;rw [t6 hi,t6 hi,Bool.eq_iff_iff,b3g,b3g];constructor
 · rintro ⟨z,hz,hb⟩
   rcases a2z.1 hz with hz | rfl
   · exact ⟨z,hz,hb⟩
   rw [anw hi] at hb;split at hb
   · exact ⟨r,hr,hb⟩
   exact ⟨k,hk,hb⟩
 rintro ⟨z,hz,hb⟩;exact ⟨z,a2z.2 (.inl hz),hb⟩
def ap8 {f:Nat} {i:Nat}:orL (mvO d f T i) = orL T :=
 a62 (P:=fun X=>orL X = orL T) (fun X r k h hr hk _=>(ap9 hr hk).trans h) f T i rfl
def aea {T0:List AS} (f:Nat):∀ (T:List AS),muT T <= muT T0 -> muT (lv d f T) <= muT T0:=by
 induction f with
 | zero=>intro T h;exact h
 | succ f ih =>
  intro T h
  cases hq:fdT d T with
  | none=>rw [yk hq];exact h
  | some s =>
   rw [uk hq];have h1:=ajf (a5p hq);exact ih _ b5h
def atd (x:TC) (d:Fd):muT (fdR x d).1 <= muT x.1 /\ (x.2 = false -> (fdR x d).2 = true -> muT (fdR x d).1 < muT x.1):=by
 refine ⟨aea _ _ (b2j _),fun h1 h2=>?_⟩;unfold fdR at h2 ⊢;rw [h1,Bool.false_or,Option.isSome_iff_exists] at h2;obtain ⟨s,hs⟩:=h2;show muT (lv d FU2 x.1) < _;rw [show FU2 = 8589934591 + 1 from rfl,uk hs];exact Nat.lt_of_le_of_lt (aea _ _ (b2j _)) (ajf (a5p hs))
def ato {x:TC} (hn:x.1.Nodup) (d:Fd):muT (mvR x d).1 <= muT x.1 /\ (x.2 = false -> (mvR x d).2 = true -> muT (mvR x d).1 < muT x.1):=by
 have h:=aqi (aff d FU2 x.1 0) (congrArg BitVec.toNat ap8) (ud (abf hn));refine ⟨h.1,fun h1 h2=>h.2 ?_⟩;unfold mvR at h2;rw [h1,Bool.false_or] at h2;exact of_decide_eq_true h2
def afh:∀ (ds:List Fd) (x:TC),muT (ds.foldl fdR x).1 <= muT x.1 /\ (x.2 = false -> (ds.foldl fdR x).2 = true -> muT (ds.foldl fdR x).1 < muT x.1)
 | [],x=>⟨b2j _,fun h k=>by simp only [List.foldl_nil] at k;rw [h] at k;cases k⟩
 | d :: ds,x=>by
  obtain ⟨a1,a2⟩:=atd x d;obtain ⟨b1,b2⟩:=afh ds (fdR x d);refine ⟨b3m b1 a1,fun h k=>?_⟩
  cases hq:(fdR x d).2 with
  | true=>exact Nat.lt_of_le_of_lt b1 (a2 h hq)
  | false=>exact b4e (b2 hq k) a1
def ael:∀ (ds:List Fd) (x:TC),x.1.Nodup -> muT (ds.foldl mvR x).1 <= muT x.1 /\ (x.2 = false -> (ds.foldl mvR x).2 = true -> muT (ds.foldl mvR x).1 < muT x.1)
 | [],x,_=>⟨b2j _,fun h k=>by simp only [List.foldl_nil] at k;rw [h] at k;cases k⟩
 | d :: ds,x,hn=>by
  obtain ⟨a1,a2⟩:=ato hn d;obtain ⟨b1,b2⟩:=ael ds (mvR x d) (abf hn);refine ⟨b3m b1 a1,fun h k=>?_⟩
  cases hq:(mvR x d).2 with
  | true=>exact Nat.lt_of_le_of_lt b1 (a2 h hq)
  | false=>exact b4e (b2 hq k) a1
def ass (hn:T.Nodup) (h:(qt fs ms T).2 = true):muT (qt fs ms T).1 < muT T:=by
 unfold qt at h ⊢;obtain ⟨a1,a2⟩:=afh fs (T,false);have hn2:(fs.foldl fdR (T,false)).1.Nodup:=a65 aon fs (T,false) (fun _ h=>h) hn;obtain ⟨b1,b2⟩:=ael ms (fs.foldl fdR (T,false)) hn2
 cases hq:(fs.foldl fdR (T,false)).2 with
 | true=>exact Nat.lt_of_le_of_lt b1 (a2 rfl hq)
 | false=>exact b4e (b2 hq h) a1
def MU:Nat:=73786976294838206464
def ave (T:List AS):muT T < MU:=by
 unfold muT;have h:=(orL T).isLt;have h1:((orL T).toNat + 1) * FU2 <= 4294967296 * FU2:=b2r _ h;rw [b3b] at h1;have e:FU2 = 8589934592:=rfl;have e2:MU = 73786976294838206464:=rfl;omega
def alq (rest:AS):List AS:=lu [0] rest
def chT (fs ms:List Fd) (rest:AS):List AS:=chF fs ms MU (alq rest)
def axr (rest:AS):(alq rest).Nodup:=s3 b5k
end
end
section
structure MvO (d:Fd) (T0:List AS) (x:Nat × List AS × Nat):Prop where
 nd:x.2.1.Nodup
 pre:T0 <+: x.2.1
 res:mvO d x.1 x.2.1 x.2.2 = mvO d FU2 T0 0
 le:x.2.2 <= x.2.1.length
 fuel:4294967296 < x.1 + x.2.2
structure MvI (d:Fd) (T:List AS) (i:Nat) (x:Nat × List AS × Nat):Prop where
 nd:x.2.1.Nodup
 pre:T <+: x.2.1
 res:mvI d x.1 x.2.1 i x.2.2 = mvI d 8589934592 T i 0
 le:x.2.2 <= x.2.1.length
 fuel:4294967296 < x.1 + x.2.2
section
variable {d:Fd} {T0 T:List AS} {i f k:Nat}
theorem MvO.start (h:T.Nodup):MvO d T (FU2,T,0):=⟨h,b4o _,rfl,b2n _,by show 4294967296 < 8589934592 + 0;omega⟩
theorem MvI.start (h:T.Nodup):MvI d T i (8589934592,T,0):=⟨h,b4o _,rfl,b2n _,by show 4294967296 < 8589934592 + 0;omega⟩
theorem MvO.pos (h:MvO d T0 (f,T,i)):0 < f /\ T.length <= 4294967296:=by
 have h1:=ud h.nd;have h2:=h.le;have h3:=h.fuel;dsimp only at h1 h2 h3;omega
section
variable {U:List AS}
theorem MvI.pos (h:MvI d T i (f,U,k)):0 < f /\ U.length <= 4294967296:=by
 have h1:=ud h.nd;have h2:=h.le;have h3:=h.fuel;dsimp only at h1 h2 h3;omega
theorem MvO.done (h:MvO d T0 (f,T,i)) (hi:¬ i < T.length):T = mvO d FU2 T0 0:=by
 have hp:=h.pos.1;have hr:mvO d f T i = mvO d FU2 T0 0:=h.res;obtain ⟨g,rfl⟩:∃ g,f = g + 1:=⟨f - 1,by omega⟩;unfold mvO at hr;rw [if_neg hi] at hr;exact hr
theorem MvI.done (h:MvI d T i (f,U,k)) (hk:¬ k < U.length):U = mvI d 8589934592 T i 0:=by
 have hp:=h.pos.1;have hr:mvI d f U i k = mvI d 8589934592 T i 0:=h.res;obtain ⟨g,rfl⟩:∃ g,f = g + 1:=⟨f - 1,by omega⟩;unfold mvI at hr;rw [if_neg hk] at hr;exact hr
theorem MvI.next (h:MvI d T i (f,U,k)) (hk:k < U.length):MvI d T i (f - 1,mvS d U i k,k + 1):=by
 have hp:=h.pos.1;have hr:mvI d f U i k = mvI d 8589934592 T i 0:=h.res;obtain ⟨g,rfl⟩:∃ g,f = g + 1:=⟨f - 1,by omega⟩;unfold mvI at hr;rw [if_pos hk] at hr;have hf:4294967296 < g + 1 + k:=h.fuel;exact ⟨ahp h.nd,h.pre.trans (a0g d U i k),hr,b3m hk (a0g d U i k).length_le,by show 4294967296 < g + (k + 1);omega⟩
theorem MvO.next (h:MvO d T0 (f,T,i)) (hi:i < T.length) (hU:U = mvI d 8589934592 T i 0):MvO d T0 (f - 1,U,i + 1):=by
 subst hU;have hp:=h.pos.1;have hr:mvO d f T i = mvO d FU2 T0 0:=h.res;obtain ⟨g,rfl⟩:∃ g,f = g + 1:=⟨f - 1,by omega⟩;unfold mvO at hr;rw [if_pos hi] at hr;have hf:4294967296 < g + 1 + i:=h.fuel;exact ⟨ac3 h.nd,h.pre.trans (a13 d _ T i 0),hr,b3m hi (a13 d _ T i 0).length_le,by show 4294967296 < g + (i + 1);omega⟩
end
end
end
section
structure ChI (l m:List Fd) (R:List AS) (x:Nat × List AS × Bool):Prop where
 nd:x.2.1.Nodup
 t:x.2.2 = true -> chF l m x.1 x.2.1 = R /\ muT x.2.1 < x.1
 f:x.2.2 = false -> x.2.1 = R
def b15 (x:Nat × List AS × Bool):Nat:=x.1 + (bif x.2.2 then 1 else 0)
theorem ChI.start (l m:List Fd) (rest:AS):ChI l m (chT l m rest) (MU,alq rest,true):=⟨axr rest,fun _=>⟨rfl,ave _⟩,fun h=>by cases h⟩
theorem ChI.next {l m:List Fd} {R T:List AS} {f:Nat} (h:ChI l m R (f,T,true)):ChI l m R (f - 1,(qt l m T).1,(qt l m T).2) /\ 0 < f:=by
 obtain ⟨h1,h2⟩:=h.t rfl;have h2:muT T < f:=h2;have h1:chF l m f T = R:=h1;have hn:T.Nodup:=h.nd;obtain ⟨g,rfl⟩:∃ g,f = g + 1:=⟨f - 1,by omega⟩;unfold chF at h1;refine ⟨⟨ar5 aon axq hn,fun hc=>?_,fun hc=>?_⟩,by omega⟩
 · have hc:(qt l m T).2 = true:=hc
   rw [if_pos hc] at h1;have:=ass hn hc;exact ⟨h1,by show muT (qt l m T).1 < g;omega⟩
 have hc:(qt l m T).2 = false:=hc;rw [if_neg (by rw [hc];decide)] at h1;exact h1
def b29 (l:List Fd) (T:List AS) (i:Nat):TC:=(l.take i).foldl fdR (T,false)
def mvX (m:List Fd) (x:TC) (i:Nat):TC:=(m.take i).foldl mvR x
structure FdI (d:Fd) (U0:List AS) (x:Nat × List AS × Bool):Prop where
 nd:x.2.1.Nodup
 res:lv d x.1 x.2.1 = lv d FU2 U0
 fuel:(orL x.2.1).toNat < x.1
 f:x.2.2 = false -> x.2.1 = U0
 t:x.2.2 = true -> (fdT d U0).isSome = true
section
variable {d:Fd} {U0 U:List AS} {g:Nat} {b c:Bool} {s:AS}
theorem FdI.start (h:U0.Nodup):FdI d U0 (FU2,U0,false):=⟨h,rfl,b4e (orL U0).isLt (show 2 ^ 32 <= FU2 by decide),fun _=>rfl,fun h=>by cases h⟩
theorem FdI.len (h:FdI d U0 (g,U,b)):U.length <= 8589934592:=b3m (ud (show U.Nodup from h.nd)) b5n
theorem FdI.next (h:FdI d U0 (g,U,b)) (hq:fdT d U = some s):FdI d U0 (g - 1,mt U s,true) /\ 0 < g:=by
 have h3:(orL U).toNat < g:=h.fuel;have h2:lv d g U = lv d FU2 U0:=h.res;obtain ⟨k,rfl⟩:∃ k,g = k + 1:=⟨g - 1,by omega⟩;rw [uk hq] at h2;have h4:=a5p hq;refine ⟨⟨a4x U s,h2,(by show (orL (mt U s)).toNat < k;omega),(fun hc=>by cases hc),fun _=>?_⟩,by omega⟩
 cases hb:b with
 | true=>exact h.t hb
 | false =>
  have e:U = U0:=h.f hb;rw [<- e,hq];rfl
theorem FdI.done (h:FdI d U0 (g,U,b)) (hq:fdT d U = none):(U,c || b) = fdR (U0,c) d:=by
 have h2:lv d g U = lv d FU2 U0:=h.res;rw [yk hq] at h2;unfold fdR;rw [<- h2]
 cases hb:b with
 | true=>rw [h.t hb]
 | false =>
  have e:U = U0:=h.f hb;rw [<- e,hq];rfl
end
end
section
def ath (a b:AS):Bool:=aa4 b a
def b11 (l:List AS):List AS:=aoh ath l
def okM (l:List AS) (i k:Nat):Bool:=(List.range k).all fun j=>decide (j = i) || !aa4 (l.getD j default) (l.getD i default)
def b0x (l:List AS) (i:Nat):List AS:=((ord l).take i).filter fun x=>!a94 ath (ord l) x
def yq (rest L x:AS) (T:List AS) (y:AS):Bool:=!decide (y = 0) && (decide (y &&& ~~~rest = 0) && decide ((L &&& ~~~(x ||| y)) ∈ T))
def yL (rest L x:AS) (T:List AS) (k:Nat):List AS:=((List.range k).map (BitVec.ofNat 32)).filter (yq rest L x T)
section
variable {rest L x:AS} {T:List AS} {k:Nat}
end
end
section
open Go.Proofs
def azz (n:Int) (ps:List AS):List AS:=if ps.length = 0 then [b5 n] else ps.set (ps.length - 1) (ps.getD (ps.length - 1) default ||| (b5 n &&& ~~~(orL ps)))
end
section
open Go.Proofs
def b19 (n:Int) (ps:List AS) (p m:List Fd):Int:=if lvE n ps = 0 then cj n p m else lvE n ps
section
variable {n:Int} {ps:List AS} {p m:List Fd}
end
end
section
open Go.Proofs
def b1d (n:Int) (a b:BitVec 8):AS:=if (b.toNat:Int) < 128 then u8S n b ||| (b5 n &&& ~~~u8S n a) else u8S n b
end
section
open Go.Proofs
def amf {t:Tbl} {ps:List AS} (he:∀ r ∈ t.rows,∀ v ∈ r.vals,bd t = 0 -> eu v):(cb t ps).ok:=by
 by_cases hj:db t ps = 0
 · have h1:bd t = 0:=by
    apply Classical.byContradiction;intro h;exact h ((lc (ps:=ps) h).symm.trans hj)
   have h2:lvE t.attrs.length ps = 0:=by
    apply Classical.byContradiction;intro h;exact h ((la h1 h).symm.trans hj)
   exact (my (cr.1 h1) h2 (fun r hr v hv=>he r hr v hv h1) hj).1.ok
 rw [show cb t ps = T0 from if_neg hj];exact ⟨b2n _,b2n _,fun j hj=>absurd hj (b2o j)⟩
def avg {t:Tbl} (hi:∀ r ∈ t.rows,∀ v ∈ r.vals,sj v.num):∀ r ∈ t.rows,∀ v ∈ r.vals,bd t = 0 -> eu v:=fun r hr v hv h=>by
 have hT:=cr.1 h;have h1:=(py hT.rs r hr).2.2;exact ⟨b3c.1 h1 v hv,hi r hr v hv⟩
def avd (t:Tbl) (ps:List AS) (hi:∀ r ∈ t.rows,∀ v ∈ r.vals,sj v.num):aa b65 7 [t.pc,pP (asl ps)] (af [pB true]):=by
 refine hpx (nt:=79) Tryz.func7 ?_;have hen:=avg hi;have hJok:=amf (ps:=ps) hen;refine sx7 ?_;refine m9 0 ?_;refine w_5 ?_;refine qcx zj (tn) ?_;refine w_8 ?_;refine ab rfl rfl (fun r0=>?_) (fun r0=>?_)
 ·
  have h0:=tz1 r0;(iterate 4 refine k9 (gtf r0) ?_);(iterate 3 refine k9 rfl ?_);refine k9 (gtf r0) ?_;refine w_2 ?_;(iterate 3 refine k9 rfl ?_);refine w_5 ?_;refine qcx zj (tn) ?_;refine w_2 ?_
  exact hx8 rfl rfl rfl (CoL.refl _)
 have h0:=tz2 r0;(iterate 4 refine qy ?_ (hg:=(gff r0)));refine ab rfl rfl (fun r1=>?_) (fun r1=>?_)
 ·
  have h1:=tz1 r1;(iterate 3 refine qy ?_ (hg:=(gtt r1)));refine qy ?_ (hg:=(gff r0));refine w_2 ?_;refine ab rfl rfl (fun r2=>?_) (fun r2=>?_)
  ·
   have h2:=tz1 (b4 r1 (ao r0 r2));(iterate 3 refine k9 (gtf r2) ?_);refine w_5 ?_;refine qcx zj (tn) ?_;refine w_2 ?_
   exact hx8 rfl rfl rfl (CoL.refl _)
  have h2:=tz2 (b4 r1 (ao r0 r2));(iterate 3 refine qy ?_ (hg:=(gff r2)));refine w_2 ?_;refine aj _ rfl (fun r3=>?_) (fun r3=>?_)
  · have h3:=tz1 (ao r2 r3);refine sx7 ?_;refine qcx zj (tn) ?_;refine v_2 ?_;exact CoL.refl _
  have h3:=tz2 (ao r2 r3);have hr6:t.rows.length <= 6:=by simp_all;omega
  have h70:ps.length <= 70:=by simp_all;omega
  refine w_9 ?_;refine ab rfl rfl (fun r4=>?_) (fun r4=>?_)
  ·
   have h4:=tz1 r4;(iterate 4 refine qy ?_ (hg:=(gtt r4)));refine w_2 ?_;refine ab rfl rfl (fun r5=>?_) (fun r5=>?_)
   ·
    have h5:=tz1 (b4 r4 r5);(iterate 4 refine qy ?_ (hg:=(gtt r5)));refine w_2 ?_;refine aj _ rfl (fun r6=>?_) (fun r6=>?_)
    · have h6:=tz1 (b4 r5 r6);refine v_4 ?_;exact CoL.refl _
    have h6:=tz2 (b4 r5 r6);refine w_5 ?_;refine qcx wq (p9 ps.length false (lf sC ps) b5h) ?_;refine qcx tl (oo t ps) ?_;refine w_3 ?_;refine m9 1 ?_;refine w_8 ?_;refine qcx w6 (pj t ps fun h1 _=>⟨hr6,fun r hr v hv=>hen r hr v hv h1⟩) ?_;refine w_3 ?_;refine m9 2 ?_;refine w_9 ?_;refine ab rfl rfl (fun r7=>?_) (fun r7=>?_)
    ·
     have h7:=tz1 r7;(iterate 2 refine qy ?_ (hg:=(gtt r7)));refine qcx vw (c47 (cb t ps) (cb t ps) hJok hJok) ?_ (hg:=(gtt r7));refine w_2 ?_;refine ab rfl rfl (fun r8=>?_) (fun r8=>?_)
     ·
      have h8:=b4 r7 r8;(iterate 3 refine qy ?_ (hg:=(gtt r8)));refine ab rfl rfl (fun r9=>?_) (fun r9=>?_)
      ·
       have h9:=tz2 (ec r9);(iterate 3 refine k9 (gtf r9) ?_);refine rq rfl rfl rfl rfl (gtt r8) ?_ (hp:=r9);refine w_3 ?_
       exact hx8 rfl rfl rfl (⟨ccb (by first | rfl | (rw [hJ.2];simp) | simp_all),trivial⟩)
      have h9:=tz1 (eg r9);have hjz:db t ps = 0:=by simpa using r9
      have ht1:bd t = 0:=by
       apply Classical.byContradiction;intro h;exact h ((lc (ps:=ps) h).symm.trans hjz)
      have ht2:lvE t.attrs.length ps = 0:=by
       apply Classical.byContradiction;intro h;exact h ((la ht1 h).symm.trans hjz)
      have hJ:=my (cr.1 ht1) ht2 (fun r hr v hv=>hen r hr v hv ht1) hjz;(iterate 2 refine qy ?_ (hg:=(gff r9)));refine qcx wt (lb (cb t ps) t hJ.1 (cr.1 ht1)) ?_ (hg:=(gff r9));refine qy ?_ (hg:=(gtt r8));refine w_3 ?_
      exact hx8 rfl rfl rfl (⟨ccb (by first | rfl | (rw [hJ.2];simp) | simp_all),trivial⟩)
     have h8:=b4 r7 r8;(iterate 3 refine k9 (gft r8) ?_);(iterate 3 refine k9 rfl ?_);refine k9 (gft r8) ?_;refine w_3 ?_
     exact hx8 rfl rfl rfl (⟨ccb (by first | rfl | (rw [hJ.2];simp) | simp_all),trivial⟩)
    have h7:=tz2 r7;(iterate 3 refine k9 (gft r7) ?_);refine w_2 ?_;(iterate 7 refine k9 rfl ?_);refine w_3 ?_
    exact hx8 rfl rfl rfl (⟨ccb (by first | rfl | (rw [hJ.2];simp) | simp_all),trivial⟩)
   have h5:=tz2 (b4 r4 r5);(iterate 4 refine k9 (gft r5) ?_);refine w_8 ?_;refine qcx wq (p9 ps.length false (lf sC ps) b5h) ?_;refine qcx tl (oo t ps) ?_;refine w_3 ?_;refine m9 3 ?_;refine w_8 ?_
   refine qcx w6 (pj t ps fun h1 _=>⟨hr6,fun r hr v hv=>hen r hr v hv h1⟩) ?_;refine w_3 ?_;refine m9 4 ?_;refine w_9 ?_;refine ab rfl rfl (fun r10=>?_) (fun r10=>?_)
   ·
    have h10:=tz1 r10;(iterate 2 refine qy ?_ (hg:=(gtt r10)));refine qcx vw (c47 (cb t ps) (cb t ps) hJok hJok) ?_ (hg:=(gtt r10));refine w_2 ?_;refine ab rfl rfl (fun r11=>?_) (fun r11=>?_)
    ·
     have h11:=b4 r10 r11;(iterate 3 refine qy ?_ (hg:=(gtt r11)));refine ab rfl rfl (fun r12=>?_) (fun r12=>?_)
     ·
      have h12:=tz2 (ec r12);(iterate 3 refine k9 (gtf r12) ?_);refine rq rfl rfl rfl rfl (gtt r11) ?_ (hp:=r12);refine w_3 ?_
      exact hx8 rfl rfl rfl (⟨ccb (by first | rfl | (rw [hJ.2];simp) | simp_all),trivial⟩)
     have h12:=tz1 (eg r12);have hjz:db t ps = 0:=by simpa using r12
     have ht1:bd t = 0:=by
      apply Classical.byContradiction;intro h;exact h ((lc (ps:=ps) h).symm.trans hjz)
     have ht2:lvE t.attrs.length ps = 0:=by
      apply Classical.byContradiction;intro h;exact h ((la ht1 h).symm.trans hjz)
     have hJ:=my (cr.1 ht1) ht2 (fun r hr v hv=>hen r hr v hv ht1) hjz;(iterate 2 refine qy ?_ (hg:=(gff r12)));refine qcx wt (lb (cb t ps) t hJ.1 (cr.1 ht1)) ?_ (hg:=(gff r12));refine qy ?_ (hg:=(gtt r11));refine w_3 ?_
     exact hx8 rfl rfl rfl (⟨ccb (by first | rfl | (rw [hJ.2];simp) | simp_all),trivial⟩)
    have h11:=b4 r10 r11;(iterate 3 refine k9 (gft r11) ?_);(iterate 3 refine k9 rfl ?_);refine k9 (gft r11) ?_;refine w_3 ?_
    exact hx8 rfl rfl rfl (⟨ccb (by first | rfl | (rw [hJ.2];simp) | simp_all),trivial⟩)
   have h10:=tz2 r10;(iterate 3 refine k9 (gft r10) ?_);refine w_2 ?_;(iterate 7 refine k9 rfl ?_);refine w_3 ?_
   exact hx8 rfl rfl rfl (⟨ccb (by first | rfl | (rw [hJ.2];simp) | simp_all),trivial⟩)
  have h4:=tz2 r4;(iterate 4 refine k9 (gft r4) ?_);refine w_2 ?_;(iterate 4 refine k9 rfl ?_);refine w_8 ?_;refine qcx wq (p9 ps.length false (lf sC ps) b5h) ?_;refine qcx tl (oo t ps) ?_;refine w_3 ?_
  refine m9 5 ?_;refine w_8 ?_;refine qcx w6 (pj t ps fun h1 _=>⟨hr6,fun r hr v hv=>hen r hr v hv h1⟩) ?_;refine w_3 ?_;refine m9 6 ?_;refine w_9 ?_;refine ab rfl rfl (fun r13=>?_) (fun r13=>?_)
  ·
   have h13:=tz1 r13;(iterate 2 refine qy ?_ (hg:=(gtt r13)));refine qcx vw (c47 (cb t ps) (cb t ps) hJok hJok) ?_ (hg:=(gtt r13));refine w_2 ?_;refine ab rfl rfl (fun r14=>?_) (fun r14=>?_)
   ·
    have h14:=b4 r13 r14;(iterate 3 refine qy ?_ (hg:=(gtt r14)));refine ab rfl rfl (fun r15=>?_) (fun r15=>?_)
    ·
     have h15:=tz2 (ec r15);(iterate 3 refine k9 (gtf r15) ?_);refine rq rfl rfl rfl rfl (gtt r14) ?_ (hp:=r15);refine w_3 ?_
     exact hx8 rfl rfl rfl (⟨ccb (by first | rfl | (rw [hJ.2];simp) | simp_all),trivial⟩)
    have h15:=tz1 (eg r15);have hjz:db t ps = 0:=by simpa using r15
    have ht1:bd t = 0:=by
     apply Classical.byContradiction;intro h;exact h ((lc (ps:=ps) h).symm.trans hjz)
    have ht2:lvE t.attrs.length ps = 0:=by
     apply Classical.byContradiction;intro h;exact h ((la ht1 h).symm.trans hjz)
    have hJ:=my (cr.1 ht1) ht2 (fun r hr v hv=>hen r hr v hv ht1) hjz;(iterate 2 refine qy ?_ (hg:=(gff r15)));refine qcx wt (lb (cb t ps) t hJ.1 (cr.1 ht1)) ?_ (hg:=(gff r15));refine qy ?_ (hg:=(gtt r14));refine w_3 ?_
    exact hx8 rfl rfl rfl (⟨ccb (by first | rfl | (rw [hJ.2];simp) | simp_all),trivial⟩)
   have h14:=b4 r13 r14;(iterate 3 refine k9 (gft r14) ?_);(iterate 3 refine k9 rfl ?_);refine k9 (gft r14) ?_;refine w_3 ?_
   exact hx8 rfl rfl rfl (⟨ccb (by first | rfl | (rw [hJ.2];simp) | simp_all),trivial⟩)
  have h13:=tz2 r13;(iterate 3 refine k9 (gft r13) ?_);refine w_2 ?_;(iterate 7 refine k9 rfl ?_);refine w_3 ?_
  exact hx8 rfl rfl rfl (⟨ccb (by first | rfl | (rw [hJ.2];simp) | simp_all),trivial⟩)
 have h1:=tz2 r1;(iterate 3 refine k9 (gft r1) ?_);refine rq rfl rfl rfl rfl (gff r0) ?_ (hp:=r1);refine w_2 ?_;(iterate 3 refine rq rfl rfl rfl rfl (gff (ta r0 rfl)) ?_);refine w_2 ?_
 refine aj _ rfl (fun r16=>?_) (fun r16=>?_)
 · have h16:=tz1 (ao (ta r0 rfl) r16);refine sx7 ?_;refine qcx zj (tn) ?_;refine v_2 ?_;exact CoL.refl _
 have h16:=tz2 (ao (ta r0 rfl) r16);have hr6:t.rows.length <= 6:=by simp_all;omega
 have h70:ps.length <= 70:=by simp_all;omega
 refine w_9 ?_;refine ab rfl rfl (fun r17=>?_) (fun r17=>?_)
 ·
  have h17:=tz1 r17;(iterate 4 refine qy ?_ (hg:=(gtt r17)));refine w_2 ?_;refine ab rfl rfl (fun r18=>?_) (fun r18=>?_)
  ·
   have h18:=tz1 (b4 r17 r18);(iterate 4 refine qy ?_ (hg:=(gtt r18)));refine w_2 ?_;refine aj _ rfl (fun r19=>?_) (fun r19=>?_)
   · have h19:=tz1 (b4 r18 r19);refine v_4 ?_;exact CoL.refl _
   have h19:=tz2 (b4 r18 r19);refine w_5 ?_;refine qcx wq (p9 ps.length false (lf sC ps) b5h) ?_;refine qcx tl (oo t ps) ?_;refine w_3 ?_;refine m9 7 ?_;refine w_8 ?_;refine qcx w6 (pj t ps fun h1 _=>⟨hr6,fun r hr v hv=>hen r hr v hv h1⟩) ?_;refine w_3 ?_;refine m9 8 ?_;refine w_9 ?_;refine ab rfl rfl (fun r20=>?_) (fun r20=>?_)
   ·
    have h20:=tz1 r20;(iterate 2 refine qy ?_ (hg:=(gtt r20)));refine qcx vw (c47 (cb t ps) (cb t ps) hJok hJok) ?_ (hg:=(gtt r20));refine w_2 ?_;refine ab rfl rfl (fun r21=>?_) (fun r21=>?_)
    ·
     have h21:=b4 r20 r21;(iterate 3 refine qy ?_ (hg:=(gtt r21)));refine ab rfl rfl (fun r22=>?_) (fun r22=>?_)
     ·
      have h22:=tz2 (ec r22);(iterate 3 refine k9 (gtf r22) ?_);refine rq rfl rfl rfl rfl (gtt r21) ?_ (hp:=r22);refine w_3 ?_
      exact hx8 rfl rfl rfl (⟨ccb (by first | rfl | (rw [hJ.2];simp) | simp_all),trivial⟩)
     have h22:=tz1 (eg r22);have hjz:db t ps = 0:=by simpa using r22
     have ht1:bd t = 0:=by
      apply Classical.byContradiction;intro h;exact h ((lc (ps:=ps) h).symm.trans hjz)
     have ht2:lvE t.attrs.length ps = 0:=by
      apply Classical.byContradiction;intro h;exact h ((la ht1 h).symm.trans hjz)
     have hJ:=my (cr.1 ht1) ht2 (fun r hr v hv=>hen r hr v hv ht1) hjz;(iterate 2 refine qy ?_ (hg:=(gff r22)));refine qcx wt (lb (cb t ps) t hJ.1 (cr.1 ht1)) ?_ (hg:=(gff r22));refine qy ?_ (hg:=(gtt r21));refine w_3 ?_
     exact hx8 rfl rfl rfl (⟨ccb (by first | rfl | (rw [hJ.2];simp) | simp_all),trivial⟩)
    have h21:=b4 r20 r21;(iterate 3 refine k9 (gft r21) ?_);(iterate 3 refine k9 rfl ?_);refine k9 (gft r21) ?_;refine w_3 ?_
    exact hx8 rfl rfl rfl (⟨ccb (by first | rfl | (rw [hJ.2];simp) | simp_all),trivial⟩)
   have h20:=tz2 r20;(iterate 3 refine k9 (gft r20) ?_);refine w_2 ?_;(iterate 7 refine k9 rfl ?_);refine w_3 ?_
   exact hx8 rfl rfl rfl (⟨ccb (by first | rfl | (rw [hJ.2];simp) | simp_all),trivial⟩)
  have h18:=tz2 (b4 r17 r18);(iterate 4 refine k9 (gft r18) ?_);refine w_8 ?_;refine qcx wq (p9 ps.length false (lf sC ps) b5h) ?_;refine qcx tl (oo t ps) ?_;refine w_3 ?_;refine m9 9 ?_;refine w_8 ?_
  refine qcx w6 (pj t ps fun h1 _=>⟨hr6,fun r hr v hv=>hen r hr v hv h1⟩) ?_;refine w_3 ?_;refine m9 10 ?_;refine w_9 ?_;refine ab rfl rfl (fun r23=>?_) (fun r23=>?_)
  ·
   have h23:=tz1 r23;(iterate 2 refine qy ?_ (hg:=(gtt r23)));refine qcx vw (c47 (cb t ps) (cb t ps) hJok hJok) ?_ (hg:=(gtt r23));refine w_2 ?_;refine ab rfl rfl (fun r24=>?_) (fun r24=>?_)
   ·
    have h24:=b4 r23 r24;(iterate 3 refine qy ?_ (hg:=(gtt r24)));refine ab rfl rfl (fun r25=>?_) (fun r25=>?_)
    ·
     have h25:=tz2 (ec r25);(iterate 3 refine k9 (gtf r25) ?_);refine rq rfl rfl rfl rfl (gtt r24) ?_ (hp:=r25);refine w_3 ?_
     exact hx8 rfl rfl rfl (⟨ccb (by first | rfl | (rw [hJ.2];simp) | simp_all),trivial⟩)
    have h25:=tz1 (eg r25);have hjz:db t ps = 0:=by simpa using r25
    have ht1:bd t = 0:=by
     apply Classical.byContradiction;intro h;exact h ((lc (ps:=ps) h).symm.trans hjz)
    have ht2:lvE t.attrs.length ps = 0:=by
     apply Classical.byContradiction;intro h;exact h ((la ht1 h).symm.trans hjz)
    have hJ:=my (cr.1 ht1) ht2 (fun r hr v hv=>hen r hr v hv ht1) hjz;(iterate 2 refine qy ?_ (hg:=(gff r25)));refine qcx wt (lb (cb t ps) t hJ.1 (cr.1 ht1)) ?_ (hg:=(gff r25));refine qy ?_ (hg:=(gtt r24));refine w_3 ?_
    exact hx8 rfl rfl rfl (⟨ccb (by first | rfl | (rw [hJ.2];simp) | simp_all),trivial⟩)
   have h24:=b4 r23 r24;(iterate 3 refine k9 (gft r24) ?_);(iterate 3 refine k9 rfl ?_);refine k9 (gft r24) ?_;refine w_3 ?_
   exact hx8 rfl rfl rfl (⟨ccb (by first | rfl | (rw [hJ.2];simp) | simp_all),trivial⟩)
  have h23:=tz2 r23;(iterate 3 refine k9 (gft r23) ?_);refine w_2 ?_;(iterate 7 refine k9 rfl ?_);refine w_3 ?_
  exact hx8 rfl rfl rfl (⟨ccb (by first | rfl | (rw [hJ.2];simp) | simp_all),trivial⟩)
 have h17:=tz2 r17;(iterate 4 refine k9 (gft r17) ?_);refine w_2 ?_;(iterate 4 refine k9 rfl ?_);refine w_8 ?_;refine qcx wq (p9 ps.length false (lf sC ps) b5h) ?_;refine qcx tl (oo t ps) ?_;refine w_3 ?_
 refine m9 11 ?_;refine w_8 ?_;refine qcx w6 (pj t ps fun h1 _=>⟨hr6,fun r hr v hv=>hen r hr v hv h1⟩) ?_;refine w_3 ?_;refine m9 12 ?_;refine w_9 ?_;refine ab rfl rfl (fun r26=>?_) (fun r26=>?_)
 ·
  have h26:=tz1 r26;(iterate 2 refine qy ?_ (hg:=(gtt r26)));refine qcx vw (c47 (cb t ps) (cb t ps) hJok hJok) ?_ (hg:=(gtt r26));refine w_2 ?_;refine ab rfl rfl (fun r27=>?_) (fun r27=>?_)
  ·
   have h27:=b4 r26 r27;(iterate 3 refine qy ?_ (hg:=(gtt r27)));refine ab rfl rfl (fun r28=>?_) (fun r28=>?_)
   ·
    have h28:=tz2 (ec r28);(iterate 3 refine k9 (gtf r28) ?_);refine rq rfl rfl rfl rfl (gtt r27) ?_ (hp:=r28);refine w_3 ?_
    exact hx8 rfl rfl rfl (⟨ccb (by first | rfl | (rw [hJ.2];simp) | simp_all),trivial⟩)
   have h28:=tz1 (eg r28);have hjz:db t ps = 0:=by simpa using r28
   have ht1:bd t = 0:=by
    apply Classical.byContradiction;intro h;exact h ((lc (ps:=ps) h).symm.trans hjz)
   have ht2:lvE t.attrs.length ps = 0:=by
    apply Classical.byContradiction;intro h;exact h ((la ht1 h).symm.trans hjz)
   have hJ:=my (cr.1 ht1) ht2 (fun r hr v hv=>hen r hr v hv ht1) hjz;(iterate 2 refine qy ?_ (hg:=(gff r28)));refine qcx wt (lb (cb t ps) t hJ.1 (cr.1 ht1)) ?_ (hg:=(gff r28));refine qy ?_ (hg:=(gtt r27));refine w_3 ?_
   exact hx8 rfl rfl rfl (⟨ccb (by first | rfl | (rw [hJ.2];simp) | simp_all),trivial⟩)
  have h27:=b4 r26 r27;(iterate 3 refine k9 (gft r27) ?_);(iterate 3 refine k9 rfl ?_);refine k9 (gft r27) ?_;refine w_3 ?_
  exact hx8 rfl rfl rfl (⟨ccb (by first | rfl | (rw [hJ.2];simp) | simp_all),trivial⟩)
 have h26:=tz2 r26;(iterate 3 refine k9 (gft r26) ?_);refine w_2 ?_;(iterate 7 refine k9 rfl ?_);refine w_3 ?_
 exact hx8 rfl rfl rfl (⟨ccb (by first | rfl | (rw [hJ.2];simp) | simp_all),trivial⟩)
end
end Go.Hx

/- A part of the proof: Jw4 Jrw8 Jp10. -/
import Derived.Test.YteklilhbjjofbaaGreatDoorLe31
import Derived.Test.YteklilhbjjofbaaGreatDoorLe33
set_option linter.all false
set_option maxRecDepth 100000
set_option maxHeartbeats 1000000
namespace Go.Hx
section
open Go.Proofs
def tl:goodFn b65 30:=wgx Tryz.func30
def oo (t:Tbl) (ps:List AS):aa b65 30 [t.pc,pP (asl ps)] (af [(cb t ps).pc,pI (db t ps)]):=by
 refine hpx (nt:=182) Tryz.func30 ?_;refine sx7 ?_;refine m9 0 ?_;refine m9 1 ?_;refine w_6 ?_;refine qcx (wgx Tryz.func61) (c88 t) ?_;refine w_7 ?_;refine hcn (fun h0=>?_) (fun h0=>?_)
 · refine w_7 ?_;refine hrr ?_;have he:=lc (ps:=ps) (by assumption:¬ bd t = 0);exact f9 rfl rfl (⟨(by rw [sh he b5i];exact CoC.agg ⟨CoP.refl _,kx,kx,trivial⟩),cci he.symm,trivial⟩)
 have h0:bd t = 0:=by assumption
 have ht:=cr.1 h0;have hna:=ht.na;have hnr:=ht.nr;have hw:∀ i,i < t.rows.length -> (t.rows.getD i default).vals.length = t.attrs.length:=fun i hi=>ht.width hi;have hw':∀ i:Nat,i < t.rows.length -> (t.rows.getD ((i:Int)).toNat default).vals.length = t.attrs.length:=fun i hi=>ht.width hi;refine j3 ?_;refine qcx ab9 (a61 t.attrs.length ps) ?_;refine w_7 ?_;refine hcn (fun h1=>?_) (fun h1=>?_)
 · refine w_7 ?_;refine hrr ?_;have he:=la h0 (by assumption:¬ lvE t.attrs.length ps = 0);exact f9 rfl rfl (⟨(by rw [sh he b5i];exact CoC.agg ⟨CoP.refl _,kx,kx,trivial⟩),cci he.symm,trivial⟩)
 have hv:lvE t.attrs.length ps = 0:=by assumption
 have hps:=s6 hv;have hp64:=as4 hv;refine w_5 ?_;refine m9 2 ?_;refine qy ?_;refine m9 3 ?_;refine w_9 ?_;refine c7 (ka 1 (ka 2 (ka 4 (ka 7 (ka 9 (ka 43 kn)))))) (kb 0 (kb 1 (kb 3 km))) (fun a=>⟨[(44,some (vI a))],[(2,some (.arr true 1 110 t.attrs.length (t8 t.rows a)))]⟩) t.attrs.length ⟨tt,⟨⟨_,rfl,(aih rfl fun _=>akm)⟩,trivial⟩⟩ ?_;rintro a ha;refine w_5 ?_;refine hcd (fun h2=>?_) (fun h2=>?_)
 ·
  refine dy ?_;refine a8k 2 a 30 true 3 114 (lf Val.c (mo t.rows a)) b5n rfl b5h aru (CoP.sl rfl (.inr rfl) (fun h=>h) (fun i j hi _=>absurd hi (b2o i))) (.inr rfl) rfl rfl ?_;refine w_7 ?_;refine c7 (ka 1 (ka 2 (ka 4 (ka 7 (ka 9 (ka 10 (ka 43 (ka 44 (ka 48 (ka 49 kn)))))))))) (kb 0 (kb 1 (kb 3 km))) (fun i=>⟨[(50,some (vI i))],[(2,some (.arrh 1 110 t.attrs.length [30] (fe a (.ref 30 i) (t8 t.rows a)))),(30,some (.arr true 3 114 i (lf Val.c (mo t.rows a))))]⟩) t.rows.length kk ?_;rintro i hi;refine w_5 ?_;refine hcd (fun h3=>?_) (fun h3=>?_)
  · refine w_7 ?_;refine m9 4 ?_;refine z7 ?_;refine rq (out:=Out.mk _ (.v (.one (.ref 30 i)))) rfl rfl rfl (congrArg (fun x=>some (Out.mk _ (.v (.one x)))) xt) rfl ?_;refine w_3 ?_;refine rq rfl rfl rfl rfl rfl ?_ (hp:=⟨rfl,by omega,by rw [hw' i b5h];omega⟩);refine qy ?_;refine m9 5 ?_;refine Go.Hx.r9 6 true ?_;refine w_8 ?_;exact lpx (i + 1) ⟨tt,⟨⟨_,rfl,(ads rfl)⟩,⟨_,rfl,(aiq b5h (sw (CoP.refl _) (CoP.refl _) (CoP.refl _)))⟩,uu⟩⟩
  obtain rfl:i = t.rows.length:=by omega
  refine w_9 ?_;refine rq (out:=Out.mk _ (.v (.one (.ref 30 t.rows.length)))) rfl rfl rfl (congrArg (fun x=>some (Out.mk _ (.v (.one x)))) xt) rfl ?_;refine gl rfl rfl rfl rfl rfl rfl (wgx Tryz.func62) (aur 30 (mo t.rows a) (by rw [xp];omega) _) (⟨congrArg (HV.ref 30) xp.symm,CoP.refl _,trivial⟩) ⟨⟨_,rfl,as2 (fun h=>h) xp.symm⟩,trivial⟩ rfl rfl ?_;refine j3 ?_;refine rq (out:=Out.mk _ (.v (.one (.ref 30 t.rows.length)))) rfl rfl rfl (congrArg (fun x=>some (Out.mk _ (.v (.one x)))) xt) rfl ?_;refine gl rfl rfl rfl rfl rfl rfl (wgx Tryz.func64) ((au3 (a2n dl (mo t.rows a))).swap 900 30) (⟨congrArg (HV.ref 30) (by rw [ad3,xp]),trivial⟩) ⟨⟨_,rfl,co_encL' (fun h=>h) (by rw [ad3])⟩,trivial⟩ rfl rfl ?_;refine w_8 ?_;exact lpx (a + 1) ⟨tt,⟨⟨_,rfl,(ac7 rfl ak9 aqb)⟩,uu⟩⟩
 obtain rfl:a = t.attrs.length:=by omega
 refine w_3 ?_;refine ep 3 2 31 true 1 127 (lf (lvC t.rows t.attrs.length) ps) b5n rfl rfl (CoP.sl rfl (.inr rfl) (fun h=>h) (fun i j hi _=>absurd hi (b2o i))) (.inr rfl) rfl rfl ?_;refine w_6 ?_;refine c7 (ka 2 (ka 4 (ka 7 (ka 9 (ka 98 (ka 99 kn)))))) (kb 2 (kb 0 (kb 1 km))) (fun p=>⟨[(100,some (vI p))],[(3,some (.box [.p (asl ps), .ref 2 t.attrs.length, .ref 31 p, .p (ju (.slice none 0 0))])),(31,some (.arr true 1 127 p (lf (lvC t.rows t.attrs.length) ps)))]⟩) ps.length kk ?_;rintro p hp;refine dn ?_;refine df 98 rfl fun hpn=>?_;refine w_4 ?_;refine hcd (fun h4=>?_) (fun h4=>?_)
 ·
  refine j3 ?_;refine rm 7 rfl rfl rfl rfl rfl rfl ?_ (hp:=⟨by omega,by omega,by omega,by show (8:Int) * _ <= _;omega⟩);refine dy ?_;refine c7 (ka 2 (ka 4 (ka 7 (ka 9 (ka 14 (ka 15 (ka 98 (ka 99 (ka 100 (ka 108 kn)))))))))) (kb 3 (kb 31 (kb 2 (kb 0 (kb 1 km))))) (fun k=>⟨[(109,some (vI k))],[(7,some (.arr true 1 128 (t.attrs.length + 1) (lvT t.rows (ps.getD p default) k)))]⟩) (t.attrs.length + 1) ⟨tt,⟨⟨_,rfl,(alj (by first | rfl | omega) fun _=>CoP.refl _)⟩,trivial⟩⟩ ?_;rintro k hk;refine w_5 ?_;refine hcd (fun h5=>?_) (fun h5=>?_)
  ·
   refine w_9 ?_;refine akg 7 (.arrh 1 128 (t.attrs.length + 1) [] fun i j=>.p (lvT t.rows (ps.getD p default) k i j)) rfl avb ?_;refine w_3 ?_;refine m9 8 ?_;refine j5 ?_;refine c7 (ka 2 (ka 4 (ka 7 (ka 9 (ka 14 (ka 15 (ka 16 (ka 98 (ka 99 (ka 100 (ka 108 (ka 109 (ka 117 (ka 118 kn)))))))))))))) (kb 3 (kb 31 (kb 2 (kb 0 (kb 1 km))))) (fun i=>⟨[(119,some (vI i))],[(7,some (.arrh 1 128 (t.attrs.length + 1) [8] (fe k (.ref 8 0) (lvT t.rows (ps.getD p default) k)))),(8,some (.mp .str i (re (t.rows.take i) (ps.getD p default) k)))]⟩) t.rows.length ⟨tt,⟨⟨_,rfl,(ad9 rfl)⟩,⟨_,rfl,(ari fun _=>rfl)⟩,trivial⟩⟩ ?_;rintro i hi;refine w_5 ?_;refine hcd (fun h6=>?_) (fun h6=>?_)
   · refine w_7 ?_;refine m9 9 ?_;refine w_6 ?_;refine rq (out:=Out.mk _ (.v (.one (.ref 8 0)))) rfl rfl rfl (congrArg (fun x=>some (Out.mk _ (.v (.one x)))) xt) rfl ?_;refine w_3 ?_;refine rq rfl rfl rfl rfl rfl ?_ (hp:=⟨rfl,trivial,⟨by omega,by rw [hw' i b5h];omega⟩,trivial⟩);refine qy ?_;refine rc rfl rfl rfl rfl rfl rfl aal (a5l ((t.rows.getD i default).vals.take k) (ps.getD p default) (by rw [b2y];omega)) (⟨CoC.one (alw (by rw [hw' i b5h];omega)),CoC.refl _,trivial⟩) rfl rfl ?_;refine rs rfl rfl rfl rfl rfl ?_ (hp:=⟨rfl,aa3 (by rw [b2y];omega),by show i < maxLen;unfold maxLen;omega⟩);refine w_6 ?_;exact lpx (i + 1) ⟨tt,⟨u9,⟨_,rfl,(arf b5h rfl)⟩,uu⟩⟩
   obtain rfl:i = t.rows.length:=by omega
   refine c6 ?_;refine a43 (id:=8) 7 (lvT t.rows (ps.getD p default) (k + 1)) rfl rfl rfl axa ?_;refine w_4 ?_;exact lpx (k + 1) kk
  obtain rfl:k = t.attrs.length + 1:=by omega
  refine c6 ?_;refine cz 15 rfl rfl rfl ?_;refine w_7 ?_;refine m9 10 ?_;refine Go.Hx.r9 11 true ?_;refine w_8 ?_;exact lpx (p + 1) ⟨tt,⟨u9,⟨_,rfl,(ani rfl)⟩,uu⟩⟩
 obtain rfl:p = ps.length:=by omega
 refine w_2 ?_;refine ct 3 2 rfl rfl rfl rfl rfl ?_;refine ct 3 1 rfl rfl rfl rfl rfl ?_;refine ep 3 3 32 true 1 110 (lf vlC []) b5n rfl rfl (CoP.sl rfl (.inr rfl) (fun h=>h) (fun i j hi _=>absurd hi (b2o i))) (.inr rfl) rfl rfl ?_;refine w_2 ?_;refine gl rfl rfl rfl rfl rfl rfl (wgx Tryz.func66) (((atc t.rows ps t.attrs.length b5h hps t.attrs.length [] [] (b30 _) (b2n _)).swap 1000 3).swap 1001 32) (⟨rfl,kx,trivial⟩) ⟨⟨_,rfl,⟨CoH.refl _,al9,CoP.refl _,rfl,trivial⟩⟩,uu⟩ rfl rfl ?_;refine j5 ?_;refine hcd (fun h7=>?_) (fun h7=>?_)
 · refine w_6 ?_;refine hrr ?_;have he:=a6i h0 hv b5i;exact f9 rfl rfl (⟨(by rw [sh he b5n];exact CoC.agg ⟨CoP.refl _,kx,kx,trivial⟩),cci he.symm,trivial⟩)
 have hJ:(dx t.rows ps (be t.rows t.attrs.length) t.attrs.length [] []).length = (gw t.rows ps t.attrs.length).length:=rfl;refine w_7 ?_;refine qcx (wgx Tryz.func67) (c77 t.attrs b5h) ?_;refine qy ?_;refine m9 12 ?_;refine w_5 ?_;refine ct 3 3 rfl rfl rfl rfl rfl ?_;refine w_9 ?_;refine ep 12 2 33 true 2 112 (lf Row.c (cw (gw t.rows ps t.attrs.length))) b5n rfl rfl (CoP.sl rfl (.inr rfl) (fun h=>h) (fun i j hi _=>absurd hi (b2o i))) (.inr rfl) rfl rfl ?_;refine c7 (ka 4 (ka 19 (ka 164 (ka 165 kn)))) (kb 1 km) (fun i=>⟨[(166,some (vI i))],[(12,some (.box [.p (.raw (.string t.name)), .p (ve t.attrs), .ref 33 i])),(33,some (.arr true 2 112 i (lf Row.c (cw (gw t.rows ps t.attrs.length)))))]⟩) ((gw t.rows ps t.attrs.length).length) kk ?_;rintro i hi;refine w_5 ?_;refine hcd (fun h8=>?_) (fun h8=>?_)
 · refine av7 ?_;refine m9 13 ?_;refine Go.Hx.r9 14 true ?_;refine w_7 ?_;exact lpx (i + 1) ⟨tt,⟨u9,⟨_,rfl,(adf b5h (CoP.refl _) (CoP.refl _))⟩,uu⟩⟩
 obtain rfl:i = (gw t.rows ps t.attrs.length).length:=by omega
 refine w_2 ?_;refine ct 12 2 rfl rfl rfl rfl rfl ?_;refine w_5 ?_;refine hrr ?_;have he:=a5k h0 hv b5i;exact f9 rfl rfl (⟨(by rw [a0m he];exact CoC.agg ⟨CoP.refl _,CoP.refl _,CoP.sl i9 (.inl rfl) (fun h=>h) (fun _ _ _ _=>CoP.refl _),trivial⟩),cci he.symm,trivial⟩)
end
section
open Go.Proofs
def a3p {t:Tbl} {ps:List AS} {n:Nat} (h:t.rows.length = 0):a8 t ps n 0 = []:=if_pos h
def a3j {t:Tbl} {ps:List AS} {n:Nat} (h:¬ t.rows.length = 0):a8 t ps n 0 = [List.replicate n default]:=if_neg h
def aie {n m:Nat} {cl:Bool} {f:Nat -> Nat -> PV} (hm:m = n) (h0:∀ i,f i 0 = .raw (.int .i64 0)) (h1:∀ i,f i 1 = .raw (.int .i64 0)) (h2:∀ i,f i 2 = .raw (.string ⟨#[]⟩)):CoP (.sl m 3 cl f) (vals (List.replicate n default)):=by
 subst hm;refine CoP.sl b4z (.inl rfl) (fun h=>by cases h) fun i j hi hj=>CoP.of_eq ?_;show f i j = Val.c ((List.replicate m default).getD i default) j
 have e:(List.replicate m (default:Val)).getD i default = (⟨0,0,⟨#[]⟩⟩:Val):=by
  rw [b9 _ _ (by rw [b4z];exact hi),List.getElem_replicate];rfl
 rw [e];revert j;exact sw (h0 i) (h1 i) (h2 i)
def al6 (l:List Row) (v:List Val) (hl:qe l) (hv:l7 v):ci b65 71 [.one (.ref 1000 l.length), .one (.p (vals v))] [(1000, .arr true 2 112 l.length (lf Row.c l))] (.v (.one (.p (.raw (.bool (a5e l v)))))) [(1000, .arr true 2 112 l.length (lf Row.c l))] [1000]:=by
 refine hfx (nt:=19) Tryz.func71 ?_;refine dn ?_;refine afr 1000 rfl fun hlen=>?_;refine w_9 ?_;refine ai (ι:=Nat) (ka 0 (ka 1 kn)) (kb 1000 km) (fun i=>⟨[(5,some (vI i))],[]⟩) (fun i=>i <= l.length /\ (∀ j,j < i -> decide ((l.getD j default).vals = v) = false)) (fun i=>l.length - i) (0) (⟨b2n _,bh⟩) kk ?_;rintro i ⟨hi,hIi⟩;refine w_8 ?_;refine hcd (fun h0=>?_) (fun h0=>?_)
 ·
  refine j5 ?_;refine qcx ac4 (c81 (l.getD i default).vals v (hl i b5h).2 hv) ?_;refine cg ?_;refine hcb (fun h1=>?_) (fun h1=>?_)
  · refine w_4 ?_;refine hrr ?_;exact ⟨_,_,rfl,b5j,(by show CoP (.raw (.bool _)) (.raw (.bool _));exact CoP.of_eq (congrArg (fun z=>PV.raw (.bool z)) (aoi (p:=fun r:Row=>decide (r.vals = v)) (i:=i) b5h b5i).symm)),uu⟩
  refine w_6 ?_;refine lpz (i + 1) kk ?_;exact ⟨by show i + 1 <= _;omega,ax hIi b5i⟩
 obtain rfl:i = l.length:=by omega
 refine w_5 ?_;refine hrr ?_;exact ⟨_,_,rfl,b5j,(by show CoP (.raw (.bool _)) (.raw (.bool _));exact CoP.of_eq (congrArg (fun z=>PV.raw (.bool z)) (ap0 (p:=fun r:Row=>decide (r.vals = v)) hIi).symm)),uu⟩
set_option maxHeartbeats 4000000
def w6:goodFn b65 33:=wgx Tryz.func33
def ak7 (t:Tbl) (ps:List AS) (hr6:t.rows.length <= 6) (hT:TOk t) (hv:lvE t.attrs.length ps = 0) (he:∀ r ∈ t.rows,∀ v ∈ r.vals,eu v) (hne:¬ t.rows.length = 0):aa b65 33 [t.pc,pP (asl ps)] (af [(cb t ps).pc,pI (db t ps)]):=by
 refine hpx (nt:=173) Tryz.func33 ?_;have hok:=hT.ok;have hn8:t.attrs.length <= 8:=by have:=(j6 hv).2.1;omega
 have hps:=(j6 hv).2.2.1
 have hwd:∀ r ∈ t.rows,r.vals.length = t.attrs.length:=fun r hr=>by
  obtain ⟨i,hi,rfl⟩:=s8 hr;exact hT.width hi
 have htz:=cr.2 hT;refine sx7 ?_;refine m9 0 ?_;refine m9 1 ?_;refine w_6 ?_;refine qcx a5c (c82 t) ?_;refine w_7 ?_;refine hcn (fun h0=>?_) (fun h0=>?_)
 · exfalso;omega
 refine j3 ?_;refine qcx aaf (a3b t.attrs.length ps) ?_;refine w_7 ?_;refine hcn (fun h1=>?_) (fun h1=>?_)
 · exfalso;omega
 refine w_2 ?_;refine a4b [0,1] [2,3,4] rfl ?_;refine a4h (E:=o6) o9 ?_;refine qy ?_;refine m9 2 ?_;refine cg ?_;refine ao5 ?_;refine a7p 37 rfl rfl rfl ?_;refine afk ?_;refine a4h (E:=o6) (L1:=[2,3,4]) (L2:=[]) o9 ?_;refine qy ?_;refine m9 3 ?_;refine w_2 ?_;refine ahv ?_;refine w_8 ?_;refine hcd (fun h2=>?_) (fun h2=>?_)
 · exfalso;omega
 refine w_3 ?_
 first | (refine ur 9 901 rfl rfl rfl rfl ?_) | (refine gn 9 901 true 2 112 (lf Row.c []) b5n rfl (CoP.sl rfl (.inr rfl) (fun h=>h) (fun i j hi _=>absurd hi (b2o i))) (.inr rfl) rfl ?_)
 refine w_4 ?_;refine c7 (ka 1 (ka 2 (ka 4 (ka 7 kn)))) (kb 0 (kb 1 km)) (fun a=>⟨[(9,some (.v (.one (.ref 901 (mkR (a8 t ps t.attrs.length a)).length)))),(10,some (vI a))],[(901,some (.arr true 2 112 (mkR (a8 t ps t.attrs.length a)).length (lf Row.c (mkR (a8 t ps t.attrs.length a)))))]⟩) t.attrs.length ⟨⟨⟨_,rfl,(by first | (rw [a3p b5h];exact CoR.refl _) | (rw [a3j b5h];exact CoR.refl _))⟩,tt⟩,⟨⟨_,rfl,(by first | (rw [a3p b5h];exact CoO.refl _) | (rw [a3j b5h];exact ⟨fun h=>h,rfl,rfl,rfl,ava (lt2 (CoP.refl _) (aie rfl (fun _=>rfl) (fun _=>rfl) (fun _=>rfl)))⟩))⟩,trivial⟩⟩ ?_;rintro a ha;refine w_7 ?_;refine hcd (fun h3=>?_) (fun h3=>?_)
 ·
  refine j3 ?_;refine gn 11 900 true 2 112 (lf Row.c []) b5n rfl (CoP.sl rfl (.inr rfl) (fun h=>h) (fun i j hi _=>absurd hi (b2o i))) (.inr rfl) rfl ?_;refine c7 (ka 1 (ka 2 (ka 4 (ka 7 (ka 9 (ka 10 kn)))))) (kb 901 (kb 0 (kb 1 km))) (fun i=>⟨[(11,some (.v (.one (.ref 900 (mkR (bj t ps a (a8 t ps t.attrs.length a) i)).length)))),(12,some (vI i))],[(900,some (.arr true 2 112 (mkR (bj t ps a (a8 t ps t.attrs.length a) i)).length (lf Row.c (mkR (bj t ps a (a8 t ps t.attrs.length a) i)))))]⟩) ((a8 t ps t.attrs.length a).length) kk ?_;rintro i hi;have hlvl:(a8 t ps t.attrs.length a).length <= 1679616:=a0f hr6 b5h;have hril:(bj t ps a (a8 t ps t.attrs.length a) i).length <= 6 * i:=y6 hr6 hi;have hmr:=jz (L:=(bj t ps a (a8 t ps t.attrs.length a) i));have hml:=jz (L:=(a8 t ps t.attrs.length a));refine w_8 ?_;refine hcd (fun h4=>?_) (fun h4=>?_)
  ·
   refine w_8 ?_;refine c7 (ka 1 (ka 2 (ka 4 (ka 7 (ka 9 (ka 10 (ka 12 kn))))))) (kb 901 (kb 0 (kb 1 km))) (fun k=>⟨[(11,some (.v (.one (.ref 900 (mkR (ce t ps a ((a8 t ps t.attrs.length a).getD i default) (bj t ps a (a8 t ps t.attrs.length a) i) k)).length)))),(13,some (vI k))],[(900,some (.arr true 2 112 (mkR (ce t ps a ((a8 t ps t.attrs.length a).getD i default) (bj t ps a (a8 t ps t.attrs.length a) i) k)).length (lf Row.c (mkR (ce t ps a ((a8 t ps t.attrs.length a).getD i default) (bj t ps a (a8 t ps t.attrs.length a) i) k)))))]⟩) t.rows.length ⟨⟨⟨_,rfl,(by rw [ji];exact CoR.refl _)⟩,tt⟩,⟨⟨_,rfl,(by rw [ji];exact CoO.refl _)⟩,trivial⟩⟩ ?_;rintro k hk;have hrkl:(ce t ps a ((a8 t ps t.attrs.length a).getD i default) (bj t ps a (a8 t ps t.attrs.length a) i) k).length <= (bj t ps a (a8 t ps t.attrs.length a) i).length + k:=xo hk;have hmk:=jz (L:=(ce t ps a ((a8 t ps t.attrs.length a).getD i default) (bj t ps a (a8 t ps t.attrs.length a) i) k));refine w_9 ?_;refine hcd (fun h5=>?_) (fun h5=>?_)
   ·
    have hil:i < (a8 t ps t.attrs.length a).length:=by omega
    have hWo:WOk t.attrs.length ((a8 t ps t.attrs.length a).getD i default):=a4z hok hwd b5h _ (by rw [b9 _ _ (by omega:i < (a8 t ps t.attrs.length a).length)];exact b2q _);have hgi:((mkR (a8 t ps t.attrs.length a)).getD ((i:Int)).toNat default) = ⟨0,((a8 t ps t.attrs.length a).getD i default)⟩:=pe hil;have hgl:((mkR (a8 t ps t.attrs.length a)).getD ((i:Int)).toNat default).vals.length = t.attrs.length:=by rw [hgi];exact hWo.1
    have hkm:t.rows.getD k default ∈ t.rows:=(by rw [b9 _ _ (by omega:k < t.rows.length)];exact b2q _);have hkl:(t.rows.getD ((k:Int)).toNat default).vals.length = t.attrs.length:=hwd _ hkm;have hW:WOk t.attrs.length (((a8 t ps t.attrs.length a).getD i default).set a ((t.rows.getD k default).vals.getD a default)):=hWo.set (a0o hok hwd b5h hkm);have hRKo:∀ x ∈ (ce t ps a ((a8 t ps t.attrs.length a).getD i default) (bj t ps a (a8 t ps t.attrs.length a) i) k),WOk t.attrs.length x:=a5g (a5n (fun l hl r hr=>(a4z hok hwd b5h l hl).set (a0o hok hwd b5h hr)) b5h) (fun r hr=>hWo.set (a0o hok hwd b5h hr)) b5h;refine w_5 ?_;refine m9 4 ?_;refine w_5 ?_;refine Go.Hx.r9 5 true ?_;refine qy ?_;refine m9 6 ?_;refine age ?_;refine ct 6 1 rfl rfl rfl rfl rfl ?_;refine akg 6 (.box [.p (.raw (.int .i64 0)), .p (vals (((a8 t ps t.attrs.length a).getD i default).set a ((t.rows.getD k default).vals.getD a default)))]) rfl ⟨CoH.refl _,(by rw [show ((a8 t ps t.attrs.length a).getD i default) = ((mkR (a8 t ps t.attrs.length a)).getD ((i:Int)).toNat default).vals from by rw [hgi]];exact aql b5h rfl rfl rfl),trivial⟩ ?_;refine w_4 ?_;refine fc9 (wgx Tryz.func71) ((al6 (mkR (ce t ps a ((a8 t ps t.attrs.length a).getD i default) (bj t ps a (a8 t ps t.attrs.length a) i) k)) (((a8 t ps t.attrs.length a).getD i default).set a ((t.rows.getD k default).vals.getD a default)) (atf b5h hRKo) hW.2).swap 1000 900) uu ?_;refine w_9 ?_;refine c7 (ka 1 (ka 2 (ka 4 (ka 7 (ka 9 (ka 10 (ka 11 (ka 12 (ka 13 (ka 14 kn)))))))))) (kb 900 (kb 901 (kb 0 (kb 1 (kb 6 km))))) (fun p=>⟨[(15,some (vB (okQ t ps a (ce t ps a ((a8 t ps t.attrs.length a).getD i default) (bj t ps a (a8 t ps t.attrs.length a) i) k) (((a8 t ps t.attrs.length a).getD i default).set a ((t.rows.getD k default).vals.getD a default)) p))),(16,some (vI p))],[]⟩) ps.length ⟨⟨⟨_,rfl,(cob akz.symm)⟩,tt⟩,trivial⟩ ?_;rintro p hp;refine w_8 ?_;refine ab rfl rfl (fun r6=>?_) (fun r6=>?_)
    ·
     have h6:=tz1 r6;refine qy ?_ (hg:=(gtt r6));refine w_2 ?_;refine aj _ rfl (fun r7=>?_) (fun r7=>?_)
     · have h7:=b4 r6 r7;refine su ?_;refine qcx (wgx Tryz.func72) (avn t (ps.getD p default) ⟨0,(((a8 t ps t.attrs.length a).getD i default).set a ((t.rows.getD k default).vals.getD a default))⟩ ((a:Int) + 1) hok ⟨by show (((a8 t ps t.attrs.length a).getD i default).set a ((t.rows.getD k default).vals.getD a default)).length <= _;rw [hW.1];omega,hW.2⟩) ?_;refine w_8 ?_;exact lpx (p + 1) ⟨⟨⟨_,rfl,(cob (anb b5h b5r).symm)⟩,tt⟩,uu⟩
     have h7:=b4 r6 r7;have hokE:okQ t ps a (ce t ps a ((a8 t ps t.attrs.length a).getD i default) (bj t ps a (a8 t ps t.attrs.length a) i) k) (((a8 t ps t.attrs.length a).getD i default).set a ((t.rows.getD k default).vals.getD a default)) p = okW t ps a (ce t ps a ((a8 t ps t.attrs.length a).getD i default) (bj t ps a (a8 t ps t.attrs.length a) i) k) (((a8 t ps t.attrs.length a).getD i default).set a ((t.rows.getD k default).vals.getD a default)):=af4 b5h (by rintro ⟨h1,h2⟩;first | omega | simp_all);refine w_5 ?_;refine aj _ rfl (fun r8=>?_) (fun r8=>?_)
     ·
      have h8:=r8;have hq:okW t ps a (ce t ps a ((a8 t ps t.attrs.length a).getD i default) (bj t ps a (a8 t ps t.attrs.length a) i) k) (((a8 t ps t.attrs.length a).getD i default).set a ((t.rows.getD k default).vals.getD a default)) = true:=hokE.symm.trans r8;have hnx:mkR (ce t ps a ((a8 t ps t.attrs.length a).getD i default) (bj t ps a (a8 t ps t.attrs.length a) i) (k + 1)) = mkR (ce t ps a ((a8 t ps t.attrs.length a).getD i default) (bj t ps a (a8 t ps t.attrs.length a) i) k) ++ [⟨0,(((a8 t ps t.attrs.length a).getD i default).set a ((t.rows.getD k default).vals.getD a default))⟩]:=by rw [jl b5h,aip hq,afj]
      refine w_3 ?_;refine m9 7 ?_;refine Go.Hx.r9 8 true ?_;refine w_7 ?_
      first | (refine lpz (k + 1) ⟨⟨⟨_, rfl, (gj hnx)⟩, tt⟩, ⟨⟨_, rfl, (y7 hnx (CoP.refl _) (CoP.refl _))⟩, uu⟩⟩ ?_; show k + 1 <= _; omega)
            | (refine lpz (k + 1) ⟨⟨⟨_,rfl,(gk hnx)⟩,tt⟩,⟨⟨_,rfl,(dz hnx)⟩,uu⟩⟩ ?_;show k + 1 <= _;omega)
     have h8:=r8;have hq:okW t ps a (ce t ps a ((a8 t ps t.attrs.length a).getD i default) (bj t ps a (a8 t ps t.attrs.length a) i) k) (((a8 t ps t.attrs.length a).getD i default).set a ((t.rows.getD k default).vals.getD a default)) = false:=hokE.symm.trans r8;have hnx:mkR (ce t ps a ((a8 t ps t.attrs.length a).getD i default) (bj t ps a (a8 t ps t.attrs.length a) i) (k + 1)) = mkR (ce t ps a ((a8 t ps t.attrs.length a).getD i default) (bj t ps a (a8 t ps t.attrs.length a) i) k):=by rw [jl b5h,ahu hq]
     refine w_6 ?_
     first | (refine lpz (k + 1) ⟨⟨⟨_, rfl, (gj hnx)⟩, tt⟩, ⟨⟨_, rfl, (y7 hnx (CoP.refl _) (CoP.refl _))⟩, uu⟩⟩ ?_; show k + 1 <= _; omega)
           | (refine lpz (k + 1) ⟨⟨⟨_,rfl,(gk hnx)⟩,tt⟩,⟨⟨_,rfl,(dz hnx)⟩,uu⟩⟩ ?_;show k + 1 <= _;omega)
    have h6:=tz2 r6;have hokE:okQ t ps a (ce t ps a ((a8 t ps t.attrs.length a).getD i default) (bj t ps a (a8 t ps t.attrs.length a) i) k) (((a8 t ps t.attrs.length a).getD i default).set a ((t.rows.getD k default).vals.getD a default)) p = okW t ps a (ce t ps a ((a8 t ps t.attrs.length a).getD i default) (bj t ps a (a8 t ps t.attrs.length a) i) k) (((a8 t ps t.attrs.length a).getD i default).set a ((t.rows.getD k default).vals.getD a default)):=af4 b5h (by rintro ⟨h1,h2⟩;omega);refine k9 (gft r6) ?_;refine w_8 ?_;refine aj _ rfl (fun r9=>?_) (fun r9=>?_)
    ·
     have h9:=r9;have hq:okW t ps a (ce t ps a ((a8 t ps t.attrs.length a).getD i default) (bj t ps a (a8 t ps t.attrs.length a) i) k) (((a8 t ps t.attrs.length a).getD i default).set a ((t.rows.getD k default).vals.getD a default)) = true:=hokE.symm.trans r9;have hnx:mkR (ce t ps a ((a8 t ps t.attrs.length a).getD i default) (bj t ps a (a8 t ps t.attrs.length a) i) (k + 1)) = mkR (ce t ps a ((a8 t ps t.attrs.length a).getD i default) (bj t ps a (a8 t ps t.attrs.length a) i) k) ++ [⟨0,(((a8 t ps t.attrs.length a).getD i default).set a ((t.rows.getD k default).vals.getD a default))⟩]:=by rw [jl b5h,aip hq,afj]
     refine w_3 ?_;refine m9 9 ?_;refine Go.Hx.r9 10 true ?_;refine w_7 ?_
     first | (refine lpz (k + 1) ⟨⟨⟨_, rfl, (gj hnx)⟩, tt⟩, ⟨⟨_, rfl, (y7 hnx (CoP.refl _) (CoP.refl _))⟩, uu⟩⟩ ?_; show k + 1 <= _; omega)
           | (refine lpz (k + 1) ⟨⟨⟨_,rfl,(gk hnx)⟩,tt⟩,⟨⟨_,rfl,(dz hnx)⟩,uu⟩⟩ ?_;show k + 1 <= _;omega)
    have h9:=r9;have hq:okW t ps a (ce t ps a ((a8 t ps t.attrs.length a).getD i default) (bj t ps a (a8 t ps t.attrs.length a) i) k) (((a8 t ps t.attrs.length a).getD i default).set a ((t.rows.getD k default).vals.getD a default)) = false:=hokE.symm.trans r9;have hnx:mkR (ce t ps a ((a8 t ps t.attrs.length a).getD i default) (bj t ps a (a8 t ps t.attrs.length a) i) (k + 1)) = mkR (ce t ps a ((a8 t ps t.attrs.length a).getD i default) (bj t ps a (a8 t ps t.attrs.length a) i) k):=by rw [jl b5h,ahu hq]
    refine w_6 ?_
    first | (refine lpz (k + 1) ⟨⟨⟨_, rfl, (gj hnx)⟩, tt⟩, ⟨⟨_, rfl, (y7 hnx (CoP.refl _) (CoP.refl _))⟩, uu⟩⟩ ?_; show k + 1 <= _; omega)
          | (refine lpz (k + 1) ⟨⟨⟨_,rfl,(gk hnx)⟩,tt⟩,⟨⟨_,rfl,(dz hnx)⟩,uu⟩⟩ ?_;show k + 1 <= _;omega)
   have hkr:k = t.rows.length:=by omega
   have hri:mkR (bj t ps a (a8 t ps t.attrs.length a) (i + 1)) = mkR (ce t ps a ((a8 t ps t.attrs.length a).getD i default) (bj t ps a (a8 t ps t.attrs.length a) i) k):=by rw [nj b5h,hkr]
   refine w_6 ?_;exact lpx (i + 1) ⟨⟨⟨_,rfl,(gk hri)⟩,tt⟩,⟨⟨_,rfl,(dz hri)⟩,uu⟩⟩
  have hie:i = (a8 t ps t.attrs.length a).length:=by omega
  have hla:mkR (a8 t ps t.attrs.length (a + 1)) = mkR (bj t ps a (a8 t ps t.attrs.length a) i):=by rw [hie];rfl
  refine w_5 ?_;refine a91 ⟨[(1,some _),(2,some _),(4,some _),(7,some _),(9,some _),(10,some _)],[(0,some _),(1,some _),(900,some _)]⟩ kk ?_;refine ur 9 901 rfl rfl rfl rfl ?_;refine w_5 ?_;exact lpx (a + 1) ⟨⟨⟨_,rfl,(gk hla)⟩,tt⟩,⟨⟨_,rfl,(dz hla)⟩,uu⟩⟩
 obtain rfl:a = t.attrs.length:=by omega
 have hmE:=jz (L:=(a8 t ps t.attrs.length t.attrs.length));refine w_8 ?_;refine hcd (fun h10=>?_) (fun h10=>?_)
 · refine w_6 ?_;refine hrr ?_;obtain ⟨e1,e2⟩:=aj6 hT hv he b5h;exact f9 rfl rfl (by rw [e1,e2];exact ⟨CoC.agg ⟨CoP.refl _,CoP.sl rfl (.inr rfl) (fun _=>rfl) (fun i j hi _=>absurd hi (b2o i)),CoP.sl rfl (.inr rfl) (fun _=>rfl) (fun i j hi _=>absurd hi (b2o i)),trivial⟩,CoC.refl _,trivial⟩)
 refine w_7 ?_;refine ai (ι:=Nat × List (List Val)) (ka 2 (ka 4 (ka 9 kn))) (kb 0 (kb 1 km)) (fun x=>⟨[(17,some (vI x.1))],[(901,some (.arr true 2 112 (mkR (a8 t ps t.attrs.length t.attrs.length)).length (lf Row.c (mkR x.2))))]⟩) (fun x=>tu br (a8 t ps t.attrs.length t.attrs.length) x.1 x.2) (fun x=>(a8 t ps t.attrs.length t.attrs.length).length - x.1) ((0,(a8 t ps t.attrs.length t.attrs.length))) (tu.start a63) kk ?_;rintro ⟨i,L⟩ hO;dsimp only at hO ⊢;have hOl:=hO.len;refine w_8 ?_;refine hcd (fun h11=>?_) (fun h11=>?_)
 ·
  refine w_9 ?_;refine ai (ι:=Nat × List (List Val)) (ka 2 (ka 4 (ka 9 (ka 17 kn)))) (kb 0 (kb 1 km)) (fun y=>⟨[(18,some (vI y.1))],[(901,some (.arr true 2 112 (mkR (a8 t ps t.attrs.length t.attrs.length)).length (lf Row.c (mkR y.2))))]⟩) (fun y=>ze br (a8 t ps t.attrs.length t.attrs.length) i y.1 y.2) (fun y=>y.1) ((i,L)) (hO.into b5h) kk ?_;rintro y hI;have hIl:=hI.len;have hIk:=hI.ki;have hIi:=hI.il;refine w_6 ?_;refine ab rfl rfl (fun r12=>?_) (fun r12=>?_)
  ·
   have h12:=tz1 r12;(iterate 11 refine qy ?_ (hg:=(gtt r12)));refine rc rfl rfl rfl rfl rfl rfl abg (ald (y.2.getD y.1 default) (y.2.getD (y.1 - 1) default) (zq hok hwd hI.mem b5h).2 (zq hok hwd hI.mem b5h).2) (⟨CoC.one (l6 b5h b5h),CoC.one (l6 b5h b5h),trivial⟩) rfl (gtt r12) ?_;refine qy ?_ (hg:=(gtt r12));refine w_3 ?_;refine aj _ rfl (fun r13=>?_) (fun r13=>?_)
   · have h13:=tz1 (b4 r12 r13);refine avt ?_;refine lpz (y.1 - 1,swL y.2 y.1) ⟨⟨⟨_,rfl,(coi b5m)⟩,tt⟩,⟨⟨_,rfl,(ahz (L:=y.2) (k:=y.1) b5h b5h b5h b5h rfl (a09 (k:=y.1 - 1) b5h b5h) (l6 (k:=y.1 - 1) b5h b5h) (a09 (k:=y.1) b5h b5h) (l6 (k:=y.1) b5h b5h) b5h)⟩,uu⟩⟩ ?_;exact hI.step ku b5h b5r
   have h13:=tz2 (b4 r12 r13);refine w_6 ?_;refine lpz (i + 1,y.2) kk ?_;exact hI.done ku b5r
  have h12:=tz2 r12;(iterate 13 refine k9 (gft r12) ?_);refine dy ?_;refine lpz (i + 1,y.2) kk ?_
  exact hI.done ku b5r
 have hoE:=hO.fin (c:=br) b5h;obtain ⟨e1,e2⟩:=aop hT hv he b5h hoE hO.mem;have hlE8:(a8 t ps t.attrs.length t.attrs.length).length <= 1679616:=a0f hr6 hn8;refine w_7 ?_;refine c7 (ka 2 (ka 4 (ka 9 kn))) (kb 0 (kb 1 km)) (fun i=>⟨[(19,some (vI i))],[(901,some (.arr true 2 112 (mkR (a8 t ps t.attrs.length t.attrs.length)).length (lf Row.c (idR L i))))]⟩) ((a8 t ps t.attrs.length t.attrs.length).length) ⟨tt,⟨⟨_,rfl,(by rw [ad0];exact CoO.refl _)⟩,trivial⟩⟩ ?_;rintro i hi;refine w_8 ?_;refine hcd (fun h14=>?_) (fun h14=>?_)
 · refine v2 ?_;exact lpx (i + 1) ⟨tt,⟨⟨_,rfl,(ai0 (L:=L) (i:=i) b5h b5h rfl b5h rfl)⟩,uu⟩⟩
 have hiE:i = (a8 t ps t.attrs.length t.attrs.length).length:=by omega
 refine w_2 ?_;refine cz 9 rfl rfl rfl ?_;refine w_3 ?_;refine gl rfl rfl rfl rfl rfl rfl (wgx Tryz.func74) (asz t (cw L) b5h (by rw [i9];omega) (a7z b5h hok hwd hO.mem)) (⟨v7.refl _,ail b5h b5h,trivial⟩) trivial rfl rfl ?_;refine w_3 ?_;refine ct 1 2 rfl rfl rfl rfl rfl ?_;exact hx8 rfl rfl rfl (by rw [e1,e2];exact ⟨CoC.agg ⟨CoP.refl _,CoP.refl _,CoP.sl rfl (.inl rfl) (fun h=>by cases h) (fun _ _ _ _=>CoP.refl _),trivial⟩,CoC.refl _,trivial⟩)
def ajt (t:Tbl) (ps:List AS) (hr6:t.rows.length <= 6) (hT:TOk t) (hv:lvE t.attrs.length ps = 0) (he:∀ r ∈ t.rows,∀ v ∈ r.vals,eu v) (hz:t.rows.length = 0):aa b65 33 [t.pc,pP (asl ps)] (af [(cb t ps).pc,pI (db t ps)]):=by
 refine hpx (nt:=173) Tryz.func33 ?_;have hok:=hT.ok;have hn8:t.attrs.length <= 8:=by have:=(j6 hv).2.1;omega
 have hps:=(j6 hv).2.2.1
 have hwd:∀ r ∈ t.rows,r.vals.length = t.attrs.length:=fun r hr=>by
  obtain ⟨i,hi,rfl⟩:=s8 hr;exact hT.width hi
 have htz:=cr.2 hT;refine sx7 ?_;refine m9 0 ?_;refine m9 1 ?_;refine w_6 ?_;refine qcx a5c (c82 t) ?_;refine w_7 ?_;refine hcn (fun h0=>?_) (fun h0=>?_)
 · exfalso;omega
 refine j3 ?_;refine qcx aaf (a3b t.attrs.length ps) ?_;refine w_7 ?_;refine hcn (fun h1=>?_) (fun h1=>?_)
 · exfalso;omega
 refine w_2 ?_;refine a4b [0,1] [2,3,4] rfl ?_;refine a4h (E:=o6) o9 ?_;refine qy ?_;refine m9 2 ?_;refine cg ?_;refine ao5 ?_;refine a7p 37 rfl rfl rfl ?_;refine afk ?_;refine a4h (E:=o6) (L1:=[2,3,4]) (L2:=[]) o9 ?_;refine qy ?_;refine m9 3 ?_;refine w_2 ?_;refine ahv ?_;refine w_8 ?_;refine hcd (fun h2=>?_) (fun h2=>?_)
 ·
  refine w_5 ?_
  first | (refine ur 9 901 rfl rfl rfl rfl ?_) | (refine gn 9 901 true 2 112 (lf Row.c []) b5n rfl (CoP.sl rfl (.inr rfl) (fun h=>h) (fun i j hi _=>absurd hi (b2o i))) (.inr rfl) rfl ?_)
  refine w_4 ?_;refine c7 (ka 1 (ka 2 (ka 4 (ka 7 kn)))) (kb 0 (kb 1 km)) (fun a=>⟨[(9,some (.v (.one (.ref 901 (mkR (a8 t ps t.attrs.length a)).length)))),(10,some (vI a))],[(901,some (.arr true 2 112 (mkR (a8 t ps t.attrs.length a)).length (lf Row.c (mkR (a8 t ps t.attrs.length a)))))]⟩) t.attrs.length ⟨⟨⟨_,rfl,(by first | (rw [a3p b5h];exact CoR.refl _) | (rw [a3j b5h];exact CoR.refl _))⟩,tt⟩,⟨⟨_,rfl,(by first | (rw [a3p b5h];exact CoO.refl _) | (rw [a3j b5h];exact ⟨fun h=>h,rfl,rfl,rfl,ava (lt2 (CoP.refl _) (aie rfl (fun _=>rfl) (fun _=>rfl) (fun _=>rfl)))⟩))⟩,trivial⟩⟩ ?_;rintro a ha;refine w_7 ?_;refine hcd (fun h3=>?_) (fun h3=>?_)
  ·
   refine j3 ?_;refine gn 11 900 true 2 112 (lf Row.c []) b5n rfl (CoP.sl rfl (.inr rfl) (fun h=>h) (fun i j hi _=>absurd hi (b2o i))) (.inr rfl) rfl ?_;refine c7 (ka 1 (ka 2 (ka 4 (ka 7 (ka 9 (ka 10 kn)))))) (kb 901 (kb 0 (kb 1 km))) (fun i=>⟨[(11,some (.v (.one (.ref 900 (mkR (bj t ps a (a8 t ps t.attrs.length a) i)).length)))),(12,some (vI i))],[(900,some (.arr true 2 112 (mkR (bj t ps a (a8 t ps t.attrs.length a) i)).length (lf Row.c (mkR (bj t ps a (a8 t ps t.attrs.length a) i)))))]⟩) ((a8 t ps t.attrs.length a).length) kk ?_;rintro i hi;have hlvl:(a8 t ps t.attrs.length a).length <= 1679616:=a0f hr6 b5h;have hril:(bj t ps a (a8 t ps t.attrs.length a) i).length <= 6 * i:=y6 hr6 hi;have hmr:=jz (L:=(bj t ps a (a8 t ps t.attrs.length a) i));have hml:=jz (L:=(a8 t ps t.attrs.length a));refine w_8 ?_;refine hcd (fun h4=>?_) (fun h4=>?_)
   ·
    refine w_8 ?_;refine c7 (ka 1 (ka 2 (ka 4 (ka 7 (ka 9 (ka 10 (ka 12 kn))))))) (kb 901 (kb 0 (kb 1 km))) (fun k=>⟨[(11,some (.v (.one (.ref 900 (mkR (ce t ps a ((a8 t ps t.attrs.length a).getD i default) (bj t ps a (a8 t ps t.attrs.length a) i) k)).length)))),(13,some (vI k))],[(900,some (.arr true 2 112 (mkR (ce t ps a ((a8 t ps t.attrs.length a).getD i default) (bj t ps a (a8 t ps t.attrs.length a) i) k)).length (lf Row.c (mkR (ce t ps a ((a8 t ps t.attrs.length a).getD i default) (bj t ps a (a8 t ps t.attrs.length a) i) k)))))]⟩) t.rows.length ⟨⟨⟨_,rfl,(by rw [ji];exact CoR.refl _)⟩,tt⟩,⟨⟨_,rfl,(by rw [ji];exact CoO.refl _)⟩,trivial⟩⟩ ?_;rintro k hk;have hrkl:(ce t ps a ((a8 t ps t.attrs.length a).getD i default) (bj t ps a (a8 t ps t.attrs.length a) i) k).length <= (bj t ps a (a8 t ps t.attrs.length a) i).length + k:=xo hk;have hmk:=jz (L:=(ce t ps a ((a8 t ps t.attrs.length a).getD i default) (bj t ps a (a8 t ps t.attrs.length a) i) k));refine w_9 ?_;refine hcd (fun h5=>?_) (fun h5=>?_)
    · exfalso;omega
    have hkr:k = t.rows.length:=by omega
    have hri:mkR (bj t ps a (a8 t ps t.attrs.length a) (i + 1)) = mkR (ce t ps a ((a8 t ps t.attrs.length a).getD i default) (bj t ps a (a8 t ps t.attrs.length a) i) k):=by rw [nj b5h,hkr]
    refine w_6 ?_;exact lpx (i + 1) ⟨⟨⟨_,rfl,(gk hri)⟩,tt⟩,⟨⟨_,rfl,(dz hri)⟩,uu⟩⟩
   have hie:i = (a8 t ps t.attrs.length a).length:=by omega
   have hla:mkR (a8 t ps t.attrs.length (a + 1)) = mkR (bj t ps a (a8 t ps t.attrs.length a) i):=by rw [hie];rfl
   refine w_5 ?_;refine a91 ⟨[(1,some _),(2,some _),(4,some _),(7,some _),(9,some _),(10,some _)],[(0,some _),(1,some _),(900,some _)]⟩ kk ?_;refine ur 9 901 rfl rfl rfl rfl ?_;refine w_5 ?_;exact lpx (a + 1) ⟨⟨⟨_,rfl,(gk hla)⟩,tt⟩,⟨⟨_,rfl,(dz hla)⟩,uu⟩⟩
  obtain rfl:a = t.attrs.length:=by omega
  have hmE:=jz (L:=(a8 t ps t.attrs.length t.attrs.length));refine w_8 ?_;refine hcd (fun h6=>?_) (fun h6=>?_)
  · refine w_6 ?_;refine hrr ?_;obtain ⟨e1,e2⟩:=aj6 hT hv he b5h;exact f9 rfl rfl (by rw [e1,e2];exact ⟨CoC.agg ⟨CoP.refl _,CoP.sl rfl (.inr rfl) (fun _=>rfl) (fun i j hi _=>absurd hi (b2o i)),CoP.sl rfl (.inr rfl) (fun _=>rfl) (fun i j hi _=>absurd hi (b2o i)),trivial⟩,CoC.refl _,trivial⟩)
  refine w_7 ?_;refine ai (ι:=Nat × List (List Val)) (ka 2 (ka 4 (ka 9 kn))) (kb 0 (kb 1 km)) (fun x=>⟨[(17,some (vI x.1))],[(901,some (.arr true 2 112 (mkR (a8 t ps t.attrs.length t.attrs.length)).length (lf Row.c (mkR x.2))))]⟩) (fun x=>tu br (a8 t ps t.attrs.length t.attrs.length) x.1 x.2) (fun x=>(a8 t ps t.attrs.length t.attrs.length).length - x.1) ((0,(a8 t ps t.attrs.length t.attrs.length))) (tu.start a63) kk ?_;rintro ⟨i,L⟩ hO;dsimp only at hO ⊢;have hOl:=hO.len;refine w_8 ?_;refine hcd (fun h7=>?_) (fun h7=>?_)
  ·
   refine w_9 ?_;refine ai (ι:=Nat × List (List Val)) (ka 2 (ka 4 (ka 9 (ka 17 kn)))) (kb 0 (kb 1 km)) (fun y=>⟨[(18,some (vI y.1))],[(901,some (.arr true 2 112 (mkR (a8 t ps t.attrs.length t.attrs.length)).length (lf Row.c (mkR y.2))))]⟩) (fun y=>ze br (a8 t ps t.attrs.length t.attrs.length) i y.1 y.2) (fun y=>y.1) ((i,L)) (hO.into b5h) kk ?_;rintro y hI;have hIl:=hI.len;have hIk:=hI.ki;have hIi:=hI.il;refine w_6 ?_;refine ab rfl rfl (fun r8=>?_) (fun r8=>?_)
   ·
    have h8:=tz1 r8;(iterate 11 refine qy ?_ (hg:=(gtt r8)));refine rc rfl rfl rfl rfl rfl rfl abg (ald (y.2.getD y.1 default) (y.2.getD (y.1 - 1) default) (zq hok hwd hI.mem b5h).2 (zq hok hwd hI.mem b5h).2) (⟨CoC.one (l6 b5h b5h),CoC.one (l6 b5h b5h),trivial⟩) rfl (gtt r8) ?_;refine qy ?_ (hg:=(gtt r8));refine w_3 ?_;refine aj _ rfl (fun r9=>?_) (fun r9=>?_)
    · have h9:=tz1 (b4 r8 r9);refine avt ?_;refine lpz (y.1 - 1,swL y.2 y.1) ⟨⟨⟨_,rfl,(coi b5m)⟩,tt⟩,⟨⟨_,rfl,(ahz (L:=y.2) (k:=y.1) b5h b5h b5h b5h rfl (a09 (k:=y.1 - 1) b5h b5h) (l6 (k:=y.1 - 1) b5h b5h) (a09 (k:=y.1) b5h b5h) (l6 (k:=y.1) b5h b5h) b5h)⟩,uu⟩⟩ ?_;exact hI.step ku b5h b5r
    have h9:=tz2 (b4 r8 r9);refine w_6 ?_;refine lpz (i + 1,y.2) kk ?_;exact hI.done ku b5r
   have h8:=tz2 r8;(iterate 13 refine k9 (gft r8) ?_);refine dy ?_;refine lpz (i + 1,y.2) kk ?_
   exact hI.done ku b5r
  have hoE:=hO.fin (c:=br) b5h;obtain ⟨e1,e2⟩:=aop hT hv he b5h hoE hO.mem;have hlE8:(a8 t ps t.attrs.length t.attrs.length).length <= 1679616:=a0f hr6 hn8;refine w_7 ?_;refine c7 (ka 2 (ka 4 (ka 9 kn))) (kb 0 (kb 1 km)) (fun i=>⟨[(19,some (vI i))],[(901,some (.arr true 2 112 (mkR (a8 t ps t.attrs.length t.attrs.length)).length (lf Row.c (idR L i))))]⟩) ((a8 t ps t.attrs.length t.attrs.length).length) ⟨tt,⟨⟨_,rfl,(by rw [ad0];exact CoO.refl _)⟩,trivial⟩⟩ ?_;rintro i hi;refine w_8 ?_;refine hcd (fun h10=>?_) (fun h10=>?_)
  · refine v2 ?_;exact lpx (i + 1) ⟨tt,⟨⟨_,rfl,(ai0 (L:=L) (i:=i) b5h b5h rfl b5h rfl)⟩,uu⟩⟩
  have hiE:i = (a8 t ps t.attrs.length t.attrs.length).length:=by omega
  refine w_2 ?_;refine cz 9 rfl rfl rfl ?_;refine w_3 ?_;refine gl rfl rfl rfl rfl rfl rfl (wgx Tryz.func74) (asz t (cw L) b5h (by rw [i9];omega) (a7z b5h hok hwd hO.mem)) (⟨v7.refl _,ail b5h b5h,trivial⟩) trivial rfl rfl ?_;refine w_3 ?_;refine ct 1 2 rfl rfl rfl rfl rfl ?_;exact hx8 rfl rfl rfl (by rw [e1,e2];exact ⟨CoC.agg ⟨CoP.refl _,CoP.refl _,CoP.sl rfl (.inl rfl) (fun h=>by cases h) (fun _ _ _ _=>CoP.refl _),trivial⟩,CoC.refl _,trivial⟩)
 exfalso;omega
def air (t:Tbl) (ps:List AS) (h:¬ bd t = 0):aa b65 33 [t.pc,pP (asl ps)] (af [(cb t ps).pc,pI (db t ps)]):=by
 refine hpx (nt:=173) Tryz.func33 ?_;refine sx7 ?_;refine m9 0 ?_;refine m9 1 ?_;refine w_6 ?_;refine qcx a5c (c82 t) ?_;refine w_7 ?_;refine hcn (fun h0=>?_) (fun h0=>?_)
 · refine w_7 ?_;refine hrr ?_;have e:=lc (ps:=ps) h;exact f9 rfl rfl (by rw [sh e h,e];exact ⟨CoC.agg ⟨CoP.refl _,CoP.sl rfl (.inr rfl) (fun _=>rfl) (fun i j hi _=>absurd hi (b2o i)),CoP.sl rfl (.inr rfl) (fun _=>rfl) (fun i j hi _=>absurd hi (b2o i)),trivial⟩,CoC.refl _,trivial⟩)
 exfalso;omega
def ajj (t:Tbl) (ps:List AS) (h:bd t = 0) (hv:¬ lvE t.attrs.length ps = 0):aa b65 33 [t.pc,pP (asl ps)] (af [(cb t ps).pc,pI (db t ps)]):=by
 refine hpx (nt:=173) Tryz.func33 ?_;refine sx7 ?_;refine m9 0 ?_;refine m9 1 ?_;refine w_6 ?_;refine qcx a5c (c82 t) ?_;refine w_7 ?_;refine hcn (fun h0=>?_) (fun h0=>?_)
 · exfalso;omega
 refine j3 ?_;refine qcx aaf (a3b t.attrs.length ps) ?_;refine w_7 ?_;refine hcn (fun h1=>?_) (fun h1=>?_)
 · refine w_7 ?_;refine hrr ?_;have e:=la h hv;exact f9 rfl rfl (by rw [sh e hv,e];exact ⟨CoC.agg ⟨CoP.refl _,CoP.sl rfl (.inr rfl) (fun _=>rfl) (fun i j hi _=>absurd hi (b2o i)),CoP.sl rfl (.inr rfl) (fun _=>rfl) (fun i j hi _=>absurd hi (b2o i)),trivial⟩,CoC.refl _,trivial⟩)
 exfalso;omega
def pj (t:Tbl) (ps:List AS) (he:bd t = 0 -> lvE t.attrs.length ps = 0 -> t.rows.length <= 6 /\ ∀ r ∈ t.rows,∀ v ∈ r.vals,eu v):aa b65 33 [t.pc,pP (asl ps)] (af [(cb t ps).pc,pI (db t ps)]):=by
 by_cases h1:bd t = 0
 · by_cases h2:lvE t.attrs.length ps = 0
   · obtain ⟨h6,h7⟩:=he h1 h2
     by_cases h3:t.rows.length = 0
     · exact ajt t ps h6 (cr.1 h1) h2 h7 h3
     exact ak7 t ps h6 (cr.1 h1) h2 h7 h3
   exact ajj t ps h1 h2
 exact air t ps h1
end
section
def a7l {l:List ByteArray} (h:rz l = true) {i j:Nat} (hij:j < i) (hi:i < l.length):l.getD j default ≠ l.getD i default:=fun e=>by
 have h1:=b3c.1 h i (b36.2 hi);unfold kj at h1;rw [b2p,decide_eq_true_iff] at h1;have h2:=h1.2;unfold lq at h2;have h3:=afg (p:=fun x=>decide (x = l.getD i default)) (l:=l.take i);rw [decide_eq_false b5h] at h3
 have h4:=b3x.1 h3.symm (l.getD j default) (by
  have hj:j < (l.take i).length:=by rw [b2y];omega
  have e2:(l.take i)[j] = l.getD j default:=by rw [List.getElem_take,b9 _ _ b5h]
  rw [<- e2]
  exact b2q hj)
 exact h4 (decide_eq_true e)
def an2 {a b:Tbl} (ha:a.attrs = b.attrs) (hn:rz b.attrs = true) {r s:Row} (hv:r.vals = s.vals):z8 a b r s = true:=by
 unfold z8;refine b3c.2 fun i hi=>?_;have hi:=b36.1 hi;unfold po;rw [ha,hv,b3s,decide_eq_true_iff,decide_eq_true_iff];by_cases h:lq b.attrs (b.attrs.getD i default) < 0
 · exact .inl h
 right;unfold lq at h ⊢;obtain ⟨h1,h2⟩:=amh (p:=fun x=>decide (x = b.attrs.getD i default)) (l:=b.attrs) b5h;have h2:=of_decide_eq_true h2;generalize (idx (fun x=>decide (x = b.attrs.getD i default)) b.attrs).toNat = k at h1 h2 ⊢
 have hk:k = i:=by
  rcases Nat.lt_trichotomy k i with h3 | h3 | h3
  · exact absurd h2 (a7l hn h3 hi)
  · exact h3
  exact absurd h2.symm (a7l hn h3 h1)
 rw [hk];exact j7.self _
def a4y {L:List (List Val)} {w:List Val}:w ∈ L <-> ∃ r ∈ cw L,r.vals = w:=by
 unfold cw;constructor
 · intro h
   obtain ⟨i,hi,e⟩:=b35 h;exact ⟨_,b37.2 ⟨i,b36.2 hi,rfl⟩,by show L.getD i default = w;rw [b9 _ _ hi,e]⟩
 rintro ⟨r,hr,rfl⟩;obtain ⟨i,hi,rfl⟩:=b37.1 hr;have hi:=b36.1 hi;show L.getD i default ∈ L;rw [b9 _ _ hi];exact b2q hi
def my {t:Tbl} {ps:List AS} (hT:TOk t) (hv:lvE t.attrs.length ps = 0) (he:∀ r ∈ t.rows,∀ v ∈ r.vals,eu v) (hj:db t ps = 0):TOk (cb t ps) /\ afx (cb t ps) t = true:=by
 have hn:=hT.na;have hw:∀ r ∈ t.rows,r.vals.length = t.attrs.length:=fun r hr=>by obtain ⟨i,hi,rfl⟩:=s8 hr;exact hT.width hi
 have hf:=(j6 hv).2.2.2.2;have hjl:=a2a (R:=t.rows) (n:=t.attrs.length) (s6 hv)
 have hle:(mj t.rows ps t.attrs.length).length <= 1000:=by
  apply Classical.byContradiction;intro hno;have:db t ps = 3:=a6i (cr.2 hT) hv (by rw [hjl,b2y];omega);rw [this] at hj;cases hj
 rw [b44 b5h] at hjl;have hjT:=a0m hj;rw [hjl] at hjT;have hmem:∀ w,w ∈ mj t.rows ps t.attrs.length <-> w.length = t.attrs.length /\ ∀ s ∈ ps,∃ r ∈ t.rows,sel r.vals s = sel w s:=fun w=>ac6 he hw hn hf;constructor
 · rw [hjT]
   refine ⟨hT.nm,hn,by show (cw _).length <= 1000;rw [i9];exact hle,hT.nms, ?_⟩;show d5 t.attrs.length 0 (cw (mj t.rows ps t.attrs.length)) = 0;refine a3t (fun w hw2=>?_) ?_
   · have hin:=a4y.2 ⟨w,hw2,rfl⟩
     obtain ⟨i,hi,e0⟩:=b37.1 hw2;refine ⟨by rw [<- e0];show (0:Int) < (i:Int) + 1;omega,((hmem _).1 hin).1, ?_⟩;rw [b3c];intro v hv2;unfold mj at hin;obtain ⟨u,e1,hl,h1,_⟩:=oj.1 hin;rw [b42] at e1;rw [e1] at hv2;obtain ⟨j,hj2,e⟩:=b35 hv2;have h3:=h1 j b5h;rw [b4x,b30,qn b5h,a3a] at h3;obtain ⟨r,hr,e5⟩:=h3;rw [b9 _ _ hj2,e] at e5;have hjr:j < r.vals.length:=by rw [hw r hr];omega
     rw [b9 _ _ hjr] at e5;rw [<- e5];exact (he r hr _ (b2q hjr)).1
   unfold cw;refine List.pairwise_map.2 ((List.pairwise_lt_range (n:=(mj t.rows ps t.attrs.length).length)).imp fun {i j} hij=>?_);show (i:Int) + 1 < (j:Int) + 1;omega
 unfold afx;rw [b3c];intro s hs;have hin:s.vals ∈ mj t.rows ps t.attrs.length:=(hmem _).2 ⟨hw s hs,fun q _=>⟨s,hs,rfl⟩⟩;obtain ⟨r,hr,e⟩:=a4y.1 hin;refine b3g.2 ⟨r,by rw [hjT];exact hr,an2 (by rw [hjT]) hT.nms e⟩
end
end Go.Hx

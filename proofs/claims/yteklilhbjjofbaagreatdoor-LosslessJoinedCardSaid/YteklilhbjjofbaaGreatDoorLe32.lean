/- A part of the proof: Jw1. -/
import Derived.Test.YteklilhbjjofbaaGreatDoorLe26
import Derived.Test.YteklilhbjjofbaaGreatDoorLe28
set_option linter.all false
set_option maxRecDepth 100000
set_option maxHeartbeats 1000000
namespace Go.Hx
section
open Go.Proofs
def aev (l:List Int) (n:Int) (hl:l.length <= 1000000):ci b65 155 [.one (.ref 1000 l.length), .one (.p (.raw (.int .i64 n)))] [(1000, .arr true 1 5 l.length (lf byC l))] (.v (.one (.ref 1000 (l ++ qu n).length))) [(1000, .arr true 1 5 (l ++ qu n).length (lf byC (l ++ qu n)))] [1000]:=by
 refine hfx (nt:=22) Tryz.func155 ?_;refine w_7 ?_;refine rqw rfl rfl rfl rfl rfl ?_;refine w_9 ?_;refine c7 (ka 5 kn) km (fun i=>⟨[(0,some (.v (.one (.ref 1000 (l ++ oz n i).length)))),(6,some (vI (56 - 8 * (i:Int))))],[(1000,some (.arr true 1 5 (l ++ oz n i).length (lf byC (l ++ oz n i))))]⟩) 8 ⟨⟨⟨_,rfl,(gk (by simp [oz]))⟩,⟨_,rfl,(coi (by first | rfl | omega))⟩,trivial⟩,⟨⟨_,rfl,(dz (by simp [oz]))⟩,trivial⟩⟩ ?_;rintro i hi;have hlen:(l ++ oz n i).length = l.length + i:=by simp [oz]
 refine w_6 ?_;refine hcd (fun h0=>?_) (fun h0=>?_)
 · refine w_8 ?_;refine rqw rfl rfl rfl rfl rfl ?_;refine m9 0 ?_;refine r9 1 true ?_;refine w_7 ?_;exact lpx (i + 1) ⟨⟨⟨_,rfl,(gj a9v)⟩,⟨_,rfl,(coi (by first | omega | (dsimp only;omega)))⟩,tt⟩,⟨⟨_,rfl,(ou a9v (CoP.of_eq (by dsimp only;rw [show ((56:Int) - 8 * (i:Int)).toNat = 56 - 8 * i by omega];rfl)))⟩,trivial⟩⟩
 obtain rfl:i = 8:=by omega
 refine w_6 ?_;refine hrr ?_;exact ⟨_,_,rfl,(by (repeat' apply And.intro) <;> first | trivial | exact b2k rfl),ig (by rw [acx]),⟨⟨_,rfl,dz (by rw [acx])⟩,trivial⟩⟩
def b60 {p:Prop} (h:p:=by first | exact .inl b5i | exact .inr b5i):p:=h
def b64 {p:Prop} (h:p:=by first | exact ig (by rw [(nn b60)]) | exact ig (by rw [nf b5i,b2v];rfl) | exact ig (by rw [(ng b5i b5i b5i)];rfl)):p:=h
def az8 (v:Val):aa b65 106 [v.pc] (af [pS (x3 v),pI (amz v)]):=by
 refine hpx (nt:=51) Tryz.func106 ?_;refine sx7 ?_;refine m9 0 ?_;refine w_7 ?_;refine qcx (wgx Tryz.func141) (c76 v) ?_;refine w_2 ?_;refine hcv (fun h0=>?_) (fun h0=>?_)
 · refine v_5 ?_;exact ⟨CoC.one (by rw [arh b5i];exact CoP.refl _),cci (as9 b5i).symm,trivial⟩
 have hs:=xn h0;refine w_5 ?_;refine rqw rfl rfl rfl rfl rfl ?_;refine m9 1 ?_;refine w_2 ?_;refine aov kn (kb 0 km) ⟨[(4,some (.v (.one (.ref 1 (jc v).length))))],[(1,some (.arr true 1 5 (jc v).length (lf byC (jc v))))]⟩ ?_ ?_
 ·
  refine su ?_;refine aj _ rfl (fun r1=>?_) (fun r1=>?_)
  · have h1:=tz1 r1;refine ek ?_;refine aj _ rfl (fun _=>?_) (fun e=>Bool.noConfusion (r1.symm.trans e));refine w_4 ?_;refine fc9 (wgx Tryz.func155) ((aev [kB v] v.num l9).swap 1000 1) ⟨⟨_,rfl,mn (CoP.refl _)⟩,trivial⟩ ?_;refine w_2 ?_;exact ⟨⟨⟨_,rfl,b64⟩,trivial⟩,⟨⟨_,rfl,(by first | exact dz (nn b60) | exact xq (nf b5i) (CoP.refl _) (CoP.refl _) | (rw [(ng b5i b5i b5i)];exact mn (CoP.refl _)))⟩,uu⟩⟩
  have h1:=tz2 r1;refine w_4 ?_;refine hcd (fun h2=>?_) (fun h2=>?_)
  · refine w_4 ?_;refine fc9 (wgx Tryz.func155) ((aev [kB v] v.num l9).swap 1000 1) ⟨⟨_,rfl,mn (CoP.refl _)⟩,trivial⟩ ?_;refine w_2 ?_;exact ⟨⟨⟨_,rfl,b64⟩,trivial⟩,⟨⟨_,rfl,(by first | exact dz (nn b60) | exact xq (nf b5i) (CoP.refl _) (CoP.refl _) | (rw [(ng b5i b5i b5i)];exact mn (CoP.refl _)))⟩,uu⟩⟩
  refine w_5 ?_;refine hcd (fun h3=>?_) (fun h3=>?_)
  ·
   refine w_9 ?_;refine c7 (ka 1 (ka 26 kn)) (kb 0 km) (fun i=>⟨[(4,some (.v (.one (.ref 1 (pk v i).length)))),(27,some (vI i))],[(1,some (.arr true 1 5 (pk v i).length (lf byC (pk v i))))]⟩) v.str.size ⟨⟨⟨_,rfl,(CoR.refl _)⟩,tt⟩,⟨⟨_,rfl,(mn (CoP.refl _))⟩,trivial⟩⟩ ?_;rintro i hi;have hlen:=arm (v:=v) (i:=i);refine w_5 ?_;refine hcd (fun h4=>?_) (fun h4=>?_)
   ·
    refine tk ?_;refine m9 2 ?_;refine r9 3 true ?_;refine dy ?_;refine hcd (fun h5=>?_) (fun h5=>?_)
    ·
     refine w_2 ?_;refine m9 4 ?_;refine r9 5 true ?_;refine w_6 ?_
     first | (refine lpz (i + 1) ⟨⟨⟨_, rfl, (by rw [a8u b5h b5i]; simp only [b2v]; exact CoR.refl _)⟩, tt⟩, ⟨⟨_, rfl, (by rw [a8u b5h b5i]; exact a82 rfl (CoP.refl _) (CoP.refl _))⟩, uu⟩⟩ ?_; show i + 1 <= _; omega)
           | (refine lpz (i + 1) ⟨⟨⟨_,rfl,(gj (a8s b5h b5i))⟩,tt⟩,⟨⟨_,rfl,(ou (a8s b5h b5i) (CoP.refl _))⟩,uu⟩⟩ ?_;show i + 1 <= _;omega)
    refine w_5 ?_
    first | (refine lpz (i + 1) ⟨⟨⟨_, rfl, (by rw [a8u b5h b5i]; simp only [b2v]; exact CoR.refl _)⟩, tt⟩, ⟨⟨_, rfl, (by rw [a8u b5h b5i]; exact a82 rfl (CoP.refl _) (CoP.refl _))⟩, uu⟩⟩ ?_; show i + 1 <= _; omega)
          | (refine lpz (i + 1) ⟨⟨⟨_,rfl,(gj (a8s b5h b5i))⟩,tt⟩,⟨⟨_,rfl,(ou (a8s b5h b5i) (CoP.refl _))⟩,uu⟩⟩ ?_;show i + 1 <= _;omega)
   obtain rfl:i = v.str.size:=by omega
   refine w_3 ?_;refine m9 6 ?_;refine r9 7 true ?_;refine w_2 ?_;exact ⟨⟨⟨_,rfl,b64⟩,trivial⟩,⟨⟨_,rfl,(by first | exact dz (nn b60) | exact xq (nf b5i) (CoP.refl _) (CoP.refl _) | (rw [(ng b5i b5i b5i)];exact mn (CoP.refl _)))⟩,uu⟩⟩
  refine ek ?_;exact ⟨⟨⟨_,rfl,b64⟩,trivial⟩,⟨⟨_,rfl,(by first | exact dz (nn b60) | exact xq (nf b5i) (CoP.refl _) (CoP.refl _) | (rw [(ng b5i b5i b5i)];exact mn (CoP.refl _)))⟩,uu⟩⟩
 refine dn ?_;refine cz 4 rfl rfl rfl ?_;refine w_2 ?_;refine rq rfl rfl rfl rfl rfl ?_ (hp:=⟨rfl,fun i hi=>⟨_,rfl⟩⟩);refine v_3 ?_;exact ⟨CoC.one (by rw [af9 b5i,<- asd];exact CoP.refl _),cci (arl b5i).symm,trivial⟩
def aal:goodFn b65 65:=wgx Tryz.func65
def a5l (l:List Val) (s:AS) (hl:l.length <= 16):aa b65 65 [pP (vals l),pA s] (af [pS (ff l s)]):=by
 refine hpx (nt:=32) Tryz.func65 ?_;refine dy ?_;refine df 0 rfl fun hn=>?_;refine w_6 ?_;refine c7 (ka 1 (ka 10 (ka 11 kn))) km (fun i=>⟨[(5,some (vS (ff (l.take i) s))),(12,some (vI i))],[]⟩) l.length kk ?_;rintro i hi;have hsz:=a86 (l:=l.take i) (s:=s);rw [b2y] at hsz;have hk:=a7q (v:=l.getD i default);refine w_5 ?_;refine hcd (fun h0=>?_) (fun h0=>?_)
 ·
  refine w_8 ?_;refine m9 0 ?_;refine j5 ?_;refine hcd (fun h1=>?_) (fun h1=>?_)
  ·
   refine w_3 ?_;refine qcx (wgx Tryz.func106) (az8 (l.getD i default)) ?_;refine vc ?_
   first | (refine lpz (i + 1) ⟨⟨⟨_, rfl, (coS (aor b5h b5h b5i).symm)⟩, tt⟩, trivial⟩ ?_; show i + 1 <= _; omega)
         | (refine lpz (i + 1) ⟨⟨⟨_,rfl,(coS (aog b5h b5h b5i).symm)⟩,tt⟩,trivial⟩ ?_;show i + 1 <= _;omega)
  refine w_5 ?_
  first | (refine lpz (i + 1) ⟨⟨⟨_, rfl, (coS (aor b5h b5h b5i).symm)⟩, tt⟩, trivial⟩ ?_; show i + 1 <= _; omega)
        | (refine lpz (i + 1) ⟨⟨⟨_,rfl,(coS (aog b5h b5h b5i).symm)⟩,tt⟩,trivial⟩ ?_;show i + 1 <= _;omega)
 obtain rfl:i = l.length:=by omega
 refine v_6 ?_;exact ⟨CoC.one (by rw [b3w];exact CoP.refl _),trivial⟩
end
end Go.Hx

/- A part of the proof: Jw1. -/
import Derived.Test.YteklilhbjjofbaaGreatDoorLa28
import Derived.Test.YteklilhbjjofbaaGreatDoorLa30
set_option linter.all false
set_option maxRecDepth 100000
set_option maxHeartbeats 1000000
namespace Go.Hx
section
open Go.Proofs
def aew (l:List Int) (n:Int) (hl:l.length <= 1000000):c8 b6e 155 [.one (.ref 1000 l.length), .one (.p (.raw (.int .i64 n)))] [(1000, .arr true 1 5 l.length (lf byC l))] (.v (.one (.ref 1000 (l ++ ze n).length))) [(1000, .arr true 1 5 (l ++ ze n).length (lf byC (l ++ ze n)))] [1000]:=by
 refine hfx (nt:=22) Tryz.func155 ?_;refine w_7 ?_;refine rqw rfl rfl rfl rfl rfl ?_;refine w_9 ?_;refine bw (ka 5 kn) km (fun i=>⟨[(0,some (.v (.one (.ref 1000 (l ++ ow n i).length)))),(6,some (vI (56 - 8 * (i:Int))))],[(1000,some (.arr true 1 5 (l ++ ow n i).length (lf byC (l ++ ow n i))))]⟩) 8 ⟨⟨⟨_,rfl,(alc (by simp [ow]))⟩,⟨_,rfl,(coi (by first | rfl | omega))⟩,trivial⟩,⟨⟨_,rfl,(jl (by simp [ow]))⟩,trivial⟩⟩ ?_;rintro i hi;have hlen:(l ++ ow n i).length = l.length + i:=by simp [ow]
 refine w_6 ?_;refine hcd (fun h0=>?_) (fun h0=>?_)
 · refine w_8 ?_;refine rqw rfl rfl rfl rfl rfl ?_;refine m9 0 ?_;refine r9 1 true ?_;refine w_7 ?_;exact lpx (i + 1) ⟨⟨⟨_,rfl,(i6 aar)⟩,⟨_,rfl,(coi (by first | omega | (dsimp only;omega)))⟩,tt⟩,⟨⟨_,rfl,(jn aar (CoP.of_eq (by dsimp only;rw [show ((56:Int) - 8 * (i:Int)).toNat = 56 - 8 * i by omega];rfl)))⟩,trivial⟩⟩
 obtain rfl:i = 8:=by omega
 refine w_6 ?_;refine hrr ?_;exact ⟨_,_,rfl,(by (repeat' apply And.intro) <;> first | trivial | exact b2u rfl),ig (by rw [a9z]),⟨⟨_,rfl,jl (by rw [a9z])⟩,trivial⟩⟩
def b67 {p:Prop} (h:p:=by first | exact .inl b5p | exact .inr b5p):p:=h
def b6d {p:Prop} (h:p:=by first | exact ig (by rw [(nf b67)]) | exact ig (by rw [n8 b5p,b3e];rfl) | exact ig (by rw [(n5 b5p b5p b5p)];rfl)):p:=h
def az7 (v:Val):a8 b6e 106 [v.pc] (aa [pS (xj v),pI (ann v)]):=by
 refine hpx (nt:=51) Tryz.func106 ?_;refine sx7 ?_;refine m9 0 ?_;refine w_7 ?_;refine qcx (wgx Tryz.func141) (c76 v) ?_;refine w_2 ?_;refine hcv (fun h0=>?_) (fun h0=>?_)
 · refine v_5 ?_;exact ⟨CoC.one (by rw [ase b5p];exact CoP.refl _),cci (arn b5p).symm,trivial⟩
 have hs:=y5 h0;refine w_5 ?_;refine rqw rfl rfl rfl rfl rfl ?_;refine m9 1 ?_;refine w_2 ?_;refine ww kn (kb 0 km) ⟨[(4,some (.v (.one (.ref 1 (qq v).length))))],[(1,some (.arr true 1 5 (qq v).length (lf byC (qq v))))]⟩ ?_ ?_
 ·
  refine jh ?_;refine ai _ rfl (fun r1=>?_) (fun r1=>?_)
  · have h1:=tz1 r1;refine c4 ?_;refine ai _ rfl (fun _=>?_) (fun e=>Bool.noConfusion (r1.symm.trans e));refine w_4 ?_;refine fc9 (wgx Tryz.func155) ((aew [kB v] v.num l9).swap 1000 1) ⟨⟨_,rfl,mn (CoP.refl _)⟩,trivial⟩ ?_;refine w_2 ?_;exact ⟨⟨⟨_,rfl,b6d⟩,trivial⟩,⟨⟨_,rfl,(by first | exact jl (nf b67) | exact x8 (n8 b5p) (CoP.refl _) (CoP.refl _) | (rw [(n5 b5p b5p b5p)];exact mn (CoP.refl _)))⟩,uu⟩⟩
  have h1:=tz2 r1;refine w_4 ?_;refine hcd (fun h2=>?_) (fun h2=>?_)
  · refine w_4 ?_;refine fc9 (wgx Tryz.func155) ((aew [kB v] v.num l9).swap 1000 1) ⟨⟨_,rfl,mn (CoP.refl _)⟩,trivial⟩ ?_;refine w_2 ?_;exact ⟨⟨⟨_,rfl,b6d⟩,trivial⟩,⟨⟨_,rfl,(by first | exact jl (nf b67) | exact x8 (n8 b5p) (CoP.refl _) (CoP.refl _) | (rw [(n5 b5p b5p b5p)];exact mn (CoP.refl _)))⟩,uu⟩⟩
  refine w_5 ?_;refine hcd (fun h3=>?_) (fun h3=>?_)
  ·
   refine w_9 ?_;refine bw (ka 1 (ka 26 kn)) (kb 0 km) (fun i=>⟨[(4,some (.v (.one (.ref 1 (om v i).length)))),(27,some (vI i))],[(1,some (.arr true 1 5 (om v i).length (lf byC (om v i))))]⟩) v.str.size ⟨⟨⟨_,rfl,(CoR.refl _)⟩,tt⟩,⟨⟨_,rfl,(mn (CoP.refl _))⟩,trivial⟩⟩ ?_;rintro i hi;have hlen:=ard (v:=v) (i:=i);refine w_5 ?_;refine hcd (fun h4=>?_) (fun h4=>?_)
   ·
    refine kw ?_;refine m9 2 ?_;refine r9 3 true ?_;refine dh ?_;refine hcd (fun h5=>?_) (fun h5=>?_)
    ·
     refine w_2 ?_;refine m9 4 ?_;refine r9 5 true ?_;refine w_6 ?_
     first | (refine lpz (i + 1) ⟨⟨⟨_, rfl, (by rw [a9c b5o b5p]; simp only [b3e]; exact CoR.refl _)⟩, tt⟩, ⟨⟨_, rfl, (by rw [a9c b5o b5p]; exact a7p rfl (CoP.refl _) (CoP.refl _))⟩, uu⟩⟩ ?_; show i + 1 <= _; omega)
           | (refine lpz (i + 1) ⟨⟨⟨_,rfl,(i6 (a99 b5o b5p))⟩,tt⟩,⟨⟨_,rfl,(jn (a99 b5o b5p) (CoP.refl _))⟩,uu⟩⟩ ?_;show i + 1 <= _;omega)
    refine w_5 ?_
    first | (refine lpz (i + 1) ⟨⟨⟨_, rfl, (by rw [a9c b5o b5p]; simp only [b3e]; exact CoR.refl _)⟩, tt⟩, ⟨⟨_, rfl, (by rw [a9c b5o b5p]; exact a7p rfl (CoP.refl _) (CoP.refl _))⟩, uu⟩⟩ ?_; show i + 1 <= _; omega)
          | (refine lpz (i + 1) ⟨⟨⟨_,rfl,(i6 (a99 b5o b5p))⟩,tt⟩,⟨⟨_,rfl,(jn (a99 b5o b5p) (CoP.refl _))⟩,uu⟩⟩ ?_;show i + 1 <= _;omega)
   obtain rfl:i = v.str.size:=by omega
   refine w_3 ?_;refine m9 6 ?_;refine r9 7 true ?_;refine w_2 ?_;exact ⟨⟨⟨_,rfl,b6d⟩,trivial⟩,⟨⟨_,rfl,(by first | exact jl (nf b67) | exact x8 (n8 b5p) (CoP.refl _) (CoP.refl _) | (rw [(n5 b5p b5p b5p)];exact mn (CoP.refl _)))⟩,uu⟩⟩
  refine c4 ?_;exact ⟨⟨⟨_,rfl,b6d⟩,trivial⟩,⟨⟨_,rfl,(by first | exact jl (nf b67) | exact x8 (n8 b5p) (CoP.refl _) (CoP.refl _) | (rw [(n5 b5p b5p b5p)];exact mn (CoP.refl _)))⟩,uu⟩⟩
 refine c0 ?_;refine bf 4 rfl rfl rfl ?_;refine w_2 ?_;refine rq rfl rfl rfl rfl rfl ?_ (hp:=⟨rfl,fun i hi=>⟨_,rfl⟩⟩);refine v_3 ?_;exact ⟨CoC.one (by rw [aqh b5p,<- aq6];exact CoP.refl _),cci (ape b5p).symm,trivial⟩
def ac2:goodFn b6e 65:=wgx Tryz.func65
def a6q (l:List Val) (s:AS) (hl:l.length <= 16):a8 b6e 65 [pP (vals l),pA s] (aa [pS (fz l s)]):=by
 refine hpx (nt:=32) Tryz.func65 ?_;refine dh ?_;refine c5 0 rfl fun hn=>?_;refine w_6 ?_;refine bw (ka 1 (ka 10 (ka 11 kn))) km (fun i=>⟨[(5,some (vS (fz (l.take i) s))),(12,some (vI i))],[]⟩) l.length kk ?_;rintro i hi;have hsz:=a8d (l:=l.take i) (s:=s);rw [b3h] at hsz;have hk:=a80 (v:=l.getD i default);refine w_5 ?_;refine hcd (fun h0=>?_) (fun h0=>?_)
 ·
  refine w_8 ?_;refine m9 0 ?_;refine dq ?_;refine hcd (fun h1=>?_) (fun h1=>?_)
  ·
   refine w_3 ?_;refine qcx (wgx Tryz.func106) (az7 (l.getD i default)) ?_;refine mj ?_
   first | (refine lpz (i + 1) ⟨⟨⟨_, rfl, (coS (aof b5o b5o b5p).symm)⟩, tt⟩, trivial⟩ ?_; show i + 1 <= _; omega)
         | (refine lpz (i + 1) ⟨⟨⟨_,rfl,(coS (aov b5o b5o b5p).symm)⟩,tt⟩,trivial⟩ ?_;show i + 1 <= _;omega)
  refine w_5 ?_
  first | (refine lpz (i + 1) ⟨⟨⟨_, rfl, (coS (aof b5o b5o b5p).symm)⟩, tt⟩, trivial⟩ ?_; show i + 1 <= _; omega)
        | (refine lpz (i + 1) ⟨⟨⟨_,rfl,(coS (aov b5o b5o b5p).symm)⟩,tt⟩,trivial⟩ ?_;show i + 1 <= _;omega)
 obtain rfl:i = l.length:=by omega
 refine v_6 ?_;exact ⟨CoC.one (by rw [b37];exact CoP.refl _),trivial⟩
end
end Go.Hx

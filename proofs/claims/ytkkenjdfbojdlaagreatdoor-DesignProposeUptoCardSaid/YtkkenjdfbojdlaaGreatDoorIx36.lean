/- A part of the proof: Y8 Bz8 Y9 Bz9 Ls8 Ds3 Ds4 Ds5 Ds11 Ds9. -/
import Derived.Test.YtkkenjdfbojdlaaGreatDoorIx35
set_option linter.all false
set_option maxRecDepth 100000
namespace Go.Hx
section
open Go.Proofs
def bk3 (T:List AS) (d:Fd) (hn:T.Nodup):cb brj 241 [.one (.ptr 1000 0),d.pc.toH] [(1000, .box [.ref 1001 T.length]),(1001, .arr true 1 46 T.length (lf sC T))] (.v (.one (.p (.raw (.bool (decide (T.length < (mvO d FU2 T 0).length))))))) [(1000, .box [.ref 1001 (mvO d FU2 T 0).length]),(1001, .arr true 1 46 (mvO d FU2 T 0).length (lf sC (mvO d FU2 T 0)))] [1000,1001]:=by
 refine hfx (nt:=77) Tryz.func241 ?_;refine sx7 ?_;refine m9 0 ?_;refine en ?_;refine ae (ι:=(Nat × List AS × Nat)) (ka 0 (ka 3 kn)) (kb 0 km) (fun x=>⟨[(5,some (vB (decide (T.length < x.2.1.length)))),(6,some (vI x.2.2))],[(1000,some (.box [.ref 1001 x.2.1.length])),(1001,some (.arr true 1 46 x.2.1.length (lf sC x.2.1)))]⟩) (fun x=>MvO d T x) (fun x=>x.1) ((FU2,T,0)) (MvO.start hn) ⟨⟨⟨_,rfl,(cob br1)⟩,⟨_,rfl,(CoR.refl _)⟩,trivial⟩,uu⟩ ?_;rintro ⟨f,T1,i⟩ hO;have hOl:=hO.pos.2;refine cq ?_;refine hcd (fun h0=>?_) (fun h0=>?_)
 ·
  have hil:i < T1.length:=by omega
  have hfI:=hO.pos.1;refine w_8 ?_;refine ae (ι:=(Nat × List AS × Nat)) (ka 0 (ka 3 (ka 6 kn))) (kb 0 km) (fun y=>⟨[(5,some (vB (decide (T.length < y.2.1.length)))),(7,some (vI y.2.2))],[(1000,some (.box [.ref 1001 y.2.1.length])),(1001,some (.arr true 1 46 y.2.1.length (lf sC y.2.1)))]⟩) (fun y=>MvI d T1 i y) (fun y=>y.1) ((8589934592,T1,0)) (MvI.start hO.nd) ⟨⟨⟨_,rfl,(CoR.refl _)⟩,⟨_,rfl,(CoR.refl _)⟩,trivial⟩,uu⟩ ?_;rintro ⟨g,U,k⟩ hI;have hIl:=hI.pos.2;refine cq ?_;refine hcd (fun h1=>?_) (fun h1=>?_)
  ·
   have hkl:k < U.length:=by omega
   have hil2:i < U.length:=bow hil hI.pre.length_le;have hUl:=hI.pos.2;have hpre:T <+: U:=hO.pre.trans hI.pre;have hg0:=hI.pos.1;refine bcv ?_;refine ai rfl rfl (fun r2=>?_) (fun r2=>?_)
   ·
    have h2:=tz1 r2;have ha:agB d (U.getD i default) (U.getD k default) = true:=bkf h2;(iterate 28 refine qy ?_ (hg:=(gtt r2)));refine fj rfl rfl rfl rfl rfl rfl afe (b3k U (lg d (U.getD i default) (U.getD k default)) bqx) (⟨vw.refl _,(CoP.of_eq (congrArg (fun z=>PV.raw (.int .u32 z)) (big _ _ _ _))),trivial⟩) uu rfl (gtt r2) ?_;refine w_3 ?_;refine aj _ rfl (fun r3=>?_) (fun r3=>?_)
    ·
     have h3:=bt r2 r3;have hin:¬ (lg d (U.getD i default) (U.getD k default)) ∈ U:=a2a (by simpa using h3);refine w_8 ?_;refine ⟨(g - 1,mvS d U i k,k + 1), ?_, ?_, ?_⟩
     · exact hI.next hkl
     · dsimp only;omega
     exact ⟨⟨⟨_,rfl,(by first | (rw [uy ha];exact CoR.refl _) | (rw [mh ha];exact cob (aoy hpre hin)) | (rw [mh ha];exact cob (ao0 hin)))⟩,⟨_,rfl,(CoR.refl _)⟩,tt⟩,⟨⟨_,rfl,(by first | (rw [uy ha];exact CoO.refl _) | (rw [mh ha];exact CoO.refl _))⟩,⟨_,rfl,(by first | (rw [uy ha];exact CoO.refl _) | (rw [mh ha];exact CoO.refl _))⟩,uu⟩⟩
    have h3:=bt r2 r3;have hin:(lg d (U.getD i default) (U.getD k default)) ∈ U:=a08 (by simpa using h3);refine w_6 ?_;refine ⟨(g - 1,mvS d U i k,k + 1), ?_, ?_, ?_⟩
    · exact hI.next hkl
    · dsimp only;omega
    exact ⟨⟨⟨_,rfl,(by first | (rw [uy ha];exact CoR.refl _) | (rw [mh ha];exact cob (aoy hpre hin)) | (rw [mh ha];exact cob (ao0 hin)))⟩,⟨_,rfl,(CoR.refl _)⟩,tt⟩,⟨⟨_,rfl,(by first | (rw [uy ha];exact CoO.refl _) | (rw [mh ha];exact CoO.refl _))⟩,⟨_,rfl,(by first | (rw [uy ha];exact CoO.refl _) | (rw [mh ha];exact CoO.refl _))⟩,uu⟩⟩
   have h2:=tz2 r2;have ha:agB d (U.getD i default) (U.getD k default) = false:=bl5 h2;(iterate 29 refine k9 (gft r2) ?_);refine rq rfl rfl rfl rfl rfl ?_ (hp:=r2);refine w_9 ?_;refine ⟨(g - 1,mvS d U i k,k + 1), ?_, ?_, ?_⟩
   · exact hI.next hkl
   · dsimp only;omega
   exact ⟨⟨⟨_,rfl,(by first | (rw [uy ha];exact CoR.refl _) | (rw [mh ha];exact cob (aoy hpre hin)) | (rw [mh ha];exact cob (ao0 hin)))⟩,⟨_,rfl,(CoR.refl _)⟩,tt⟩,⟨⟨_,rfl,(by first | (rw [uy ha];exact CoO.refl _) | (rw [mh ha];exact CoO.refl _))⟩,⟨_,rfl,(by first | (rw [uy ha];exact CoO.refl _) | (rw [mh ha];exact CoO.refl _))⟩,uu⟩⟩
  have hU:=hI.done bqx;have hT1l:=hO.pos.2;refine w_6 ?_;refine ⟨(f - 1,U,i + 1), ?_, ?_, ?_⟩
  · exact hO.next hil hU
  · dsimp only;omega
  exact ⟨⟨⟨_,rfl,(CoR.refl _)⟩,⟨_,rfl,(CoR.refl _)⟩,tt⟩,uu⟩
 have hT:T1 = mvO d FU2 T 0:=hO.done bqx;subst hT;refine w_6 ?_;refine hrr ?_;exact ⟨_,_,rfl,bqz,CoR.refl _,uu⟩
end
section
structure ChI (l m:List Fd) (R:List AS) (x:Nat × List AS × Bool):Prop where
 nd:x.2.1.Nodup
 t:x.2.2 = true -> chF l m x.1 x.2.1 = R /\ muT x.2.1 < x.1
 f:x.2.2 = false -> x.2.1 = R
def ate (x:Nat × List AS × Bool):Nat:=x.1 + (bif x.2.2 then 1 else 0)
def bbw {f:Nat} {T U:List AS} {c:Bool} (h:0 < f):ate (f - 1,U,c) < ate (f,T,true):=by
 cases c <;> simp only [ate,cond_true,cond_false] <;> omega
theorem ChI.start (l m:List Fd) (rest:AS):ChI l m (chT l m rest) (MU,abr rest,true):=⟨b4a rest,fun _=>⟨rfl,avn _⟩,fun h=>by cases h⟩
theorem ChI.next {l m:List Fd} {R T:List AS} {f:Nat} (h:ChI l m R (f,T,true)):ChI l m R (f - 1,(o9 l m T).1,(o9 l m T).2) /\ 0 < f:=by
 obtain ⟨h1,h2⟩:=h.t rfl;have h2:muT T < f:=h2;have h1:chF l m f T = R:=h1;have hn:T.Nodup:=h.nd;obtain ⟨g,rfl⟩:∃ g,f = g + 1:=⟨f - 1,by omega⟩;unfold chF at h1;refine ⟨⟨a9o ajq auh hn,fun hc=>?_,fun hc=>?_⟩,by omega⟩
 · have hc:(o9 l m T).2 = true:=hc
   rw [if_pos hc] at h1;have:=aw7 hn hc;exact ⟨h1,by show muT (o9 l m T).1 < g;omega⟩
 have hc:(o9 l m T).2 = false:=hc;rw [if_neg (by rw [hc];decide)] at h1;exact h1
def md (l:List Fd) (T:List AS) (i:Nat):TC:=(l.take i).foldl fdR (T,false)
def ai3 {l:List Fd} {T:List AS} {i:Nat} (h:i < l.length):md l T (i + 1) = fdR (md l T i) (l.getD i default):=by
 unfold md;rw [aq h,bo0];rfl
def asv {l:List Fd} {T:List AS} {i:Nat} (h:T.Nodup):(md l T i).1.Nodup:=a8c (fs:=l) ajq (l.take i) (T,false) (fun _ h=>bos h) h
def mvX (m:List Fd) (x:TC) (i:Nat):TC:=(m.take i).foldl mvR x
def w4 {m:List Fd} {x:TC} {i:Nat} (h:i < m.length):mvX m x (i + 1) = mvR (mvX m x i) (m.getD i default):=by
 unfold mvX;rw [aq h,bo0];rfl
def be5 {m:List Fd} {x:TC} {i:Nat} (h:x.1.Nodup):(mvX m x i).1.Nodup:=aff (ms:=m) auh (m.take i) x (fun _ h=>bos h) h
def bh4 (l m:List Fd) (T:List AS):mvX m (md l T l.length) m.length = o9 l m T:=by
 unfold mvX md o9;rw [bmt,bmt]
structure FdI (d:Fd) (U0:List AS) (x:Nat × List AS × Bool):Prop where
 nd:x.2.1.Nodup
 res:s7 d x.1 x.2.1 = s7 d FU2 U0
 fuel:(orL x.2.1).toNat < x.1
 f:x.2.2 = false -> x.2.1 = U0
 t:x.2.2 = true -> (fdT d U0).isSome = true
section
variable {d:Fd} {U0 U:List AS} {g:Nat} {b c:Bool} {s:AS}
theorem FdI.start (h:U0.Nodup):FdI d U0 (FU2,U0,false):=⟨h,rfl,bow (orL U0).isLt (show 2 ^ 32 <= FU2 by decide),fun _=>rfl,fun h=>by cases h⟩
theorem FdI.len (h:FdI d U0 (g,U,b)):U.length <= 8589934592:=bmy (xm (show U.Nodup from h.nd)) br2
theorem FdI.next (h:FdI d U0 (g,U,b)) (hq:fdT d U = some s):FdI d U0 (g - 1,kx U s,true) /\ 0 < g:=by
 have h3:(orL U).toNat < g:=h.fuel;have h2:s7 d g U = s7 d FU2 U0:=h.res;obtain ⟨k,rfl⟩:∃ k,g = k + 1:=⟨g - 1,by omega⟩;rw [a1c hq] at h2;have h4:=ag1 hq;refine ⟨⟨aeb U s,h2,(by show (orL (kx U s)).toNat < k;omega),(fun hc=>by cases hc),fun _=>?_⟩,by omega⟩
 cases hb:b with
 | true=>exact h.t hb
 | false =>
  have e:U = U0:=h.f hb;rw [<- e,hq];rfl
theorem FdI.done (h:FdI d U0 (g,U,b)) (hq:fdT d U = none):(U,c || b) = fdR (U0,c) d:=by
 have h2:s7 d g U = s7 d FU2 U0:=h.res;rw [a14 hq] at h2;unfold fdR;rw [<- h2]
 cases hb:b with
 | true=>rw [h.t hb]
 | false =>
  have e:U = U0:=h.f hb;rw [<- e,hq];rfl
end
def a93 {x:TC} {d:Fd}:mvR x d = (mvO d FU2 x.1 0,x.2 || decide (x.1.length < (mvO d FU2 x.1 0).length)):=rfl
end
section
open Go.Proofs
def ayt (n:Int) (l m:List Fd) (x:AS):a6 brj 206 [pI n,pP (fdl l),pP (fdl m),pA x] (a8 [.agg [asl (chT l m (a7 n &&& ~~~x))]]):=by
 refine hpx (nt:=44) Tryz.func206 ?_;refine ca 1 rfl fun hbl=>?_;refine ca 2 rfl fun hbm=>?_;refine sx7 ?_;refine m9 900 ?_;refine w_3 ?_;refine m9 901 ?_;refine qy ?_;refine m9 902 ?_;refine w_5 ?_;refine qcx lr (lj n) ?_;refine w_2 ?_;refine fj rfl rfl rfl rfl rfl rfl afe (((b3k [0] (a7 n &&& ~~~x) br2).swap 1000 902).swap 1001 901) (⟨vw.refl _,(CoP.of_eq (congrArg (fun z=>PV.raw (.int .u32 z)) (gl _ _))),trivial⟩) ⟨u9,⟨_,rfl,(qi (CoP.refl _))⟩,trivial⟩ rfl rfl ?_;refine w_7 ?_;refine ae (ι:=(Nat × List AS × Bool)) (ka 1 (ka 2 (ka 8 (ka 9 kn)))) (kb 900 km) (fun y=>⟨[(10,some (vB y.2.2))],[(902,some (.box [.ref 901 y.2.1.length])),(901,some (.arr true 1 46 y.2.1.length (lf sC y.2.1)))]⟩) (fun y=>ChI l m (chT l m (a7 n &&& ~~~x)) y) (fun y=>ate y) ((MU,abr (a7 n &&& ~~~x),true)) (ChI.start l m (a7 n &&& ~~~x)) ⟨⟨⟨_,rfl,(CoR.refl _)⟩,trivial⟩,uu⟩ ?_;rintro ⟨f,T,ag⟩ hC;refine w_5 ?_;refine aj _ rfl (fun r0=>?_) (fun r0=>?_)
 ·
  have h0:=r0;obtain rfl:ag = true:=r0;obtain ⟨hC2,hf⟩:=hC.next
  have hT:T.Nodup:=hC.nd;refine en ?_;refine b7 (ka 1 (ka 2 (ka 8 (ka 9 kn)))) (kb 900 km) (fun i=>⟨[(10,some (vB (md l T i).2)),(11,some (vI i))],[(902,some (.box [.ref 901 (md l T i).1.length])),(901,some (.arr true 1 46 (md l T i).1.length (lf sC (md l T i).1)))]⟩) l.length ⟨⟨⟨_,rfl,(CoR.refl _)⟩,⟨_,rfl,(CoR.refl _)⟩,trivial⟩,uu⟩ ?_;rintro i hi;refine w_8 ?_;refine hcd (fun h1=>?_) (fun h1=>?_)
  ·
   have hil:i < l.length:=by omega
   refine w_4 ?_;refine ae (ι:=(Nat × List AS × Bool)) (ka 1 (ka 2 (ka 8 (ka 9 (ka 11 kn))))) (kb 900 km) (fun y=>⟨[(10,some (vB ((md l T i).2 || y.2.2)))],[(902,some (.box [.ref 901 y.2.1.length])),(901,some (.arr true 1 46 y.2.1.length (lf sC y.2.1)))]⟩) (fun y=>FdI (l.getD i default) (md l T i).1 y) (fun y=>y.1) ((FU2,(md l T i).1,false)) (FdI.start (asv hT)) ⟨⟨⟨_,rfl,(cob br1)⟩,trivial⟩,uu⟩ ?_;rintro ⟨g,U,b⟩ hF;refine w_2 ?_
   rcases hq:fdT (l.getD i default) U with _ | s
   ·
    refine w_5 ?_;refine fc9 (wgx Tryz.func240) ((bjv U (l.getD i default) hq hF.len).swap 1000 902) uu ?_;refine c6 ?_;refine aj _ rfl (fun r2=>?_) (fun r2=>?_)
    · have h2:=r2;cases r2
    have h2:=r2;have hd:=hF.done (c:=(md l T i).2) hq;have hd1:U = (md l T (i + 1)).1:=by rw [ai3 hil];exact congrArg Prod.fst hd
    have hd2:((md l T i).2 || b) = (md l T (i + 1)).2:=by rw [ai3 hil];exact congrArg Prod.snd hd
    refine w_6 ?_;exact lpx (i + 1) ⟨⟨⟨_,rfl,(by rw [<- hd2];exact CoR.refl _)⟩,⟨_,rfl,(CoR.refl _)⟩,tt⟩,⟨⟨_,rfl,(by rw [<- hd1];exact CoO.refl _)⟩,⟨_,rfl,(by rw [<- hd1];exact CoO.refl _)⟩,uu⟩⟩
   refine w_5 ?_;refine fc9 (wgx Tryz.func240) ((bka U (l.getD i default) s hq hF.len).swap 1000 902) uu ?_;refine c6 ?_;refine aj _ rfl (fun r3=>?_) (fun r3=>?_)
   ·
    have h3:=r3;obtain ⟨hF2,hg0⟩:=hF.next hq
    refine w_5 ?_;refine ⟨(g - 1,kx U s,true), ?_, ?_, ?_⟩
    · exact hF2
    · dsimp only;omega
    exact ⟨⟨⟨_,rfl,(cob br1)⟩,tt⟩,uu⟩
   have h3:=r3;cases r3
  obtain rfl:i = l.length:=by omega
  refine w_6 ?_;refine b7 (ka 1 (ka 2 (ka 8 (ka 9 kn)))) (kb 900 km) (fun i=>⟨[(10,some (vB (mvX m (md l T l.length) i).2)),(12,some (vI i))],[(902,some (.box [.ref 901 (mvX m (md l T l.length) i).1.length])),(901,some (.arr true 1 46 (mvX m (md l T l.length) i).1.length (lf sC (mvX m (md l T l.length) i).1)))]⟩) m.length ⟨⟨⟨_,rfl,(CoR.refl _)⟩,⟨_,rfl,(CoR.refl _)⟩,trivial⟩,uu⟩ ?_;rintro i hi;refine w_8 ?_;refine hcd (fun h4=>?_) (fun h4=>?_)
  ·
   have hil:i < m.length:=by omega
   refine w_9 ?_;refine fc9 (wgx Tryz.func241) (((bk3 (mvX m (md l T l.length) i).1 (m.getD i default) (be5 (asv hT))).swap 1000 902).swap 1001 901) uu ?_;refine c6 ?_;refine aj _ rfl (fun r5=>?_) (fun r5=>?_)
   · have h5:=r5;have hch:=a08 r5;refine w_8 ?_;exact lpx (i + 1) ⟨⟨⟨_,rfl,(by rw [w4 hil,a93];first | exact cob (by rw [decide_eq_true hch];simp) | exact cob (by rw [decide_eq_false hch];simp))⟩,⟨_,rfl,(CoR.refl _)⟩,tt⟩,⟨⟨_,rfl,(by rw [w4 hil,a93];exact CoO.refl _)⟩,⟨_,rfl,(by rw [w4 hil,a93];exact CoO.refl _)⟩,uu⟩⟩
   have h5:=r5;have hch:=a2a r5;refine w_6 ?_;exact lpx (i + 1) ⟨⟨⟨_,rfl,(by rw [w4 hil,a93];first | exact cob (by rw [decide_eq_true hch];simp) | exact cob (by rw [decide_eq_false hch];simp))⟩,⟨_,rfl,(CoR.refl _)⟩,tt⟩,⟨⟨_,rfl,(by rw [w4 hil,a93];exact CoO.refl _)⟩,⟨_,rfl,(by rw [w4 hil,a93];exact CoO.refl _)⟩,uu⟩⟩
  obtain rfl:i = m.length:=by omega
  have hron:=bh4 l m T;refine dj ?_;refine ⟨(f - 1,(o9 l m T).1,(o9 l m T).2), ?_, ?_, ?_⟩
  · exact hC2
  · exact bbw hf
  exact ⟨⟨⟨_,rfl,(by rw [<- hron];exact CoR.refl _)⟩,tt⟩,⟨⟨_,rfl,(by rw [<- hron];exact CoO.refl _)⟩,⟨_,rfl,(by rw [<- hron];exact CoO.refl _)⟩,uu⟩⟩
 have h0:=r0;obtain rfl:ag = false:=r0;have hl:T = (chT l m (a7 n &&& ~~~x)):=hC.f rfl;subst hl;refine w_6 ?_;refine agv 900 0 rfl rfl rfl rfl rfl ?_;exact hx8 rfl rfl rfl (⟨CoC.refl _,trivial⟩)
def b5e (T:List AS):a6 brj 207 [.agg [asl T]] (a8 [pA (orL T)]):=by
 refine hpx (nt:=20) Tryz.func207 ?_;refine sx7 ?_;refine m9 0 ?_;refine w_8 ?_;refine b4y 0 0 rfl rfl fun hb=>?_;refine w_4 ?_;refine b7 (ka 1 kn) (kb 0 km) (fun i=>⟨[(3,some (vA (orL (T.take i)))),(4,some (vI i))],[]⟩) T.length ⟨⟨⟨_,rfl,(CoR.refl _)⟩,⟨_,rfl,(CoR.refl _)⟩,trivial⟩,trivial⟩ ?_;rintro i hi;refine w_9 ?_;refine hcd (fun h0=>?_) (fun h0=>?_)
 · refine agx ?_;exact lpx (i + 1) ⟨⟨⟨_,rfl,(bn ((bOr _ _).trans (congrArg asI (a4r bqx).symm)))⟩,⟨_,rfl,(CoR.refl _)⟩,tt⟩,uu⟩
 obtain rfl:i = T.length:=by omega
 rw [show T.take T.length = T from bmt];refine v_6 ?_;exact CoL.refl _
def ax2 (n:Int) (l m:List Fd) (x:AS):a6 brj 159 [pI n,pP (fdl l),pP (fdl m),pA x] (a8 [pA (a7 n &&& ~~~(orL (chT l m (a7 n &&& ~~~x))))]):=by
 refine hpx (nt:=18) Tryz.func159 ?_;refine w_7 ?_;refine qcx lr (lj n) ?_;refine w_4 ?_;refine qcx (wgx Tryz.func206) (ayt n l m x) ?_;refine qcx (wgx Tryz.func207) (b5e (chT l m (a7 n &&& ~~~x))) ?_;refine v_3 ?_;exact ⟨cci (gl _ _),trivial⟩
end
section
def ab6 (a b:AS):Bool:=o8 b a
def a2b (l:List AS):List AS:=vd ab6 l
def okM (l:List AS) (i k:Nat):Bool:=(List.range k).all fun j=>decide (j = i) || !o8 (l.getD j default) (l.getD i default)
def b3t (l:List AS) (i k:Nat):okM l i (k + 1) = (okM l i k && (decide (k = i) || !o8 (l.getD k default) (l.getD i default))):=by
 unfold okM;rw [bod,List.all_append];simp
def okM_succ' (l:List AS) (i k:Nat):okM l i (k + 1) = (okM l i k && (decide ((k:Int) = i) || !o8 (l.getD k default) (l.getD i default))):=by
 rw [b3t,decide_eq_decide.2 (show (k:Int) = i <-> k = i by omega)]
section
variable {l:List AS}
def ash {i:Nat} (hn:l.Nodup) (hi:i < l.length):okM l i l.length = !pn ab6 l (l.getD i default):=by
 rw [bom];unfold okM pn ab6;rw [bnr,bnj,bof];constructor
 · intro h b hb hc
   obtain ⟨j,hj,rfl⟩:=bng hb;have:=h j (bn3.2 hj);simp only [bmw,decide_eq_true_eq,bob,bnj,bmm,bml hj,bml hi,bnf] at this hc
   rcases this with h1 | h1
   · subst h1;exact hc.1 rfl
   rw [hc.2] at h1;cases h1
 intro h j hj;have hj:=bn3.1 hj;have:=h l[j] (bnb hj);simp only [bmm,bml hj,bml hi,bnf,bob,decide_eq_true_eq,bnj,bmw] at this ⊢;by_cases e:j = i
 · exact .inl e
 right;rw [bmx];intro hs;refine this ⟨fun he=>e ?_,hs⟩;exact ((List.getElem_inj hn).1 he).symm
def rg (l:List AS) (i:Nat):List AS:=((ord l).take i).filter fun x=>!pn ab6 (ord l) x
def a97 {i:Nat} (hi:i < (ord l).length) (h:okM (ord l) i (ord l).length = true):rg l (i + 1) = rg l i ++ [(ord l).getD i default]:=by
 rw [ash (um l) hi] at h;unfold rg;rw [aq hi,bnv];simp only [bns,h,if_true,boh]
def a9u {i:Nat} (hi:i < (ord l).length) (h:okM (ord l) i (ord l).length = false):rg l (i + 1) = rg l i:=by
 rw [ash (um l) hi] at h;unfold rg;rw [aq hi,bnv];simp only [bns,h,bo1,if_false,boh,bnn]
def az0 (l:List AS) (i:Nat):(rg l i).length <= i:=by
 unfold rg;exact bmy (boj _ _) (by rw [bmv];omega)
def aw5 (l:List AS):rg l (ord l).length = a2b l:=by
 unfold rg a2b vd;rw [bmt]
def ao6 {z:AS}:z ∈ a2b l <-> z ∈ l /\ ∀ b ∈ l,sub b z -> b = z:=by
 unfold a2b vd;rw [bol,jb,bnj,bmx];refine and_congr Iff.rfl ?_;unfold pn ab6 o8;rw [Ne,bno];constructor
 · intro h b hb hs
   apply Classical.byContradiction;intro hne;exact h ⟨b,jb.2 hb,by rw [bmw,decide_eq_true_eq,decide_eq_true_eq];exact ⟨fun e=>hne e.symm,hs⟩⟩
 rintro h ⟨b,hb,hc⟩;rw [bmw,decide_eq_true_eq,decide_eq_true_eq] at hc;exact hc.1 (h b (jb.1 hb) hc.2).symm
def b2o (l:List AS):qb (a2b l):=List.Pairwise.filter _ (ip l)
def b04 (l:List AS):(a2b l).length <= l.length:=bmy (boj _ _) (ke l)
def yq (rest L x:AS) (T:List AS) (y:AS):Bool:=!decide (y = 0) && (decide (y &&& ~~~rest = 0) && decide ((L &&& ~~~(x ||| y)) ∈ T))
def yL (rest L x:AS) (T:List AS) (k:Nat):List AS:=((List.range k).map (BitVec.ofNat 32)).filter (yq rest L x T)
end
section
variable {rest L x:AS} {T:List AS} {k:Nat}
def azv:yL rest L x T 1 = []:=by
 unfold yL;rw [show List.range 1 = [0] from rfl];simp only [bo7,bqb,bns,boh];rw [if_neg];unfold yq;rw [decide_eq_true (show BitVec.ofNat 32 0 = 0 from rfl)];intro h;cases h
def ah7 (h:yq rest L x T (BitVec.ofNat 32 k) = true):yL rest L x T (k + 1) = yL rest L x T k ++ [BitVec.ofNat 32 k]:=by
 unfold yL;rw [bod,bou,bnv];simp only [bo7,bqb,bns,boh,h,if_true]
def agf (h:yq rest L x T (BitVec.ofNat 32 k) = false):yL rest L x T (k + 1) = yL rest L x T k:=by
 unfold yL;rw [bod,bou,bnv];simp only [bo7,bqb,bns,boh,h,bo1,if_false,bnn]
def avx:(yL rest L x T k).length <= k:=by
 unfold yL;exact bmy (boj _ _) (by rw [bn6,bp3];exact bmp _)
def bes {z:AS}:z ∈ yL rest L x T (rest.toNat + 1) <-> qB T L x rest z:=by
 unfold yL yq qB;rw [bol,bne,bmw,bmw,bnj,decide_eq_false_iff_not,decide_eq_true_eq,decide_eq_true_eq];constructor
 · rintro ⟨_,h1,h2,h3⟩
   exact ⟨h1,h2,h3⟩
 rintro ⟨h1,h2,h3⟩;exact ⟨⟨z.toNat,bn3.2 (by have:=ad8 h2;omega),by simp⟩,h1,h2,h3⟩
end
def bb7 (n:Int) (x:AS):(a7 n &&& ~~~x) &&& x = 0:=kf.2 fun i hi h=>by
 rw [cw hi,bmw] at h;simpa using h.2
def atc (n:Int) (l m:List Fd) (x:AS):a2b (yL (a7 n &&& ~~~x) (orL (chT l m (a7 n &&& ~~~x))) x (chT l m (a7 n &&& ~~~x)) ((a7 n &&& ~~~x).toNat + 1)) = dc n l m x:=by
 obtain ⟨h1,h2⟩:=amz (fs:=l) (ms:=m) (rest:=a7 n &&& ~~~x);refine ao1 (b2o _) fun z=>?_;rw [ao6,ay7 ap3 (a9j (jr l m) (a7 n &&& ~~~x)).1 h1 h2 (bb7 n x) z];simp only [bes]
section
variable {a:Nat}
def b7k {b:AS} (h:bsz b = 1) (ha:b.getLsbD a = true):b = jx a:=by
 rw [uq] at h;have h1:a ∈ ak b:=jc.2 ⟨a0d ha,ha⟩
 cases hm:ak b with
 | nil=>rw [hm] at h1;cases h1
 | cons c r =>
  rw [hm] at h h1;have hr:r = []:=bqh.1 (by simpa using h);subst hr;have e:a = c:=by simpa using h1
  subst e;apply lc;intro i hi;rw [gk (a0d ha) hi]
  cases hb:b.getLsbD i with
  | true =>
   have:i ∈ ak b:=jc.2 ⟨hi,hb⟩;rw [hm] at this;simpa using this
  | false =>
   symm;rw [decide_eq_false_iff_not];rintro rfl;rw [ha] at hb;cases hb
def b2a (ha:a < 32):bsz (jx a) = 1:=by
 unfold bsz
 have e:(List.range 32).countP (fun i=>(jx a).getLsbD i) = (List.range 32).countP fun i=>decide (i = a):=by
  apply List.countP_congr;intro i hi;rw [bn3] at hi;rw [gk ha hi]
 rw [e]
 have h2:∀ k,(List.range k).countP (fun i=>decide (i = a)) = if a < k then 1 else 0:=by
  intro k
  induction k with
  | zero=>simp
  | succ k ih =>
   rw [bod,bqn,ih];simp only [bp8,List.countP_nil];by_cases h:k = a
   · subst h
     simp
   have hd:¬ decide (k = a) = true:=fun q=>h (of_decide_eq_true q);rw [if_neg hd];by_cases h3:a < k
   · rw [if_pos h3,if_pos (show a < k + 1 by omega)]
   rw [if_neg h3,if_neg (show ¬ a < k + 1 by omega)]
 rw [h2,if_pos ha]
def ank {l:List Fd}:∀ {bs:List AS} {o:AS},(ux l o bs).getLsbD a = true <-> o.getLsbD a = true \/ ∃ b ∈ bs,bsz b = 1 /\ l.any (a0i b) = true /\ b.getLsbD a = true
 | [],o=>by simp [ux]
 | b :: bs,o=>by
  show (ux l (w7 l o b) bs).getLsbD a = true <-> _;rw [ank];unfold w7;constructor
  · rintro (h | ⟨c,hc,h⟩)
    · split at h
      · split at h
        · rw [bo9,bob] at h
          rcases h with h | h
          · exact .inl h
          exact .inr ⟨b,by simp,by assumption,by assumption,h⟩
        exact .inl h
      exact .inl h
    exact .inr ⟨c,by simp [hc],h⟩
  rintro (h | ⟨c,hc,h1,h2,h3⟩)
  · left
    split
    · split
      · rw [bo9,h];rfl
      exact h
    exact h
  rcases bn0.1 hc with rfl | hc
  · left
    rw [if_pos h1,if_pos h2,bo9,h3,Bool.or_true]
  exact .inr ⟨c,hc,h1,h2,h3⟩
def aiz {f:Fd} (ha:a < 32):a0i (jx a) f = true <-> f.rhs.getLsbD a = true /\ f.lhs.getLsbD a = false:=by
 unfold a0i;rw [bnj,decide_eq_false_iff_not];constructor
 · intro h
   obtain ⟨i,hi,h1,h2⟩:=a0o h;rw [gk ha hi] at h2;have e:i = a:=by simpa using h2
   subst e;rw [cw hi,bmw] at h1;exact ⟨h1.1,by simpa using h1.2⟩
 rintro ⟨h1,h2⟩ h;have:=kf.1 h a ha (by rw [cw ha,h1,h2];rfl);rw [gk ha ha] at this;simp at this
def bbn {n:Int} {l m:List Fd} {x:AS} (ha:a < 32):(qa n l m x).getLsbD a = true <-> x.getLsbD a = true \/ ae3 l (blks (jr l m) (a7 n &&& ~~~x)) a:=by
 unfold qa;rw [ank];refine or_congr Iff.rfl ?_;unfold dc ae3;constructor
 · rintro ⟨b,hb,h1,h2,h3⟩
   have e:=b7k h1 h3;subst e;obtain ⟨f,hf,hc⟩:=bno.1 h2;exact ⟨jb.1 hb,f,hf,(aiz ha).1 hc⟩
 rintro ⟨h1,f,hf,h2⟩;exact ⟨jx a,jb.2 h1,b2a ha,bno.2 ⟨f,hf,(aiz ha).2 h2⟩,by rw [gk ha ha];simp⟩
def b1u {n:Int} {l m:List Fd} {x:AS} (hx:sub x (a7 n)):a7 n &&& ~~~(orL (chT l m (a7 n &&& ~~~x))) = qa n l m x:=by
 obtain ⟨h1,h2⟩:=amz (fs:=l) (ms:=m) (rest:=a7 n &&& ~~~x);have hf:=ap3 (fs:=l) (ms:=m) (rest:=a7 n &&& ~~~x);obtain ⟨hb,hs⟩:=a9j (jr l m) (a7 n &&& ~~~x);have hr:=(hf.j.r _ h1).1;obtain ⟨L,q1,q2,q3⟩:=hf.j.top;have eL:orL (chT l m (a7 n &&& ~~~x)) = L:=ef (q2 _ h1) (h2 _ q1);apply lc;intro a ha;rw [cw ha,bom,bmw,bnj,bbn ha];constructor
 · rintro ⟨p1,p2⟩
   cases hxa:x.getLsbD a with
   | true=>exact .inl rfl
   | false =>
    right;rw [eL] at p2;exact q3 a ha (by rw [cw ha,p1,hxa];rfl) p2
 rintro (p | p)
 · refine ⟨ap.1 hx a ha p, ?_⟩
   cases hl:(orL (chT l m (a7 n &&& ~~~x))).getLsbD a with
   | false=>rfl
   | true =>
    have:=ap.1 hr a ha hl;rw [cw ha,p] at this;simp at this
 have p0:=p;obtain ⟨p1,_⟩:=p;have:=ap.1 (hb.sub p1) a ha (by rw [gk ha ha];simp);rw [cw ha,bmw] at this;exact ⟨this.1,b3d hf hb h1 h2 ha p0⟩
end
end
section
def bjw (l:List Fd) (p:AS) (k:Nat):List Fd:=(((List.range k).map (BitVec.ofNat 32)).filter fun s=>decide (sub s p)).map fun s=>⟨s,clo l s &&& p⟩
def bm1 (l:List Fd) (ps:List AS) (i:Nat):List Fd:=(ps.take i).flatMap fun p=>bjw l p (p.toNat + 1)
def bly (a b:List Fd):Bool:=b.any fun f=>!imp a f
def bm4 (n:Int) (l:List Fd) (ps:List AS):Int:=if b5 n l = 0 then lsC n ps l [] else b5 n l
def bme (n:Int) (l:List Fd) (ps:List AS):Bool:=decide (b5 n l = 0) && (lsB n ps l [] && p8 l ps && ps.all (sc l))
section
variable {n:Int} {l:List Fd} {ps:List AS}
def b85 (h0:0 <= n) (h8:n <= 8) {q:AS} (hq:sub q (a7 n)):q.toNat < 65536:=by
 have h1:=ad8 hq;have h2:∀ k,k <= 8 -> (jt k).toNat < 65536:=by decide +kernel
 have h3:(a7 n).toNat < 65536:=h2 (min n.toNat 32) bqx;omega
def ajd (h:lvE n ps = 0) {q:AS} (hq:q ∈ ps):q.toNat < 65536:=b85 (og h).1 (og h).2.1 (a7f h hq)
end
end
section
def ad0 (a b:Bs):bL (a ++ b) = bL a ++ bL b:=by simp [ByteArray.data_append]
def pkV (l:List Fd) (p s:AS):Bool:=!decide (p &&& ~~~(clo l s) = 0)
def pkL (l:List Fd) (p:AS):List AS:=a2b ((ax p).filter fun s=>!pkV l p s)
def aun (ns:List Bs) (k:AS):List UInt8:=32 :: bL (txT ns k)
def oi (ns:List Bs) (ks:List AS) (i:Nat):List UInt8:=(ks.take i).flatMap (aun ns)
def vi (ns:List Bs) (p:AS):List UInt8:=[112,97,114,116,32] ++ bL (txT ns p) ++ [32,107,101,121,115]
def a6k (ns:List Bs) (l:List Fd) (p:AS):List UInt8:=vi ns p ++ oi ns (pkL l p) (pkL l p).length ++ [10]
def gt (ns:List Bs) (l:List Fd) (ps:List AS) (i:Nat):List UInt8:=(ps.take i).flatMap (a6k ns l)
def a6v (ns:List Bs) (f:Fd):List UInt8:=[108,111,115,116,32] ++ bL (txT ns f.lhs) ++ [32,45,62,32] ++ bL (txT ns f.rhs) ++ [10]
def jo (ns:List Bs) (l:List Fd) (ls:List Nat) (i:Nat):List UInt8:=(ls.take i).flatMap fun j=>a6v ns (l.getD j default)
def k8:List Bs:=[⟨#[108,111,115,115,108,101,115,115]⟩,⟨#[112,114,101,115,101,114,118,105,110,103]⟩,⟨#[116,104,105,114,100]⟩,⟨#[98,111,121,99,101]⟩,⟨#[102,111,117,114,116,104]⟩]
def ae4 (c:Int) (i:Nat):Bool:=decide (az .and .i64 (c.fdiv (2 ^ (min i 64))) 1 = 1)
def a69 (c:Int) (i:Nat):List UInt8:=if ae4 c i = true then 32 :: bL (k8.getD i default) else []
def j0 (c:Int) (i:Nat):List UInt8:=(List.range i).flatMap (a69 c)
def al7 (ns:List Bs) (l:List Fd) (ps:List AS) (c:Int):List UInt8 :=
 gt ns l ps ps.length ++ jo ns l (c8 l ps l.length) (c8 l ps l.length).length ++ [99,108,97,105,109,115] ++ j0 c 5 ++ [10]
section
variable {ns:List Bs} {l:List Fd} {ps:List AS} {c:Int} {i:Nat}
def a4j {α:Type} [Inhabited α] {f:α -> List UInt8} {q:List α} (h:i < q.length):(q.take (i + 1)).flatMap f = (q.take i).flatMap f ++ f (q.getD i default):=by
 rw [List.take_succ,bml h,bqf,bmm,bml h];simp
def aq2 {ks:List AS} (h:i < ks.length):oi ns ks (i + 1) = oi ns ks i ++ aun ns (ks.getD i default):=a4j h
def alv (h:i < ps.length):gt ns l ps (i + 1) = gt ns l ps i ++ a6k ns l (ps.getD i default):=a4j h
def an8 {ls:List Nat} (h:i < ls.length):jo ns l ls (i + 1) = jo ns l ls i ++ a6v ns (l.getD (ls.getD i default) default):=a4j h
def a5y:j0 c (i + 1) = j0 c i ++ a69 c i:=by
 unfold j0;rw [bod,bqf];simp
def y4 {α:Type} {f:α -> List UInt8} {K:Nat}:∀ {q:List α},(∀ x ∈ q,(f x).length <= K) -> (q.flatMap f).length <= K * q.length
 | [],_=>by simp
 | x :: q,h=>by
  have h1:=h x br1;have h2:=y4 (q:=q) fun y hy=>h y (by simp [hy]);rw [bpt,bmo,bn9,Nat.mul_succ];omega
def a7u (h:∀ b ∈ ns,b.size <= 1000) (s:AS):(bL (txT ns s)).length <= 32033:=by
 have:=ba1 (s:=s) h;rw [ae1];omega
def a6t (h:∀ b ∈ ns,b.size <= 1000) {ks:List AS}:(oi ns ks i).length <= 32034 * ks.length:=by
 refine bmy (y4 (K:=32034) fun x _=>?_) (Nat.mul_le_mul_left _ (by rw [bmv];omega));have:=a7u h x;show (bL _).length + 1 <= _;omega
def a7w (h:∀ b ∈ ns,b.size <= 1000) (p:AS):(vi ns p).length <= 32043:=by
 have:=a7u h p;unfold vi;simp only [bmo,bn9,bo6];omega
def aet {p:AS} (hp:p.toNat < 65536):(pkL l p).length <= 65537:=by
 unfold pkL;refine bmy (b04 _) (bmy (boj _ _) ?_);unfold ax yu;have h1:=a6d (s:=p) (p.toNat + 1) p;have h2:=ke (a1n p (p.toNat + 1) p);split
 · simp
 omega
def avk (h:∀ b ∈ ns,b.size <= 1000) {p:AS} (hp:p.toNat < 65536):(a6k ns l p).length <= 2100000000:=by
 have h1:=a6t (i:=(pkL l p).length) (ks:=pkL l p) h;have h2:=a7w h p;have h3:=aet (l:=l) hp;unfold a6k;simp only [bmo,bn9,bo6];omega
def au3 (h:∀ b ∈ ns,b.size <= 1000) (hp:∀ p ∈ ps,p.toNat < 65536) (h64:ps.length <= 64):(gt ns l ps i).length <= 134400000000:=by
 have h1:(gt ns l ps i).length <= 2100000000 * (ps.take i).length:=y4 (K:=2100000000) fun x hx=>avk h (hp x (bos hx));rw [bmv] at h1;omega
def azg (h:∀ b ∈ ns,b.size <= 1000) (f:Fd):(a6v ns f).length <= 64100:=by
 have h1:=a7u h f.lhs;have h2:=a7u h f.rhs;unfold a6v;simp only [bmo,bn9,bo6];omega
def ato (h:∀ b ∈ ns,b.size <= 1000) {ls:List Nat} (hl:ls.length <= 64):(jo ns l ls i).length <= 4102400:=by
 have h1:(jo ns l ls i).length <= 64100 * (ls.take i).length:=y4 (K:=64100) fun x _=>azg h _;rw [bmv] at h1;omega
def aa7 (h:i <= 5):(j0 c i).length <= 100:=by
 have h1:(j0 c i).length <= 20 * (List.range i).length:=y4 (K:=20) fun x hx=>by
  unfold a69;split
  · have hx:=bn3.1 hx
    have:(bL (k8.getD x default)).length <= 10:=by
     match x,hx with
     | 0,_=>decide
     | 1,_=>decide
     | 2,_=>decide
     | 3,_=>decide
     | 4,_=>decide
     | n + 5,hx=>omega
    show _ + 1 <= _;omega
  exact bms _
 rw [bp3] at h1;omega
def bam {s:AS} {n:Nat} (h8:n <= 16) (h:sub s (a7 n)) {i:Nat} (hi:i ∈ ak s):i < n:=by
 obtain ⟨h32,hb⟩:=jc.1 hi;have:=ap.1 h i h32 hb
 have hn:¬ n <= i:=fun hle=>by
  have h2:=(a5t (s:=a7 n) (n:=(n:Int)) bqx bqx).1 (sub_self _);have h3:=congrArg (fun x:AS=>x.getLsbD (i - n)) h2;simp only [bmz,bph,show n + (i - n) = i by omega,this] at h3;simp at h3
 omega
def ban {j:Nat} (h:j < (c8 l ps l.length).length):(c8 l ps l.length).getD j default < l.length:=by
 have hm:(c8 l ps l.length).getD j default ∈ c8 l ps l.length:=dt h;exact bn3.1 (bol.1 hm).1
def anm:(c8 l ps l.length).length <= l.length:=by
 refine bmy (boj _ _) ?_;rw [bp3];exact bmp _
end
end
section
def uv (ns:List Bs) (l m:List Fd) (ps:List AS):Int:=if nf ns = 0 then (if lvE ns.length ps = 0 then br ns.length l m else lvE ns.length ps) else nf ns
def agy (ns:List Bs) (l m:List Fd) (ps:List AS) (c:Int):Bs:=if uv ns l m ps = 0 then bOf (al7 ns l ps c) else ⟨#[]⟩
section
variable {ns:List Bs} {l m:List Fd} {ps:List AS} {c:Int} {X:List UInt8}
def bch (h:¬ nf ns = 0):uv ns l m ps = nf ns /\ agy ns l m ps c = ⟨#[]⟩:=by
 have e:uv ns l m ps = nf ns:=if_neg h;exact ⟨e,if_neg (by rw [e];exact h)⟩
def bc4 (h:nf ns = 0) (h2:¬ lvE ns.length ps = 0):uv ns l m ps = lvE ns.length ps /\ agy ns l m ps c = ⟨#[]⟩:=by
 have e:uv ns l m ps = lvE ns.length ps:=by unfold uv;rw [if_pos h,if_neg h2]
 exact ⟨e,if_neg (by rw [e];exact h2)⟩
def bc1 (h:nf ns = 0) (h2:lvE ns.length ps = 0) (h3:¬ br ns.length l m = 0):uv ns l m ps = br ns.length l m /\ agy ns l m ps c = ⟨#[]⟩:=by
 have e:uv ns l m ps = br ns.length l m:=by unfold uv;rw [if_pos h,if_pos h2]
 exact ⟨e,if_neg (by rw [e];exact h3)⟩
def bgn (h:nf ns = 0) (h2:lvE ns.length ps = 0) (h3:br ns.length l m = 0):uv ns l m ps = 0 /\ agy ns l m ps c = bOf (al7 ns l ps c):=by
 have e:uv ns l m ps = 0:=by unfold uv;rw [if_pos h,if_pos h2,h3]
 exact ⟨e,if_pos e⟩
def bfa {p k:AS} (h:k ∈ pkL l p):sub k p:=by
 have h1:=(ao6.1 h).1;have h2:=(bol.1 h1).1;unfold ax at h2;split at h2
 · cases h2
 exact a1e.1 h2
def szA (a b:Bs):(a ++ b).size = a.size + b.size:=ByteArray.size_append
def bil (h:∀ b ∈ ns,b.size <= 1000) (s:AS):(txT ns s).size <= 32033:=a7u h s
def b8r {p:AS} {ks:List AS}:X ++ bL ((⟨#[112,97,114,116,32]⟩ ++ txT ns p) ++ ⟨#[32,107,101,121,115]⟩) = X ++ vi ns p ++ oi ns ks 0:=by
 simp [ad0,vi,oi]
def bdj {ks:List AS} {k:Nat} (h:k < ks.length):(X ++ oi ns ks k) ++ bL (⟨#[32]⟩ ++ txT ns (ks.getD k default)) = X ++ oi ns ks (k + 1):=by
 rw [aq2 h];simp [ad0,aun]
section
variable {i:Nat}
def b5u (h:i < ps.length):(gt ns l ps i ++ vi ns (ps.getD i default) ++ oi ns (pkL l (ps.getD i default)) (pkL l (ps.getD i default)).length) ++ bL ⟨#[10]⟩ = gt ns l ps (i + 1):=by
 rw [alv h];simp [a6k]
def baw {ls:List Nat} {j:Nat} (h:j < ls.length) (f:Fd) (hf:f = l.getD (ls.getD j default) default) :
 (X ++ jo ns l ls j) ++ bL ((((⟨#[108,111,115,116,32]⟩ ++ txT ns f.lhs) ++ ⟨#[32,45,62,32]⟩) ++ txT ns f.rhs) ++ ⟨#[10]⟩) = X ++ jo ns l ls (j + 1):=by
 subst hf;rw [an8 h];simp [ad0,a6v]
def ayg (h:ae4 c i = true):(X ++ j0 c i) ++ bL (⟨#[32]⟩ ++ k8.getD i default) = X ++ j0 c (i + 1):=by
 rw [a5y];unfold a69;rw [if_pos h];simp [ad0]
def azh (h:ae4 c i = false):X ++ j0 c i = X ++ j0 c (i + 1):=by
 rw [a5y];unfold a69;rw [if_neg (by rw [h];exact bqk),bnn]
def b3o {f:Nat -> Nat -> PV} (hi:i < 5) (h0:f 0 0 = bsC (k8.getD 0 default) 0) (h1:f 1 0 = bsC (k8.getD 1 default) 0) (h2:f 2 0 = bsC (k8.getD 2 default) 0) (h3:f 3 0 = bsC (k8.getD 3 default) 0) (h4:f 4 0 = bsC (k8.getD 4 default) 0):f i 0 = bsC (k8.getD i default) 0:=by
 match i,hi with
 | 0,_=>exact h0
 | 1,_=>exact h1
 | 2,_=>exact h2
 | 3,_=>exact h3
 | 4,_=>exact h4
def alo (hi:i < 5):(k8.getD i default).size <= 10:=by
 match i,hi with
 | 0,_=>decide
 | 1,_=>decide
 | 2,_=>decide
 | 3,_=>decide
 | 4,_=>decide
end
end
end
section
section
variable {n:Int} {ps:List AS} {p m l:List Fd}
abbrev tb0 (n:Int) (ps:List AS):List Rw:=au (bo n ps)
abbrev trS (n:Int) (ps:List AS) (p m:List Fd):List St:=(lsT n ps p m).1
abbrev trT (n:Int) (ps:List AS) (p m:List Fd) (i:Nat):List Rw:=(trL n p m (tb0 n ps) (trS n ps p m)).getD i default
def bdh (h:¬ lsC n ps p m = 0):prS n ps p m = [] /\ prC n ps p m = lsC n ps p m:=by
 have hc:(rcR n ps p m).2.2 = lsC n ps p m:=a01;unfold prS prC;rw [hc,if_neg h,if_neg h];exact ⟨rfl,rfl⟩
def ace (hls:lsC n ps p m = 0) {i:Nat} (hi:i <= (trS n ps p m).length) (hI:∀ j,j < i -> o0 n (trT n ps p m j) = false) (h:o0 n (trT n ps p m i) = true):prS n ps p m = (trS n ps p m).take i /\ prC n ps p m = 0:=by
 have hq:=a94 hls;have hi':i <= (lsT n ps p m).1.length:=hi;have hc:(rcR n ps p m).2.2 = 0:=by rw [hq]
 have hx:prX n ps p m = (i:Int):=by
  unfold prX;rw [hq];refine sq (p:=fun a:Int × List Rw=>o0 n a.2) (i:=i) (by show i < (ji n p m _ _).length;rw [a00];omega) (fun j hj=>?_) ?_
  · show o0 n ((ji n p m _ _).getD j default).2 = false
    rw [a9x bqx];exact hI j hj
  show o0 n ((ji n p m _ _).getD i default).2 = true;rw [a9x bqx];exact h
 unfold prS prC;rw [if_pos hc,if_pos hc,hx,if_neg bqx,if_neg bqx,hq];exact ⟨rfl,rfl⟩
def b8o (hls:lsC n ps p m = 0) (hI:∀ j,j < (trS n ps p m).length + 1 -> o0 n (trT n ps p m j) = false):prS n ps p m = [] /\ prC n ps p m = 11:=by
 have hq:=a94 hls;have hc:(rcR n ps p m).2.2 = 0:=by rw [hq]
 have hx:prX n ps p m = -1:=by
  unfold prX;rw [hq];refine sy (p:=fun a:Int × List Rw=>o0 n a.2) fun j hj=>?_;have hj:j < (ji n p m (au (bo n ps)) (lsT n ps p m).1).length:=hj;rw [a00] at hj;show o0 n ((ji n p m _ _).getD j default).2 = false;rw [a9x bqx];exact hI j hj
 unfold prS prC;rw [if_pos hc,if_pos hc,hx,if_pos bqx,if_pos bqx];exact ⟨rfl,rfl⟩
def bh2 (hls:lsC n ps p m = 0) (hb:lsB n ps p m = true):prC n ps p m = 0:=by
 obtain ⟨hv,hbe⟩:=qf hls;have hc:(lsT n ps p m).2.2 = 0:=(ad1 hv hbe).symm.trans hls;obtain ⟨sts,lend,e,htr,_,hif⟩:=ala hv hbe hc
 have hin:df n ∈ lend:=by
  unfold lsB at hb;rw [bmw,e] at hb;obtain ⟨r,hr,he⟩:=bno.1 hb.2;rw [<- of_decide_eq_true he];exact hr
 obtain ⟨t,ht,hf⟩:=hif.2 hin;apply Classical.byContradiction;intro hne;have hs:trS n ps p m = sts:=by show (lsT n ps p m).1 = sts;rw [e]
 have hall:∀ j,j < (trS n ps p m).length + 1 -> o0 n (trT n ps p m j) = false:=by
  apply Classical.byContradiction;intro hno
  have:∃ j,j < (trS n ps p m).length + 1 /\ o0 n (trT n ps p m j) = true:=by
   apply Classical.byContradiction;intro hno2;exact hno fun j hj=>bmx.2 fun h=>hno2 ⟨j,hj,h⟩
  obtain ⟨j,hj,hjt⟩:=this
  have key:∀ k,k <= j -> (∀ i,i < k -> o0 n (trT n ps p m i) = false) \/ prC n ps p m = 0:=by
   intro k
   induction k with
   | zero=>exact fun _=>.inl fun i hi=>absurd hi (bmq i)
   | succ k ih =>
    intro hk
    rcases ih bqx with h | h
    · rcases Bool.eq_false_or_eq_true (o0 n (trT n ps p m k)) with hb2 | hb2
      · exact .inr (ace hls (i:=k) bqx h hb2).2
      refine .inl fun i hi=>?_;by_cases hik:i = k
      · rw [hik];exact hb2
      exact h i bqx
    exact .inr h
  rcases key j (bmp j) with h | h
  · exact hne (ace hls (i:=j) bqx h hjt).2
  exact hne h
 obtain ⟨k,hk,he⟩:=bng ht;rw [a3w] at hk;have h1:=hall k (by rw [hs];exact hk)
 have h2:trT n ps p m k = t:=by
  show (trL n p m (tb0 n ps) (trS n ps p m)).getD k default = t;rw [hs,bmm,bml (by rw [a3w];exact hk),<- he];rfl
 rw [h2] at h1;have:o0 n t = true:=bno.2 ⟨df n,hf,decide_eq_true rfl⟩;rw [this] at h1;cases h1
def thB (n:Int) (l:List Fd) (p:AS):Bool:=qd n l p && decide (y7 n l p = 0)
def byB (l:List Fd) (p:AS):Bool:=!vl l p && decide (qk l p = 0)
def foB (n:Int) (l m:List Fd) (p:AS):Bool:=!(a6h n l m p).2 && decide (ck4 n l m p = 0)
def ly (a b c d:Bool):Int:=(bif a then 2 else 0) + ((bif b then 4 else 0) + ((bif c then 8 else 0) + (bif d then 16 else 0)))
def a11 (n:Int) (l m:List Fd) (ps:List AS):Int:=ly (p8 l ps) (ps.all (thB n l)) (ps.all (byB l)) (ps.all (foB n l m))
def p7 (n:Int) (l m:List Fd) (ps:List AS):Int:=if lsC n ps l m = 0 then a11 n l m ps + (bif lsB n ps l m then 1 else 0) else 0
def b5f (h:¬ lsC n ps l m = 0):p7 n l m ps = 0:=if_neg h
def biy (h:lsC n ps l m = 0) (hb:lsB n ps l m = true):p7 n l m ps = az .or .i64 (a11 n l m ps) 1:=by
 unfold p7;rw [if_pos h,hb];unfold a11;generalize p8 l ps = a;generalize ps.all (thB n l) = b;generalize ps.all (byB l) = c;generalize ps.all (foB n l m) = d;cases a <;> cases b <;> cases c <;> cases d <;> decide
def bim (h:lsC n ps l m = 0) (hb:lsB n ps l m = false):p7 n l m ps = a11 n l m ps:=by
 unfold p7;rw [if_pos h,hb];exact Int.add_zero _
def ar8 (h:lsC n ps l m = 0):decide (az .and .i64 (p7 n l m ps) 1 = 0) = !lsB n ps l m:=by
 unfold p7;rw [if_pos h];unfold a11;generalize p8 l ps = a;generalize ps.all (thB n l) = b;generalize ps.all (byB l) = c;generalize ps.all (foB n l m) = d;generalize lsB n ps l m = e;cases a <;> cases b <;> cases c <;> cases d <;> cases e <;> decide
section
variable {a:Bool}
def avo (h:a = true):az .or .i64 0 2 = ly a false false false:=by rw [h];decide
def aw6 {b:Bool} (h:b = true):az .or .i64 (ly a false false false) 4 = ly a b false false:=by rw [h];cases a <;> decide
def ayx {b c:Bool} (h:c = true):az .or .i64 (ly a b false false) 8 = ly a b c false:=by rw [h];cases a <;> cases b <;> decide
def ay8 {b c d:Bool} (h:d = true):az .or .i64 (ly a b c false) 16 = ly a b c d:=by rw [h];cases a <;> cases b <;> cases c <;> decide
abbrev Dsg:=List AS × Int × List St
abbrev dsn (d:Dsg):PC:=.agg [asl d.1, .raw (.int .i64 d.2.1),stl d.2.2]
def fuD (n:Int) (l m:List Fd) (ps:List AS):Dsg:=if lsC n ps l m = 0 then (ps,p7 n l m ps,if lsB n ps l m = true then prS n ps l m else []) else ([],0,[])
def bc6 (h:¬ lsC n ps l m = 0):fuD n l m ps = ([],0,[]):=if_neg h
def bg8 (h:lsC n ps l m = 0) (hb:lsB n ps l m = true):fuD n l m ps = (ps,p7 n l m ps,prS n ps l m):=by unfold fuD;rw [if_pos h,if_pos hb]
def bd4 (h:lsC n ps l m = 0) (hb:lsB n ps l m = false):fuD n l m ps = (ps,p7 n l m ps,[]):=by unfold fuD;rw [if_pos h,if_neg (by rw [hb];exact bqk)]
def ni (n:Int) (l m:List Fd):Int:=if n < 0 \/ 8 < n then 7 else br n l m
def fb (n:Int) (l m:List Fd) (f:Int):List AS × Int:=if f = 3 then (a5a n l,b5 n l) else if f = 4 then (aaz n l,er n l 8) else if f = 5 then (af0 n l m,ck4 n l m 0) else ([],1)
def b22 {f:Int} (h:f = 3):fb n l m f = (a5a n l,b5 n l):=if_pos h
def b0s {f:Int} (h:¬ f = 3) (h2:f = 4):fb n l m f = (aaz n l,er n l 8):=by unfold fb;rw [if_neg h,if_pos h2]
def bf9 {f:Int} (h:¬ f = 3) (h2:¬ f = 4) (h3:f = 5):fb n l m f = (af0 n l m,ck4 n l m 0):=by unfold fb;rw [if_neg h,if_neg h2,if_pos h3]
def b31 {f:Int} (h:¬ f = 3) (h2:¬ f = 4) (h3:¬ f = 5):fb n l m f = ([],1):=by unfold fb;rw [if_neg h,if_neg h2,if_neg h3]
def goD (n:Int) (l m:List Fd) (q:List AS × Int):Dsg:=if ni n l m = 0 then (if q.2 = 0 then fuD n l m q.1 else ([],0,[])) else ([],0,[])
def goE (n:Int) (l m:List Fd) (q:List AS × Int):Int:=if ni n l m = 0 then (if q.2 = 0 then lsC n q.1 l m else q.2) else ni n l m
variable {q:List AS × Int}
def atj (h:¬ ni n l m = 0):goD n l m q = ([],0,[]) /\ goE n l m q = ni n l m:=⟨if_neg h,if_neg h⟩
def ata (h:ni n l m = 0) (h2:¬ q.2 = 0):goD n l m q = ([],0,[]) /\ goE n l m q = q.2:=by
 unfold goD goE;rw [if_pos h,if_neg h2,if_pos h,if_neg h2];exact ⟨rfl,rfl⟩
def auj (h:ni n l m = 0) (h2:q.2 = 0):goD n l m q = fuD n l m q.1 /\ goE n l m q = lsC n q.1 l m:=by
 unfold goD goE;rw [if_pos h,if_pos h2,if_pos h,if_pos h2];exact ⟨rfl,rfl⟩
def pz (n:Int) (l:List Fd):List AS × Int:=if er n l 8 = 0 then (if x7 n l = true then (a0y n l,0) else (a5a n l,b5 n l)) else (a0y n l,er n l 8)
def bl3 (h:¬ er n l 8 = 0):pz n l = (a0y n l,er n l 8):=if_neg h
def bjz (h:er n l 8 = 0) (h2:x7 n l = true):pz n l = (a0y n l,er n l 8):=by unfold pz;rw [if_pos h,if_pos h2,h]
def bk2 (h:er n l 8 = 0) (h2:x7 n l = false):pz n l = (a5a n l,b5 n l):=by unfold pz;rw [if_pos h,if_neg (by rw [h2];exact bqk)]
def aje (h:n < 0 \/ 8 < n):ni n l m = 7:=if_pos h
def b4q (h:¬ (n < 0 \/ 8 < n)):ni n l m = br n l m:=if_neg h
end
end
end
section
section
variable {n:Int} {l m:List Fd} {ps:List AS} {p x:AS}
def acv (h:lvE n ps = 0 /\ br n l m = 0):0 <= n /\ n <= 8 /\ br n l m = 0 /\ b5 n l = 0 /\ (∀ f ∈ l,sub f.lhs (a7 n) /\ sub f.rhs (a7 n)) /\ ∀ q ∈ ps,sub q (a7 n) /\ bsz q <= 8:=by
 obtain ⟨h1,h2⟩:=h
 have hv:b5 n l = 0:=by
  unfold br at h2;split at h2
  · assumption
  exact h2
 have hn:0 <= n /\ n <= 8:=by
  unfold lvE at h1;split at h1
  · cases h1
  omega
 exact ⟨hn.1,hn.2,h2,hv,af4 hv,fun q hq=>⟨a7f h1 hq,bmy (ah2 (a7f h1 hq)) (ta (n:=n) (m:=8) hn.2 bqx)⟩⟩
def bgo (h:lsC n ps l m = 0):0 <= n /\ n <= 8 /\ br n l m = 0 /\ b5 n l = 0 /\ (∀ f ∈ l,sub f.lhs (a7 n) /\ sub f.rhs (a7 n)) /\ ∀ q ∈ ps,sub q (a7 n) /\ bsz q <= 8:=acv (qf h)
def ahc (h1:n <= 16):sub (a7 n) (a7 16):=ap.2 fun i hi h=>by
 unfold a7 at h ⊢;have e:min (Int.toNat 16) 32 = 16:=rfl;rw [e];rw [o3 _ i hi] at h ⊢;rw [decide_eq_true_iff] at h ⊢;omega
def bfw (h:lvE n ps = 0 /\ br n l m = 0) (hp:p ∈ ps):thB n l p = qd n l p:=by
 obtain ⟨_,_,_,hv,_,hq⟩:=acv h;unfold thB;rw [(ajs hv (hq p hp).1).1];simp
def bal (h:lvE n ps = 0 /\ br n l m = 0) (hp:p ∈ ps):byB l p = !cz l p:=by
 obtain ⟨h0,h8,_,hv,hu,hq⟩:=acv h;obtain ⟨q1,q2⟩:=hq p hp;obtain ⟨_,_,hl,_⟩:=ep hv
 have hv16:b5 16 l = 0:=by
  unfold b5;rw [if_neg bqx,if_neg bqx,if_pos];rw [bnr];intro f hf;exact (ou bqx bqx).2 ⟨fq (hu f hf).1 (ahc bqx),fq (hu f hf).2 (ahc bqx)⟩
 have he:qk l p = 0:=by
  unfold qk;rw [if_pos hv16,if_neg bqx,if_pos];exact (a5t (s:=p) (n:=16) bqx bqx).1 (fq q1 (ahc bqx))
 unfold byB vl;rw [he];simp
def bg0 (h:lvE n ps = 0 /\ br n l m = 0) (hp:p ∈ ps):foB n l m p = !vBo (ce n l m) p:=by
 obtain ⟨h0,h8,hb,hv,hu,hq⟩:=acv h;obtain ⟨q1,q2⟩:=hq p hp
 have hk:ck4 n l m p = 0:=by
  rw [a5o bqx];unfold ckB;rw [if_pos hb,if_pos ((a5t h0 bqx).1 q1)]
 unfold foB;rw [hk,acz hk];unfold vBo;simp
def fmI (n:Int) (l m:List Fd) (q:List AS):Int:=ly false (q.all (qd n l)) (q.all fun p=>!cz l p) (q.all fun p=>!vBo (ce n l m) p)
def blb {b c d:Bool}:az .andNot .i64 (ly false b c d) 4 = ly false false c d:=by cases b <;> cases c <;> cases d <;> decide
def bkc {b c d:Bool}:az .andNot .i64 (ly false b c d) 8 = ly false b false d:=by cases b <;> cases c <;> cases d <;> decide
def bjp {b c d:Bool}:az .andNot .i64 (ly false b c d) 16 = ly false b c false:=by cases b <;> cases c <;> cases d <;> decide
def fm1 (n:Int) (l m:List Fd) (q:List AS) (i:Nat):Int:=ly false ((q.take (i + 1)).all (qd n l)) ((q.take i).all fun p=>!cz l p) ((q.take i).all fun p=>!vBo (ce n l m) p)
def fm2 (n:Int) (l m:List Fd) (q:List AS) (i:Nat):Int:=ly false ((q.take (i + 1)).all (qd n l)) ((q.take (i + 1)).all fun p=>!cz l p) ((q.take i).all fun p=>!vBo (ce n l m) p)
section
variable {i:Nat}
def a3m {P:AS -> Bool} {q:List AS} (hi:i < q.length):(q.take (i + 1)).all P = ((q.take i).all P && P (q.getD i default)):=by
 rw [aq hi,List.all_append];simp
def bj9 (hi:i < ps.length) (h:qd n l (ps.getD i default) = true):fmI n l m (ps.take i) = fm1 n l m ps i:=by
 unfold fm1 fmI;rw [a3m hi,h,Bool.and_true]
def bj7 (hi:i < ps.length) (h:qd n l (ps.getD i default) = false):az .andNot .i64 (fmI n l m (ps.take i)) 4 = fm1 n l m ps i:=by
 unfold fm1 fmI;rw [blb,a3m hi,h,bqv]
def bhu (hi:i < ps.length) (h:cz l (ps.getD i default) = false):fm1 n l m ps i = fm2 n l m ps i:=by
 unfold fm1 fm2;rw [a3m (P:=fun p=>!cz l p) hi,h];simp
def bh3 (hi:i < ps.length) (h:cz l (ps.getD i default) = true):az .andNot .i64 (fm1 n l m ps i) 8 = fm2 n l m ps i:=by
 unfold fm1 fm2;rw [bkc,a3m (P:=fun p=>!cz l p) hi,h];simp
def bic (hi:i < ps.length) (h:vBo (ce n l m) (ps.getD i default) = false):fm2 n l m ps i = fmI n l m (ps.take (i + 1)):=by
 unfold fm2 fmI;rw [a3m (P:=fun p=>!vBo (ce n l m) p) hi,h];simp
def biw (hi:i < ps.length) (h:vBo (ce n l m) (ps.getD i default) = true):az .andNot .i64 (fm2 n l m ps i) 16 = fmI n l m (ps.take (i + 1)):=by
 unfold fm2 fmI;rw [bjp,a3m (P:=fun p=>!vBo (ce n l m) p) hi,h];simp
def fmL (n:Int) (l m:List Fd) (q:List AS):Int:=fmI n l m q + (bif lsB n q l m then 1 else 0)
def bhs (h:lsB n ps l m = true):az .or .i64 (fmI n l m ps) 1 = fmL n l m ps:=by
 unfold fmL fmI;rw [h];generalize ps.all (qd n l) = b;generalize (ps.all fun p=>!cz l p) = c;generalize (ps.all fun p=>!vBo (ce n l m) p) = d;cases b <;> cases c <;> cases d <;> decide
def bjl (h:lsB n ps l m = false):fmI n l m ps = fmL n l m ps:=by
 unfold fmL;rw [h];exact (Int.add_zero _).symm
def arn (h:lvE n ps = 0 /\ br n l m = 0):fmI n l m ps = ly false (ps.all (thB n l)) (ps.all (byB l)) (ps.all (foB n l m)):=by
 have e:∀ {P Q:AS -> Bool},(∀ q ∈ ps,P q = Q q) -> ps.all P = ps.all Q:=fun {P Q} hh=>by
  rw [bom,bnr,bnr];exact forall_congr' fun q=>forall_congr' fun hq=>by rw [hh q hq]
 unfold fmI;rw [e (P:=qd n l) fun q hq=>(bfw h hq).symm,e (P:=fun p=>!cz l p) fun q hq=>(bal h hq).symm,e (P:=fun p=>!vBo (ce n l m) p) fun q hq=>(bg0 h hq).symm]
def bhe (h:lsC n ps l m = 0) (hl:((c8 l ps l.length).length:Int) = 0):az .or .i64 (fmL n l m ps) 2 = p7 n l m ps:=by
 have h2:p8 l ps = true:=ac0.symm.trans (decide_eq_true hl);unfold fmL p7;rw [if_pos h,arn (qf h)];unfold a11;rw [h2];generalize ps.all (thB n l) = b;generalize ps.all (byB l) = c;generalize ps.all (foB n l m) = d;generalize lsB n ps l m = e;cases b <;> cases c <;> cases d <;> cases e <;> decide
def bik (h:lsC n ps l m = 0) (hl:¬ ((c8 l ps l.length).length:Int) = 0):fmL n l m ps = p7 n l m ps:=by
 have h2:p8 l ps = false:=ac0.symm.trans (decide_eq_false hl);unfold fmL p7;rw [if_pos h,arn (qf h)];unfold a11;rw [h2]
end
end
end
section
def acd (l:List Fd) (ps:List AS) (z:AS):AS:=match ps.find? (fe l z) with | none=>z | some p=>z ||| rh l p z
section
variable {l:List Fd}
def avy {p z:AS}:sub (clo l (z &&& p) &&& p) z <-> fe l z p = false:=by
 unfold fe rh sub;rw [BitVec.and_comm (clo l (z &&& p)) p,decide_eq_false_iff_not,Ne,Decidable.not_not]
def bio (z a:AS):z ||| a = z ||| (a &&& ~~~z):=by
 apply bo5;intro i hi;simp only [bo9,bn4,boo,decide_eq_true hi];cases z.getLsbD i <;> cases a.getLsbD i <;> rfl
variable {ps:List AS}
def bk5 {z:AS} {i:Nat} (hi:i < ps.length) (hI:∀ j,j < i -> fe l z (ps.getD j default) = false) (h:fe l z (ps.getD i default) = true):
 idx (fe l z) ps = (i:Int) /\ acd l ps z = z ||| (clo l (z &&& ps.getD i default) &&& ps.getD i default):=by
 refine ⟨sq hi hI h, ?_⟩;unfold acd;rw [aee hi hI h,bio z (clo l (z &&& ps.getD i default) &&& ps.getD i default),BitVec.and_comm (clo l (z &&& ps.getD i default))];rfl
def bko {z:AS} (hI:∀ j,j < ps.length -> fe l z (ps.getD j default) = false):idx (fe l z) ps = -1 /\ acd l ps z = z:=by
 refine ⟨sy hI, ?_⟩;unfold acd;rw [ak2 hI]
def bhh {z:AS} {i:Nat} (hi:i < ps.length) (h:fe l z (ps.getD i default) = true) (hI:∀ j,j < i -> fe l z (ps.getD j default) = false):acd l ps z = z ||| rh l (ps.getD i default) z:=by
 unfold acd;rw [aee hi hI h]
end
end
end Go.Hx

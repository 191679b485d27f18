/- A part of the proof: Ew7. -/
import Derived.Test.YtcepfnkhagkdeaaGreatDoorUx24
set_option linter.all false
open Go.Proofs.Tryz
set_option maxRecDepth 100000
set_option maxHeartbeats 1000000
namespace Go.Hx
section
open Go.Proofs
def Q0{x:jm}(hx:x.rows.length<=8):Zz x 8=(d4 x (x.attrs.toNat%6)):=Ca Za
def I5 (x:jm) (hx:x.rows.length<=8):a6 Ab 4 [x.pc,pI (8:Nat)] (a7 [(d4 x (x.attrs.toNat%6)).pc,pB true]):=by
 have h:=bO x 8 Za;rw[Q0 hx,show Zs x ((8:Nat):Int)=true by unfold Zs;simp;omega]at h;exact h
def I8 (x:jm) (hx:¬x.rows.length<=8) (hx2:x.rows.length<=16777216):a6 Ab 4 [x.pc,pI (8:Nat)] (a7 [T0.pc,pB false]):=by
 have h:=bO x 8 Za;rw[show Zz x 8=T0 from Ba Za,show Zs x ((8:Nat):Int)=false by unfold Zs;simp;omega]at h;exact h
def Il{p:Prop}(h:p:=by first|rfl|simp_all):p:=h
def ba0(x:jm)(d:Bg)(b:Bool)(hx:x.rows.length<=8)(hf:d.f.length<=16777216)(hm:d.m.length<=16777216)(hp:d.p.length<=16777216):a6 Ab 3 [x.pc,d.pc,pB b] (a7 [pB true]):=by
 refine Nb (nt:=172) func3 ?_;have hna:(x.attrs.toNat%6)<=5:=by omega
 have hT0:TE (d4 x (x.attrs.toNat%6)):=bd2 Za hx;have hT:TE (we b (d4 x (x.attrs.toNat%6))):=H7 hT0;have hnl:(d4 x (x.attrs.toNat%6)).attrs.length=(x.attrs.toNat%6):=YJ Za;have hr8:(we b (d4 x (x.attrs.toNat%6))).rows.length<=8:=b0q hx;have hn16:=hT.ok.na;refine Rc ?_;refine m9 0 ?_;refine m9 1 ?_;refine Eb ?_;refine Fb (Ib func4) (I5 x hx) ?_;refine Tb ?_;refine m9 2 ?_;refine qh ?_;refine rc rfl rfl rfl rfl rfl rfl (Ib func5) (ON (dN d (x.attrs.toNat%6)) hf hm hp) (⟨Ob.agg ⟨Va (Da (λz=>PV.raw (.int .u8 z)) (yM hnl Za)),Ra,Ra,Ra,Aa⟩,Aa⟩) rfl rfl ?_;refine jz ?_;refine Fb zc (uv) ?_;refine Cb ?_;refine af rfl rfl ?_ ?_<;>intro r0
 ·
  have h0:=ct r0;(iterate 2 refine k9 (Yc r0) ?_);refine Cb ?_;(iterate 2 refine k9 rfl ?_);refine Eb ?_;refine Fb zc (uv) ?_;refine Cb ?_
  exact Nc rfl rfl rfl (⟨Vb Il,Aa⟩)
 have h0:=cu r0;(iterate 2 refine qy ?_ (hg:=(Jc r0)));refine Cb ?_;refine af rfl rfl ?_ ?_<;>intro r1
 ·
  have h1:=ct (ai r0 r1);(iterate 2 refine k9 (Yc r1) ?_);refine Eb ?_;refine Fb zc (uv) ?_;refine Cb ?_
  exact Nc rfl rfl rfl (⟨Vb Il,Aa⟩)
 have h1:=cu (ai r0 r1);(iterate 2 refine qy ?_ (hg:=(Jc r1)));refine Cb ?_;refine aj _ rfl ?_ ?_<;>intro r2
 .have h2:=ct (ai r1 r2);refine Rc ?_;refine Fb zc (uv) ?_;refine Tf ?_;exact⟨Vb Il,Aa⟩
 have h2:=cu (ai r1 r2);have hok:Zr (dN d (x.attrs.toNat%6))=true:=by simp_all
 obtain⟨hf4,hm4,hp3⟩:=XN hok;have hn4:=GM (dN d (x.attrs.toNat%6));have hfl:((dN d (x.attrs.toNat%6)).fs 4).length<=4:=by rw[Yd];exact hf4
 have hml:((dN d (x.attrs.toNat%6)).ms 4).length<=2:=by rw[Yd];exact hm4
 refine dj ?_;refine m7 (ka 7 (ka 9 (ka 10 (ka 11 (ka 12 kn))))) km ⟨[],[(2,some (.box [.p (.raw (.string (we b (d4 x (x.attrs.toNat%6))).name)), .p (qv (we b (d4 x (x.attrs.toNat%6))).attrs), .p (rows (we b (d4 x (x.attrs.toNat%6))).rows)]))]⟩ ?_ ?_
 ·
  refine Mc ?_;refine aj _ rfl ?_ ?_<;>intro r3
  .have h3:=r3;have hb:b=true:=r3;refine Mc ?_;exact⟨tt,⟨⟨_,rfl,(by subst hb;exact⟨Ra,Ra,Ra,Aa⟩)⟩,Aa⟩⟩
  have h3:=r3;have hb:b=false:=r3;refine dj ?_;exact⟨tt,⟨⟨_,rfl,(by subst hb;exact⟨Ra,Ra,Ra,Aa⟩)⟩,Aa⟩⟩
 refine Mb ?_;refine rc rfl rfl rfl rfl rfl rfl (Ib func7) (S4 (((we b (d4 x (x.attrs.toNat%6))).attrs.length:Nat):Int) ((dN d (x.attrs.toNat%6)).ps 4) (by rw[Yd];show d.p.length<=_;omega)) Ta rfl rfl ?_;refine Tb ?_;have hw:=b74 (n:=(((we b (d4 x (x.attrs.toNat%6))).attrs.length:Nat):Int)) (ps:=((dN d (x.attrs.toNat%6)).ps 4)) (k:=3) (by rw[Yd];exact hp3) Za;obtain⟨hw3,hw0⟩:=hw;refine Tb ?_;refine Fb mD (b65 (eu (((we b (d4 x (x.attrs.toNat%6))).attrs.length:Nat):Int) ((dN d (x.attrs.toNat%6)).ps 4)).length false (lf sC (eu (((we b (d4 x (x.attrs.toNat%6))).attrs.length:Nat):Int) ((dN d (x.attrs.toNat%6)).ps 4))) Za) ?_;refine Fb (Ib func8) (N0 (we b (d4 x (x.attrs.toNat%6))) (eu (((we b (d4 x (x.attrs.toNat%6))).attrs.length:Nat):Int) ((dN d (x.attrs.toNat%6)).ps 4)) hT hw3) ?_;refine dg ?_;refine Fb (Ib func10) (G6 (we b (d4 x (x.attrs.toNat%6))) (eu (((we b (d4 x (x.attrs.toNat%6))).attrs.length:Nat):Int) ((dN d (x.attrs.toNat%6)).ps 4)) hT hw3) ?_;refine jq ?_;refine af rfl rfl ?_ ?_<;>intro r4
 ·
  have h4:=Ac (ct r4);(iterate 4 refine k9 (Yc r4) ?_);refine Jb ?_
  exact Nc rfl rfl rfl (⟨Vb Il,Aa⟩)
 have h4:=Bc (cu r4);(iterate 2 refine qy ?_ (hg:=(Jc r4)));refine Fb (Ib func11) (K0 (Ng (we b (d4 x (x.attrs.toNat%6))) (eu (((we b (d4 x (x.attrs.toNat%6))).attrs.length:Nat):Int) ((dN d (x.attrs.toNat%6)).ps 4))) _ (beu hT hw3)) ?_ (hg:=(Jc r4));refine qy ?_ (hg:=(Jc r4));refine Cb ?_;refine aj _ rfl ?_ ?_<;>intro r5
 .have h5:=ct (ai r4 r5);exfalso;simp_all
 have h5:=cu (ai r4 r5);refine Jb ?_;refine af rfl rfl ?_ ?_<;>intro r6
 ·
  have h6:=Ac (ct r6);(iterate 5 refine k9 (Yc r6) ?_);refine Cb ?_;(iterate 3 refine k9 rfl ?_);refine Jb ?_
  exact Nc rfl rfl rfl (⟨Vb Il,Aa⟩)
 have h6:=Bc (cu r6);(iterate 5 refine qy ?_ (hg:=(Jc r6)));refine Cb ?_;refine af rfl rfl ?_ ?_<;>intro r7
 ·
  have h7:=Ac (ct (ai r6 r7));(iterate 3 refine k9 (Yc r7) ?_);refine Jb ?_
  exact Nc rfl rfl rfl (⟨Vb Il,Aa⟩)
 have h7:=Bc (cu (ai r6 r7));(iterate 3 refine qy ?_ (hg:=(Jc r7)));refine Cb ?_;refine aj _ rfl ?_ ?_<;>intro r8
 .have h8:=Bc (ai r7 r8);refine Kc ?_;exact⟨Vb Il,Aa⟩
 have h8:=Ac (ai r7 r8);have hE:Oj (we b (d4 x (x.attrs.toNat%6))) (eu (((we b (d4 x (x.attrs.toNat%6))).attrs.length:Nat):Int) ((dN d (x.attrs.toNat%6)).ps 4))=0:=by simp_all
 have hNn:(((we b (d4 x (x.attrs.toNat%6))).attrs.length:Nat):Int)=((dN d (x.attrs.toNat%6)).num 4):=by simp_all
 have hal:=J9 hE;refine Cc ?_;refine aa (ι:=Nat) (ka 7 (ka 9 (ka 10 (ka 11 (ka 12 (ka 14 (ka 103 (ka 104 kn)))))))) (kb 2 km) (λi=>⟨[(105,some (vI i))],[]⟩) (λi=>i<=((dN d (x.attrs.toNat%6)).fs 4).length/\(∀j,j<i->En (we b (d4 x (x.attrs.toNat%6))) (((dN d (x.attrs.toNat%6)).fs 4).getD j default)=true)) (λi=>((dN d (x.attrs.toNat%6)).fs 4).length-i) (0) (⟨Zb _,aw⟩) kk ?_;rintro i ⟨hi,hIi⟩;refine Eb ?_;refine Kb ?_ ?_<;>intro h9
 ·
  refine Jb ?_;refine m9 3 ?_;refine Mb ?_;refine Fb (Ib func13) (O0 (we b (d4 x (x.attrs.toNat%6))) (((dN d (x.attrs.toNat%6)).fs 4).getD i default) hT.ok.ok) ?_;refine Cb ?_;refine Xd ?_ ?_<;>intro h10
  .refine Kc ?_;exact⟨Vb Il,Aa⟩
  refine Eb ?_;refine Rb (i+1) kk ?_;exact⟨by show i+1<=_;omega,al hIi Qg⟩
 obtain rfl:i=((dN d (x.attrs.toNat%6)).fs 4).length:=by omega
 have hF:∀e∈((dN d (x.attrs.toNat%6)).fs 4),En (we b (d4 x (x.attrs.toNat%6))) e=true:=λe he=>Ze.1 (Zq (p:=En (we b (d4 x (x.attrs.toNat%6)))) hIi) e he;refine Cc ?_;refine aa (ι:=Nat) (ka 7 (ka 9 (ka 10 (ka 11 (ka 12 (ka 14 (ka 114 (ka 115 kn)))))))) (kb 2 km) (λi=>⟨[(116,some (vI i))],[]⟩) (λi=>i<=((dN d (x.attrs.toNat%6)).ms 4).length/\(∀j,j<i->Cn (we b (d4 x (x.attrs.toNat%6))) (((dN d (x.attrs.toNat%6)).ms 4).getD j default)=true)) (λi=>((dN d (x.attrs.toNat%6)).ms 4).length-i) (0) (⟨Zb _,aw⟩) kk ?_;rintro i ⟨hi,hIi⟩;refine Eb ?_;refine Kb ?_ ?_<;>intro h11
 ·
  refine Jb ?_;refine m9 4 ?_;refine Mb ?_;refine Fb (Ib func14) (W8 (we b (d4 x (x.attrs.toNat%6))) (((dN d (x.attrs.toNat%6)).ms 4).getD i default) hT.ok (by rw[hNn];exact A3 hok i Za)) ?_;refine dg ?_;refine Xd ?_ ?_<;>intro h12
  .refine Kc ?_;exact⟨Vb Il,Aa⟩
  refine Eb ?_;refine Rb (i+1) kk ?_;exact⟨by show i+1<=_;omega,al hIi Qg⟩
 obtain rfl:i=((dN d (x.attrs.toNat%6)).ms 4).length:=by omega
 have hM:∀e∈((dN d (x.attrs.toNat%6)).ms 4),Cn (we b (d4 x (x.attrs.toNat%6))) e=true:=λe he=>Ze.1 (Zq (p:=Cn (we b (d4 x (x.attrs.toNat%6)))) hIi) e he;refine Wb ?_;refine Fb (Ib func15) (wY ((dN d (x.attrs.toNat%6)).num 4) (eu (((we b (d4 x (x.attrs.toNat%6))).attrs.length:Nat):Int) ((dN d (x.attrs.toNat%6)).ps 4)) ((dN d (x.attrs.toNat%6)).fs 4) ((dN d (x.attrs.toNat%6)).ms 4)) ?_;refine dg ?_;refine af rfl rfl ?_ ?_<;>intro r13
 ·
  have h13:=Ac (ct r13);(iterate 2 refine k9 (Yc r13) ?_);refine Jb ?_
  exact Nc rfl rfl rfl (⟨Vb Il,Aa⟩)
 have h13:=Bc (cu r13);(iterate 2 refine qy ?_ (hg:=(Jc r13)));refine Cb ?_;refine aj _ rfl ?_ ?_<;>intro r14
 .have h14:=ct (ai r13 r14);refine Kc ?_;exact⟨Vb Il,Aa⟩
 have h14:=cu (ai r13 r14);have hc:Zd (((we b (d4 x (x.attrs.toNat%6))).attrs.length:Nat):Int) (eu (((we b (d4 x (x.attrs.toNat%6))).attrs.length:Nat):Int) ((dN d (x.attrs.toNat%6)).ps 4)) ((dN d (x.attrs.toNat%6)).fs 4) ((dN d (x.attrs.toNat%6)).ms 4)=0:=by rw[hNn];simp_all
 have hl:Te (((we b (d4 x (x.attrs.toNat%6))).attrs.length:Nat):Int) (eu (((we b (d4 x (x.attrs.toNat%6))).attrs.length:Nat):Int) ((dN d (x.attrs.toNat%6)).ps 4)) ((dN d (x.attrs.toNat%6)).fs 4) ((dN d (x.attrs.toNat%6)).ms 4)=true:=by rw[hNn];simp_all
 have hz:=bdu hT hE hr8 hw0;refine Mb ?_;refine m9 5 ?_;refine dg ?_;refine aa (ι:=Nat) (ka 7 (ka 9 (ka 26 (ka 147 (ka 148 kn))))) (kb 2 km) (λi=>⟨[(149,some (vI i))],[(5,some (.box [.p ((jF (Ng (we b (d4 x (x.attrs.toNat%6))) (eu (((we b (d4 x (x.attrs.toNat%6))).attrs.length:Nat):Int) ((dN d (x.attrs.toNat%6)).ps 4))) i).c 0), .p ((jF (Ng (we b (d4 x (x.attrs.toNat%6))) (eu (((we b (d4 x (x.attrs.toNat%6))).attrs.length:Nat):Int) ((dN d (x.attrs.toNat%6)).ps 4))) i).c 1), .p ((jF (Ng (we b (d4 x (x.attrs.toNat%6))) (eu (((we b (d4 x (x.attrs.toNat%6))).attrs.length:Nat):Int) ((dN d (x.attrs.toNat%6)).ps 4))) i).c 2)]))]⟩) (λi=>i<(eu (((we b (d4 x (x.attrs.toNat%6))).attrs.length:Nat):Int) ((dN d (x.attrs.toNat%6)).ps 4)).length/\JI (we b (d4 x (x.attrs.toNat%6))) (eu (((we b (d4 x (x.attrs.toNat%6))).attrs.length:Nat):Int) ((dN d (x.attrs.toNat%6)).ps 4)) i (jF (Ng (we b (d4 x (x.attrs.toNat%6))) (eu (((we b (d4 x (x.attrs.toNat%6))).attrs.length:Nat):Int) ((dN d (x.attrs.toNat%6)).ps 4))) i)) (λi=>(eu (((we b (d4 x (x.attrs.toNat%6))).attrs.length:Nat):Int) ((dN d (x.attrs.toNat%6)).ps 4)).length-i) (0) (⟨hw0,hz⟩) kk ?_;rintro i ⟨hi,hJ⟩;refine Eb ?_;refine Kb ?_ ?_<;>intro h15
 ·
  have hiw:i+1<(eu (((we b (d4 x (x.attrs.toNat%6))).attrs.length:Nat):Int) ((dN d (x.attrs.toNat%6)).ps 4)).length:=by have hz:=h15;simp only[ep,bh]at hz;omega
  obtain⟨hj1,hj2,hj3,hj4⟩:=bas hT hE hw3 hr8 hiw hJ;refine Jb ?_;refine m9 6 ?_;refine Mb ?_;refine rc rfl rfl rfl rfl rfl rfl (Ib func16) (U7 (jF (Ng (we b (d4 x (x.attrs.toNat%6))) (eu (((we b (d4 x (x.attrs.toNat%6))).attrs.length:Nat):Int) ((dN d (x.attrs.toNat%6)).ps 4))) i) (Vg (we b (d4 x (x.attrs.toNat%6))) (eu (((we b (d4 x (x.attrs.toNat%6))).attrs.length:Nat):Int) ((dN d (x.attrs.toNat%6)).ps 4)) (i+1)) hJ.te hj1 hj3 hj2) (⟨Sa,Ob.agg ⟨Va (Da (λt=>ac.c t 0) (dI hE hiw)),Va (Da (λt=>ac.c t 1) (dI hE hiw)),Va (Da (λt=>ac.c t 2) (dI hE hiw)),Aa⟩,Aa⟩) rfl rfl ?_;refine dg ?_;refine Sc ?_ ?_<;>intro h16
  ·
   exfalso
   first|exact h16 rfl|exact h16 trivial|simp_all
  refine Eb ?_;refine Rb (i+1) ⟨tt,⟨⟨_,rfl,⟨Va (Da (λt=>ac.c t 0) (ZI hE hiw).symm),Va (Da (λt=>ac.c t 1) (ZI hE hiw).symm),Va (Da (λt=>ac.c t 2) (ZI hE hiw).symm),Aa⟩⟩,uu⟩⟩ ?_;exact⟨hiw,hj4⟩
 obtain⟨m,hm0⟩:∃m,(eu (((we b (d4 x (x.attrs.toNat%6))).attrs.length:Nat):Int) ((dN d (x.attrs.toNat%6)).ps 4)).length=m+1:=⟨(eu (((we b (d4 x (x.attrs.toNat%6))).attrs.length:Nat):Int) ((dN d (x.attrs.toNat%6)).ps 4)).length-1,by omega⟩;obtain rfl:i=m:=by have hz:=h15;simp only[ep,bh]at hz;omega
 obtain⟨hl1,hl2,hl3⟩:=b18 hT hE hw3 hr8 hw0 hc hl hF hM (by rw[show(eu (((we b (d4 x (x.attrs.toNat%6))).attrs.length:Nat):Int) ((dN d (x.attrs.toNat%6)).ps 4)).length-1=i by omega];exact hJ);refine Cc ?_;refine af rfl rfl ?_ ?_<;>intro r17
 .have h17:=Bc r17;(iterate 2 refine qy ?_ (hg:=(Lc r17)));refine Fb (Ib func17) (H6 (jF (Ng (we b (d4 x (x.attrs.toNat%6))) (eu (((we b (d4 x (x.attrs.toNat%6))).attrs.length:Nat):Int) ((dN d (x.attrs.toNat%6)).ps 4))) i) (we b (d4 x (x.attrs.toNat%6))) hJ.te hT hl2) ?_ (hg:=(Lc r17));refine Ef ?_;exact⟨Vb Il,Aa⟩
 have h17:=Ac r17;(iterate 3 refine k9 (Vd r17) ?_);refine Tb ?_
 exact Nc rfl rfl rfl (⟨Vb Il,Aa⟩)
def b9r (x:jm) (d:Bg) (b:Bool) (hx:¬x.rows.length<=8) (hx2:x.rows.length<=16777216) (hf:d.f.length<=16777216) (hm:d.m.length<=16777216) (hp:d.p.length<=16777216):a6 Ab 3 [x.pc,d.pc,pB b] (a7 [pB true]):=by
 refine Nb (nt:=172) func3 ?_;refine Rc ?_;refine m9 0 ?_;refine m9 1 ?_;refine Eb ?_;refine Fb (Ib func4) (I8 x hx hx2) ?_;refine Tb ?_;refine m9 2 ?_;refine qh ?_;refine rc rfl rfl rfl rfl rfl rfl (Ib func5) (ON (dN d 0) hf hm hp) (⟨Ob.agg ⟨Va (Da (λz=>PV.raw (.int .u8 z)) (yM (show(0:Nat)=0 from rfl) (Zb 5))),Ra,Ra,Ra,Aa⟩,Aa⟩) rfl rfl ?_;refine jz ?_;refine Fb zc (uv) ?_;refine Cb ?_;refine af rfl rfl ?_ ?_<;>intro r0
 ·
  have h0:=ct r0;(iterate 2 refine k9 (Yc r0) ?_);refine Cb ?_;(iterate 2 refine k9 rfl ?_);refine Eb ?_;refine Fb zc (uv) ?_;refine Cb ?_
  exact Nc rfl rfl rfl Ta
 have h0:=cu r0;(iterate 2 refine qy ?_ (hg:=(Jc r0)));refine Cb ?_;refine af rfl rfl ?_ ?_<;>intro r1
 ·
  have h1:=ct (ai r0 r1);(iterate 2 refine k9 (Yc r1) ?_);refine Eb ?_;refine Fb zc (uv) ?_;refine Cb ?_
  exact Nc rfl rfl rfl Ta
 have h1:=cu (ai r0 r1);(iterate 2 refine qy ?_ (hg:=(Jc r1)));refine Cb ?_;refine aj _ rfl ?_ ?_<;>intro r2
 .have h2:=ct (ai r1 r2);refine Rc ?_;refine Fb zc (uv) ?_;refine Tf ?_;exact Ta
 have h2:=cu (ai r1 r2);exfalso;simp at r2
def M9 (x:jm) (d:Bg) (b:Bool) (hx2:x.rows.length<=16777216) (hf:d.f.length<=16777216) (hm:d.m.length<=16777216) (hp:d.p.length<=16777216):a6 Ab 3 [x.pc,d.pc,pB b] (a7 [pB true]):=by
 by_cases hx:x.rows.length<=8
 .exact ba0 x d b hx hf hm hp
 exact b9r x d b hx hx2 hf hm hp
end
end Go.Hx

/- A part of the proof: Ch21 X27 Ch23 X28 Ch24 Cc1 Cc2 Cc3 Ls1 Cs24 Cs26 V25 Cs27 Cs28 Cs30 V29 Cs31 V30 Cs32 Cs33 Cs34 Cs35 V34 Cs36 Cz1m Cs37 Cs40 Ls2 Ls3 Ls5 W0 W1 Ls6 W2a Ch22 X26 Ch25. -/
import Derived.Test.YtcepfnkhagkdeaaGreatDoorUx14
set_option linter.all false
open Go.Proofs.Tryz
set_option maxRecDepth 100000
set_option maxHeartbeats 1000000
namespace Go.Hx
section
def ik(l:List Rw)(p m:List Fd)(mu:Bool)(i a b:Int):Prop:=a<0\/(l.length:Int)<=a\/b<0\/(l.length:Int)<=b\/a=b\/i<0\/(mu=true/\(m.length:Int)<=i)\/(mu=false/\(p.length:Int)<=i)
instance (l:List Rw)(p m:List Fd)(mu:Bool)(i a b:Int):Decidable (ik l p m mu i a b):=by unfold ik;infer_instance
def Me{l:List Rw}{p m:List Fd}{mu:Bool}{i a b:Int}(h:ik l p m mu i a b:=by unfold ik;first|exact .inl Za|exact .inr (.inl Za)|exact .inr (.inr (.inl Za))|exact .inr (.inr (.inr (.inl Za)))|exact .inr (.inr (.inr (.inr (.inl Za))))|exact .inr (.inr (.inr (.inr (.inr (.inl Za)))))|exact .inr (.inr (.inr (.inr (.inr (.inr (.inl ⟨by first|rfl|assumption|simp_all,by omega⟩))))))|exact .inr (.inr (.inr (.inr (.inr (.inr (.inr ⟨by first|rfl|assumption|simp_all,by omega⟩))))))):ik l p m mu i a b:=h
def ec (n:Int) (l:List Rw) (p m:List Fd) (mu:Bool) (i a b:Int):Int×List Rw×Int :=
 if Pg n l p m=0 then if ik l p m mu i a b then(0,[],1)else du n l p m (mu,i.toNat,a.toNat,b.toNat) else(0,[],Pg n l p m)
section
variable {n:Int}{l:List Rw}{p m:List Fd}{mu:Bool}{i a b:Int}
def nT (h:Bd n l=false):ec n l p m mu i a b=(0,[],1):=by
 have e:Pg n l p m=1:=Ca (by rw[h];decide);unfold ec;rw[e];rfl
def IT (h:Bd n l=true) (h2:¬c8 n p m=0):ec n l p m mu i a b=(0,[],c8 n p m):=by
 have e:Pg n l p m=c8 n p m:=Ba h;unfold ec;rw[e,Ca h2]
def j9 (h:Bd n l=true) (h2:c8 n p m=0) (h3:ik l p m mu i a b):ec n l p m mu i a b=(0,[],1):=by
 have e:Pg n l p m=c8 n p m:=Ba h;unfold ec;rw[e,Ba h2,Ba h3]
def ZE (h:Bd n l=true) (h2:c8 n p m=0) (h3:¬ik l p m mu i a b):ec n l p m mu i a b=du n l p m (mu,i.toNat,a.toNat,b.toNat):=by
 have e:Pg n l p m=c8 n p m:=Ba h;unfold ec;rw[e,Ba h2,Ca h3]
end
end
section
open Go.Proofs
def b46 (n:Int) (l:List Rw) (p m:List Fd) (i a b:Int):a6 Ab 124 [pT n l,pP (Ub p),pP (Ub m), .agg [.raw (.bool true), .raw (.int .i64 i), .raw (.int .i64 a), .raw (.int .i64 b)]] (a7 [pT (ec n l p m true i a b).1 (ec n l p m true i a b).2.1,pI (ec n l p m true i a b).2.2]):=by
 refine Nb (nt:=158) func124 ?_;refine Rc ?_;refine m9 0 ?_;refine m9 1 ?_;refine m9 2 ?_;refine Mb ?_;refine Fb fI (iK n l) ?_;refine Cb ?_;refine Xd ?_ ?_<;>intro h0
 .refine Mb ?_;refine Db ?_;have he:=nT (n:=n) (l:=l) (p:=p) (m:=m) (mu:=true) (i:=i) (a:=a) (b:=b) Qg;exact f9 rfl rfl (by rw[he];exact⟨Ob.agg ⟨Ra,bn,Aa⟩,Sa,Aa⟩)
 have hT:Bd n l=true:=by simp_all
 obtain⟨hn0,hn16,hl256,hrow⟩:=jc hT;refine Wb ?_;refine Fb GE (UE n p m) ?_;refine Jb ?_;refine Sc ?_ ?_<;>intro h1
 .refine Jb ?_;refine Db ?_;have he:=IT (mu:=true) (i:=i) (a:=a) (b:=b) hT Gb;exact f9 rfl rfl (by rw[he];exact⟨Ob.agg ⟨Ra,bn,Aa⟩,Sa,Aa⟩)
 have hbe:c8 n p m=0:=by assumption
 obtain⟨_,_,hpl,hpa,hml,_⟩:=l8 hbe;refine jz ?_;refine af rfl rfl ?_ ?_<;>intro r2
 ·
  have h2:=Bc r2;(iterate 4 refine k9 (Yc r2) ?_);refine Cb ?_;(iterate 3 refine k9 rfl ?_);refine Cb ?_;(iterate 4 refine k9 rfl ?_);refine Cb ?_;(iterate 5 refine k9 rfl ?_);refine Cb ?_;(iterate 3 refine k9 rfl ?_);refine Cb ?_
  (iterate 9 refine k9 rfl ?_);refine Cb ?_;(iterate 10 refine k9 rfl ?_);refine Cc ?_;refine Db ?_
  have he:=j9 (mu:=true) (i:=i) (a:=a) (b:=b) hT hbe Me;exact f9 rfl rfl (by rw[he];exact⟨Ob.agg ⟨Ra,bn,Aa⟩,Sa,Aa⟩)
 have h2:=Ac r2;(iterate 4 refine qy ?_ (hg:=(Jc r2)));refine Cb ?_;refine af rfl rfl ?_ ?_<;>intro r3
 ·
  have h3:=Bc (ai r2 r3);(iterate 3 refine k9 (Yc r3) ?_);refine Cb ?_;(iterate 4 refine k9 rfl ?_);refine Cb ?_;(iterate 5 refine k9 rfl ?_);refine Cb ?_;(iterate 3 refine k9 rfl ?_);refine Cb ?_;(iterate 9 refine k9 rfl ?_);refine Cb ?_
  (iterate 10 refine k9 rfl ?_);refine Cc ?_;refine Db ?_
  have he:=j9 (mu:=true) (i:=i) (a:=a) (b:=b) hT hbe Me;exact f9 rfl rfl (by rw[he];exact⟨Ob.agg ⟨Ra,bn,Aa⟩,Sa,Aa⟩)
 have h3:=Ac (ai r2 r3);(iterate 3 refine qy ?_ (hg:=(Jc r3)));refine Cb ?_;refine af rfl rfl ?_ ?_<;>intro r4
 ·
  have h4:=Bc (ai r3 r4);(iterate 4 refine k9 (Yc r4) ?_);refine Cb ?_;(iterate 5 refine k9 rfl ?_);refine Cb ?_;(iterate 3 refine k9 rfl ?_);refine Cb ?_;(iterate 9 refine k9 rfl ?_);refine Cb ?_;(iterate 10 refine k9 rfl ?_)
  refine Cc ?_;refine Db ?_;have he:=j9 (mu:=true) (i:=i) (a:=a) (b:=b) hT hbe Me;exact f9 rfl rfl (by rw[he];exact⟨Ob.agg ⟨Ra,bn,Aa⟩,Sa,Aa⟩)
 have h4:=Ac (ai r3 r4);(iterate 4 refine qy ?_ (hg:=(Jc r4)));refine Cb ?_;refine af rfl rfl ?_ ?_<;>intro r5
 ·
  have h5:=Bc (ai r4 r5);(iterate 5 refine k9 (Yc r5) ?_);refine Cb ?_;(iterate 3 refine k9 rfl ?_);refine Cb ?_;(iterate 9 refine k9 rfl ?_);refine Cb ?_;(iterate 10 refine k9 rfl ?_);refine Cc ?_;refine Db ?_
  have he:=j9 (mu:=true) (i:=i) (a:=a) (b:=b) hT hbe Me;exact f9 rfl rfl (by rw[he];exact⟨Ob.agg ⟨Ra,bn,Aa⟩,Sa,Aa⟩)
 have h5:=Ac (ai r4 r5);(iterate 5 refine qy ?_ (hg:=(Jc r5)));refine Cb ?_;refine af rfl rfl ?_ ?_<;>intro r6
 ·
  have h6:=Bc (ai r5 r6);(iterate 3 refine k9 (Yc r6) ?_);refine Cb ?_;(iterate 9 refine k9 rfl ?_);refine Cb ?_;(iterate 10 refine k9 rfl ?_);refine Cc ?_;refine Db ?_
  have he:=j9 (mu:=true) (i:=i) (a:=a) (b:=b) hT hbe Me;exact f9 rfl rfl (by rw[he];exact⟨Ob.agg ⟨Ra,bn,Aa⟩,Sa,Aa⟩)
 have h6:=Ac (ai r5 r6);(iterate 3 refine qy ?_ (hg:=(Jc r6)));refine Cb ?_;refine af rfl rfl ?_ ?_<;>intro r7
 ·
  have h7:=Bc (ai r6 r7);(iterate 3 refine k9 (Yc r7) ?_);(iterate 5 refine k9 rfl ?_);refine k9 (Yc r7) ?_;refine Cb ?_;(iterate 10 refine k9 rfl ?_);refine Cc ?_;refine Db ?_
  have he:=j9 (mu:=true) (i:=i) (a:=a) (b:=b) hT hbe Me;exact f9 rfl rfl (by rw[he];exact⟨Ob.agg ⟨Ra,bn,Aa⟩,Sa,Aa⟩)
 have h7:=Ac (ai r6 r7);(iterate 3 refine qy ?_ (hg:=(Jc r7)));refine Eb ?_;refine qy ?_ (hg:=(Jc r7));refine Cb ?_;refine af rfl rfl ?_ ?_<;>intro r8
 ·
  have h8:=Bc (ai r7 r8);(iterate 4 refine k9 (Yc r8) ?_);(iterate 5 refine k9 rfl ?_);refine k9 (Yc r8) ?_;refine Cc ?_;refine Db ?_
  have he:=j9 (mu:=true) (i:=i) (a:=a) (b:=b) hT hbe Me;exact f9 rfl rfl (by rw[he];exact⟨Ob.agg ⟨Ra,bn,Aa⟩,Sa,Aa⟩)
 have h8:=Ac (ai r7 r8);(iterate 4 refine qy ?_ (hg:=(Jc r8)));(iterate 5 refine k9 rfl ?_);refine qy ?_ (hg:=(Jc r8));refine Cb ?_;refine aj _ rfl (λe=>Bool.noConfusion ((sy r8 rfl).symm.trans e)) (λ_=>?_);refine Cb ?_
 have hnb:¬ik l p m true i a b:=by
  unfold ik;rintro(h|h|h|h|h|h|⟨h,h2⟩|⟨h,h2⟩)<;>first|omega|cases h
 have Ei:=ZE (mu:=true) (i:=i) (a:=a) (b:=b) hT hbe hnb;have ha:a.toNat<l.length:=by omega
 have hb:b.toNat<l.length:=by omega
 have hra:=hrow _ ha;have hrb:=hrow _ hb;have hi:i.toNat<m.length:=by omega
 refine gy ?_;refine m9 3 ?_;refine pG ?_;refine Fb bB (aB (l.getD a.toNat default) (l.getD b.toNat default) (m.getD i.toNat default).lhs Za Za) ?_;refine Tb ?_;refine Xd ?_ ?_<;>intro h9
 .refine Mb ?_;refine Db ?_;have he:=Ei.trans (show Xi n l a.toNat b.toNat (m.getD i.toNat default)=(0,[],1) from Ca (Ie.1 Gb));exact f9 rfl rfl (by rw[he];exact⟨Ob.agg ⟨Ra,bn,Aa⟩,Sa,Aa⟩)
 refine fy ?_;refine rc rfl rfl rfl rfl rfl rfl (Ib func177) (U2 n l (m.getD i.toNat default) a.toNat b.toNat hn0 hn16 hrow Za ha hb) (⟨Sa,Sa,Sb Za,Sb Za,Aa⟩) rfl rfl ?_;refine dg ?_;refine Kb ?_ ?_<;>intro h10
 .refine Mb ?_;refine Db ?_;have he:=Ei.trans (show Xi n l a.toNat b.toNat (m.getD i.toNat default)=(0,[],3) from (Ba Gb).trans (Ba Za));exact f9 rfl rfl (by rw[he];exact⟨Ob.agg ⟨Ra,bn,Aa⟩,Sa,Aa⟩)
 refine Jb ?_;refine Db ?_;have he:=Ei.trans (show Xi n l a.toNat b.toNat (m.getD i.toNat default)=(n,ax (l++[dz (l.getD a.toNat default) (l.getD b.toNat default) ((m.getD i.toNat default).lhs|||(m.getD i.toNat default).rhs)]),0) from (Ba Gb).trans (Ca Za));exact f9 rfl rfl (by rw[he];exact Ta)
def b69 (n:Int) (l:List Rw) (p m:List Fd) (i a b:Int):a6 Ab 124 [pT n l,pP (Ub p),pP (Ub m), .agg [.raw (.bool false), .raw (.int .i64 i), .raw (.int .i64 a), .raw (.int .i64 b)]] (a7 [pT (ec n l p m false i a b).1 (ec n l p m false i a b).2.1,pI (ec n l p m false i a b).2.2]):=by
 refine Nb (nt:=158) func124 ?_;refine Rc ?_;refine m9 0 ?_;refine m9 1 ?_;refine m9 2 ?_;refine Mb ?_;refine Fb fI (iK n l) ?_;refine Cb ?_;refine Xd ?_ ?_<;>intro h0
 .refine Mb ?_;refine Db ?_;have he:=nT (n:=n) (l:=l) (p:=p) (m:=m) (mu:=false) (i:=i) (a:=a) (b:=b) Qg;exact f9 rfl rfl (by rw[he];exact⟨Ob.agg ⟨Ra,bn,Aa⟩,Sa,Aa⟩)
 have hT:Bd n l=true:=by simp_all
 obtain⟨hn0,hn16,hl256,hrow⟩:=jc hT;refine Wb ?_;refine Fb GE (UE n p m) ?_;refine Jb ?_;refine Sc ?_ ?_<;>intro h1
 .refine Jb ?_;refine Db ?_;have he:=IT (mu:=false) (i:=i) (a:=a) (b:=b) hT Gb;exact f9 rfl rfl (by rw[he];exact⟨Ob.agg ⟨Ra,bn,Aa⟩,Sa,Aa⟩)
 have hbe:c8 n p m=0:=by assumption
 obtain⟨_,_,hpl,hpa,hml,_⟩:=l8 hbe;refine jz ?_;refine af rfl rfl ?_ ?_<;>intro r2
 ·
  have h2:=Bc r2;(iterate 4 refine k9 (Yc r2) ?_);refine Cb ?_;(iterate 3 refine k9 rfl ?_);refine Cb ?_;(iterate 4 refine k9 rfl ?_);refine Cb ?_;(iterate 5 refine k9 rfl ?_);refine Cb ?_;(iterate 3 refine k9 rfl ?_);refine Cb ?_
  (iterate 9 refine k9 rfl ?_);refine Cb ?_;(iterate 10 refine k9 rfl ?_);refine Cc ?_;refine Db ?_
  have he:=j9 (mu:=false) (i:=i) (a:=a) (b:=b) hT hbe Me;exact f9 rfl rfl (by rw[he];exact⟨Ob.agg ⟨Ra,bn,Aa⟩,Sa,Aa⟩)
 have h2:=Ac r2;(iterate 4 refine qy ?_ (hg:=(Jc r2)));refine Cb ?_;refine af rfl rfl ?_ ?_<;>intro r3
 ·
  have h3:=Bc (ai r2 r3);(iterate 3 refine k9 (Yc r3) ?_);refine Cb ?_;(iterate 4 refine k9 rfl ?_);refine Cb ?_;(iterate 5 refine k9 rfl ?_);refine Cb ?_;(iterate 3 refine k9 rfl ?_);refine Cb ?_;(iterate 9 refine k9 rfl ?_);refine Cb ?_
  (iterate 10 refine k9 rfl ?_);refine Cc ?_;refine Db ?_
  have he:=j9 (mu:=false) (i:=i) (a:=a) (b:=b) hT hbe Me;exact f9 rfl rfl (by rw[he];exact⟨Ob.agg ⟨Ra,bn,Aa⟩,Sa,Aa⟩)
 have h3:=Ac (ai r2 r3);(iterate 3 refine qy ?_ (hg:=(Jc r3)));refine Cb ?_;refine af rfl rfl ?_ ?_<;>intro r4
 ·
  have h4:=Bc (ai r3 r4);(iterate 4 refine k9 (Yc r4) ?_);refine Cb ?_;(iterate 5 refine k9 rfl ?_);refine Cb ?_;(iterate 3 refine k9 rfl ?_);refine Cb ?_;(iterate 9 refine k9 rfl ?_);refine Cb ?_;(iterate 10 refine k9 rfl ?_)
  refine Cc ?_;refine Db ?_;have he:=j9 (mu:=false) (i:=i) (a:=a) (b:=b) hT hbe Me;exact f9 rfl rfl (by rw[he];exact⟨Ob.agg ⟨Ra,bn,Aa⟩,Sa,Aa⟩)
 have h4:=Ac (ai r3 r4);(iterate 4 refine qy ?_ (hg:=(Jc r4)));refine Cb ?_;refine af rfl rfl ?_ ?_<;>intro r5
 ·
  have h5:=Bc (ai r4 r5);(iterate 5 refine k9 (Yc r5) ?_);refine Cb ?_;(iterate 3 refine k9 rfl ?_);refine Cb ?_;(iterate 9 refine k9 rfl ?_);refine Cb ?_;(iterate 10 refine k9 rfl ?_);refine Cc ?_;refine Db ?_
  have he:=j9 (mu:=false) (i:=i) (a:=a) (b:=b) hT hbe Me;exact f9 rfl rfl (by rw[he];exact⟨Ob.agg ⟨Ra,bn,Aa⟩,Sa,Aa⟩)
 have h5:=Ac (ai r4 r5);(iterate 5 refine qy ?_ (hg:=(Jc r5)));refine Cb ?_;refine af rfl rfl ?_ ?_<;>intro r6
 ·
  have h6:=Bc (ai r5 r6);(iterate 3 refine k9 (Yc r6) ?_);refine Cb ?_;(iterate 9 refine k9 rfl ?_);refine Cb ?_;(iterate 10 refine k9 rfl ?_);refine Cc ?_;refine Db ?_
  have he:=j9 (mu:=false) (i:=i) (a:=a) (b:=b) hT hbe Me;exact f9 rfl rfl (by rw[he];exact⟨Ob.agg ⟨Ra,bn,Aa⟩,Sa,Aa⟩)
 have h6:=Ac (ai r5 r6);(iterate 3 refine qy ?_ (hg:=(Jc r6)));refine Cb ?_;refine af rfl rfl ?_ ?_<;>intro r7
 ·
  have h7:=Bc (ai r6 r7);(iterate 3 refine k9 (Yc r7) ?_);(iterate 5 refine k9 rfl ?_);refine k9 (Yc r7) ?_;refine Cb ?_;(iterate 10 refine k9 rfl ?_);refine Cc ?_;refine Db ?_
  have he:=j9 (mu:=false) (i:=i) (a:=a) (b:=b) hT hbe Me;exact f9 rfl rfl (by rw[he];exact⟨Ob.agg ⟨Ra,bn,Aa⟩,Sa,Aa⟩)
 have h7:=Ac (ai r6 r7);(iterate 3 refine qy ?_ (hg:=(Jc r7)));(iterate 5 refine k9 rfl ?_);refine qy ?_ (hg:=(Jc r7));refine Cb ?_;(iterate 4 refine rq rfl rfl rfl rfl (Jc (sy r7 rfl)) ?_);refine Eb ?_
 refine rq rfl rfl rfl rfl (Jc (sy r7 rfl)) ?_;refine Cb ?_;refine aj _ rfl ?_ ?_<;>intro r8
 .have h8:=Bc (ai (sy r7 rfl) r8);refine Mb ?_;refine Db ?_;have he:=j9 (mu:=false) (i:=i) (a:=a) (b:=b) hT hbe Me;exact f9 rfl rfl (by rw[he];exact⟨Ob.agg ⟨Ra,bn,Aa⟩,Sa,Aa⟩)
 have h8:=Ac (ai (sy r7 rfl) r8);refine Cb ?_
 have hnb:¬ik l p m false i a b:=by
  unfold ik;rintro(h|h|h|h|h|h|⟨h,h2⟩|⟨h,h2⟩)<;>first|omega|cases h
 have Ei:=ZE (mu:=false) (i:=i) (a:=a) (b:=b) hT hbe hnb;have ha:a.toNat<l.length:=by omega
 have hb:b.toNat<l.length:=by omega
 have hra:=hrow _ ha;have hrb:=hrow _ hb;have hi:i.toNat<p.length:=by omega
 have hu:Ue n (p.getD i.toNat default)=true:=Ze.1 hpa _ (by rw[Oc,Hc hi];exact De hi);refine gy ?_;refine m9 3 ?_;refine pG ?_;refine Fb bB (aB (l.getD a.toNat default) (l.getD b.toNat default) (p.getD i.toNat default).lhs Za Za) ?_;refine Tb ?_;refine Xd ?_ ?_<;>intro h9
 .refine Mb ?_;refine Db ?_;have he:=Ei.trans (show Hj n l a.toNat b.toNat (p.getD i.toNat default)=(0,[],1) from Ca (Ie.1 Gb));exact f9 rfl rfl (by rw[he];exact⟨Ob.agg ⟨Ra,bn,Aa⟩,Sa,Aa⟩)
 refine jq ?_;refine rc rfl rfl rfl rfl rfl rfl (Ib func178) (b5i n l (p.getD i.toNat default).rhs a.toNat b.toNat hn0 hn16 hrow Za ha hb (λj hj=>AE hn0 hn16 hu hj)) (⟨Sa,Sa,Sb Za,Sb Za,Aa⟩) rfl rfl ?_;refine dg ?_;refine Kb ?_ ?_<;>intro h10
 .refine Mb ?_;refine Db ?_;have hx:=Nd (BF (e9 l (eqMs (d7 l) a.toNat b.toNat (am (p.getD i.toNat default).rhs)))) (Hn (mq _ _));exact f9 rfl rfl (by exfalso;omega)
 refine Jb ?_;refine Db ?_;have he:=Ei.trans (show Hj n l a.toNat b.toNat (p.getD i.toNat default)=(n,ax (e9 l (eqMs (d7 l) a.toNat b.toNat (am (p.getD i.toNat default).rhs))),0) from Ba Gb);exact f9 rfl rfl (by rw[he];exact Ta)
def az3 (l:List Rw) (hl:∀i,i<l.length->(l.getD i default).length<=17592186044416) (hl2:l.length<=5864062014805):a6 Ab 174 [pR l] (a7 [pR l]) :=
 dn.pure (args:=[pR l]) (l:=[.one (.ref 901 l.length)]) (aT l hl hl2) rfl ⟨rfl,Aa⟩
def fV(n:Int)(l:List Rw)(p m:List Fd)(s:St)(hck:Pg n l p m=0)(h:yt l p m s) :
 a6 Ab 124 [pT n l,pP (Ub p),pP (Ub m),s.pc] (a7 [pT (du n l p m s).1 (du n l p m s).2.1,pI (du n l p m s).2.2]):=by
 obtain⟨mu,i,a,b⟩:=s;obtain⟨ha,hb,h⟩:=h;obtain⟨hT,hbe,_⟩:=XD hck;have ha:a<l.length:=ha;have hb:b<l.length:=hb
 have hne:¬a=b:=by
  rintro rfl
  rcases h with⟨_,_,h⟩|⟨_,_,h⟩
  .rw[show fb l (p.getD i default) a a=false from zL]at h;cases h
  rw[show fk l (m.getD i default) a a=false from rL ha]at h;cases h
 rcases h with⟨h1,h2,_⟩|⟨h1,h2,_⟩
 .cases h1
  have h2:i<p.length:=h2
  have e:=ZE (mu:=false) (i:=(i:Int)) (a:=(a:Int)) (b:=(b:Int)) hT hbe (by
   unfold ik
   rintro(h|h|h|h|h|h|⟨h,h3⟩|⟨h,h3⟩)<;>first|omega|cases h)
  simp only[Qe]at e;have hh:=b69 n l p m i a b;rw[e]at hh;exact hh
 cases h1;have h2:i<m.length:=h2
 have e:=ZE (mu:=true) (i:=(i:Int)) (a:=(a:Int)) (b:=(b:Int)) hT hbe (by
  unfold ik
  rintro(h|h|h|h|h|h|⟨h,h3⟩|⟨h,h3⟩)<;>first|omega|cases h)
 simp only[Qe]at e;have hh:=b46 n l p m i a b;rw[e]at hh;exact hh
def bb3(F:Nat)(n:Int)(l:List Rw)(p m:List Fd)(hF:Bd n l=true->Tj l.flatten l<F)(hFb:F<=4000000000):a6 Ab 123 [pT n l,pP (Ub p),pP (Ub m)] (a7 [pP (Am (jj F n l p m).1),pT (jj F n l p m).2.1.1 (jj F n l p m).2.1.2,pI (jj F n l p m).2.2]):=by
 refine Nb (nt:=63) func123 ?_;refine Rc ?_;refine m9 0 ?_;refine qy ?_;refine m9 1 ?_;refine Mb ?_;refine Fb fI (iK n l) ?_;refine Cb ?_;refine Xd ?_ ?_<;>intro h0
 .refine Jb ?_;refine Db ?_;have hk1:Pg n l p m=1:=Ca Qg;have he:=MJ (F:=F) (n:=n) (l:=l) (p:=p) (m:=m) Za;exact f9 rfl rfl (by rw[he,hk1];exact⟨Ob.one (Wa rfl (.inr rfl) (λ_=>rfl) (λi j hi _=>Ea hi (Ud i))),Ob.agg ⟨Ra,bn,Aa⟩,Sa,Aa⟩)
 have hT:Bd n l=true:=by simp_all
 refine Wb ?_;refine Fb GE (UE n p m) ?_;refine Jb ?_;refine Sc ?_ ?_<;>intro h1
 .refine Wb ?_;refine Db ?_;have hk1:Pg n l p m=c8 n p m:=Ba hT;have he:=MJ (F:=F) (n:=n) (l:=l) (p:=p) (m:=m) (by rw[hk1];assumption);exact f9 rfl rfl (by rw[he,hk1];exact⟨Ob.one (Wa rfl (.inr rfl) (λ_=>rfl) (λi j hi _=>Ea hi (Ud i))),Ob.agg ⟨Ra,bn,Aa⟩,Sa,Aa⟩)
 have hbe:c8 n p m=0:=by assumption
 have hck:Pg n l p m=0:=(Ba hT).trans hbe;obtain⟨hn0,hn16,hpl,hpa,hml,_⟩:=l8 hbe;obtain⟨_,_,hl256,hrow⟩:=jc hT;have hbig:∀i,i<l.length->(l.getD i default).length<=17592186044416:=λi hi=>by rw[hrow i hi];omega
 refine Jb ?_;refine Fb NI (az3 l hbig Za) ?_;refine qy ?_;refine m9 2 ?_;refine Jb ?_;refine d9 11 900 true 4 187 (lf St.c []) Zc rfl Ya (.inr rfl) rfl ?_;refine aF ?_;refine aa (ι:=Nat×List Rw×List St) (ka 1 (ka 2 (ka 7 (ka 10 kn)))) (kb 1 km) (λx=>⟨[(11,some (.v (.one (.ref 900 x.2.2.length))))],[(2,some (.box [.p (.raw (.int .i64 n)), .p (rl x.2.1)])),(900,some (.arr true 4 187 x.2.2.length (lf St.c x.2.2)))]⟩) (λx=>Kl F n l p m x) (λx=>x.1) ((F,l,[])) (Kl.start hT (hF hT)) kk ?_;rintro x hX;have hXu:=hX.u;have hXb:=hX.b;refine Mb ?_;refine Fb (Ib func175) ((zJ (p:=p) (m:=m) hX.t▸W3 n x.2.1 p m hX.t hpl hml)) ?_;refine Tb ?_;refine m9 3 ?_;refine Cc ?_;refine Xd ?_ ?_<;>intro h2
 .have hS:=bR (by simpa [zJ hX.t]using h2);refine Cc ?_;refine b5 6 rfl rfl rfl ?_;refine Db ?_;have he:=(wg hck).trans (hX.fin hS);exact f9 rfl rfl (by rw[he];exact Ta)
 have hS:=JQ (false,0,0,0) (by simpa [zJ hX.t]using h2);refine Jb ?_;refine Fb (Ib func124) (fV n x.2.1 p m ((f0 x.2.1 p m).getD (false,0,0,0)) ((Ba hX.t).trans hbe) (bE hS)) ?_;refine Tb ?_;refine m9 4 ?_;refine Cc ?_;refine Sc ?_ ?_<;>intro h3
 .refine Wb ?_;refine Db ?_;have he:=(wg hck).trans (hX.err hS Gb);exact f9 rfl rfl (by rw[he];exact⟨Ob.one (Wa rfl (.inr rfl) (λ_=>rfl) (λi j hi _=>Ea hi (Ud i))),Ob.agg ⟨Ra,bn,Aa⟩,Sa,Aa⟩)
 have hnx:=hX.next hpa hS Gb
 refine Mc ?_;refine m9 5 ?_;refine Ed 6 true ?_;refine Eb ?_;refine⟨(x.1-1,(du n x.2.1 p m ((f0 x.2.1 p m).getD (false,0,0,0))).2.1,x.2.2++[((f0 x.2.1 p m).getD (false,0,0,0))]), ?_, ?_, ?_⟩
 .exact hnx.2
 .show x.1-1<x.1
  omega
 exact⟨⟨⟨_,rfl,(d6 rfl)⟩,tt⟩,⟨⟨_,rfl,⟨Va (by rw[hnx.1]),Tg.refl _,Aa⟩⟩,⟨_,rfl,(o7 rfl (λj hj=>by match j,hj with|0,_=>exact Ra|1,_=>exact Ra|2,_=>exact Ra|3,_=>exact Ra) rfl)⟩,uu⟩⟩
end
def bf8 {n:Int} (h0:0<=n) (h1:n<=16) {x:Fd}:Ue n x=true<->sub (x.lhs|||x.rhs) (ak n):=by
 rw[AA h0 h1];unfold Ue;rw[Ia]
section
def SB(E:Int->Int->Prop)(a b:Rw)(s:AS):Prop:=∀i:Nat,i<a.length->bw s (i:Int)=true->E (a.getD i default) (b.getD i default)
structure Pr (N:Nat) (p m:List Fd) (E:Int->Int->Prop) (R:Rw->Prop):Prop where
 refl:∀x,E x x
 symm:∀{x y},E x y->E y x
 trans:∀{x y z},E x y->E y z->E x z
 len:∀{r},R r->r.length=N
 cong:∀{r r':Rw},R r->r'.length=r.length->(∀i,i<r.length->E (r.getD i default) (r'.getD i default))->R r'
 fd:∀{x},x∈p->∀{a b},R a->R b->SB E a b x.lhs->SB E a b x.rhs
 mv:∀{x},x∈m->∀{a b},R a->R b->SB E a b x.lhs->R (dz a b (x.lhs|||x.rhs))
def LE(N:Nat)(p m:List Fd)(l:List Rw)(x y:Int):Prop:=∀E R,Pr N p m E R->(∀r,r∈l->R r)->E x y
def LR(N:Nat)(p m:List Fd)(l:List Rw)(r:Rw):Prop:=∀E R,Pr N p m E R->(∀r,r∈l->R r)->R r
def b9c (N:Nat) (p m:List Fd):Pr N p m (λ_ _=>True) (λr=>r.length=N) :=
 ⟨λ_=>trivial,λ_=>trivial,λ_ _=>trivial,λh=>h,λh e _=>e.trans h,λ_ _ _ _ _ _ _ _ _=>trivial,λ_ a b _ hb _=>(lg _ _ _).trans hb⟩
def Ew {N:Nat} {p m:List Fd} {l:List Rw} (hl:∀r,r∈l->r.length=N):Pr N p m (LE N p m l) (LR N p m l) where
 refl x:=λE R h _=>h.refl x
 symm h:=λE R k kl=>k.symm (h E R k kl)
 trans h h2:=λE R k kl=>k.trans (h E R k kl) (h2 E R k kl)
 len h:=h _ _ (b9c N p m) hl
 cong h e h2:=λE R k kl=>k.cong (h E R k kl) e λi hi=>h2 i hi E R k kl
 fd hx _ _ ha hb hl:=λi hi hs E R k kl=>k.fd hx (ha E R k kl) (hb E R k kl) (λj hj hh=>hl j hj hh E R k kl) i hi hs
 mv hx _ _ ha hb hl:=λE R k kl=>k.mv hx (ha E R k kl) (hb E R k kl) λj hj hh=>hl j hj hh E R k kl
structure Ch (N:Nat) (p m:List Fd) (l0 l:List Rw) (σ:Int->Int):Prop where
 rows:∀r,r∈l->LR N p m l0 r
 sym:∀s,LE N p m l0 s (σ s)
 img:∀r,r∈l0->r.map σ∈l
 fix:∀r,r∈l->∀z,z∈r->σ z=z
 le:∀s,σ s<=s
section
variable {N:Nat}{p m:List Fd}{l0 l l':List Rw}{σ σ':Int->Int}{n:Int}
theorem Ch.start:Ch N p m l0 l0 id:=⟨λr hr E R _ hl=>hl r hr,λs E R k _=>k.refl s,λr hr=>by rw[List.map_id];exact hr,λ_ _ _ _=>rfl,λs=>Int.le_refl s⟩
theorem Ch.congr (h:Ch N p m l0 l σ) (e:∀r,r∈l'<->r∈l):Ch N p m l0 l' σ :=
 ⟨λr hr=>h.rows r ((e r).1 hr),h.sym,λr hr=>(e _).2 (h.img r hr),λr hr=>h.fix r ((e r).1 hr),h.le⟩
def so(hi lo z:Int):Int:=if z=hi then lo else z
section
variable {f:Int->Int}
def ly {r:Rw} {i:Nat} (h:i<r.length):(r.map f).getD i default=f (r.getD i default):=by
 rw[Oc,Pe,Hc h,Oc,Hc h];rfl
theorem Ch.sub (hl0:∀r,r∈l0->r.length=N) (h:Ch N p m l0 l σ) {hi lo:Int} (hE:LE N p m l0 hi lo) (hle:lo<=hi) (hin:∃r,r∈l/\lo∈r):Ch N p m l0 (l.map λr=>r.map (so hi lo)) (λs=>so hi lo (σ s)):=by
 have hm:=Ew (p:=p) (m:=m) hl0
 have hs:∀z,LE N p m l0 z (so hi lo z):=λz=>by
  unfold so;split
  .rename_i e;rw[e];exact hE
  exact hm.refl z
 refine⟨λr hr=>?_,λs=>hm.trans (h.sym s) (hs _),λr hr=>?_,λr hr z hz=>?_,λs=>?_⟩
 .obtain ⟨r0,h0,rfl⟩:=Ad.1 hr
  exact hm.cong (h.rows r0 h0) Ec λi hi=>by rw[ly hi];exact hs _
 .refine Ad.2 ⟨_,h.img r hr, ?_⟩
  rw[Js];rfl
 .obtain ⟨r0,h0,rfl⟩:=Ad.1 hr
  obtain⟨y,hy,rfl⟩:=Ad.1 hz;obtain⟨r1,h1,h2⟩:=hin;have e1:=h.fix r0 h0 y hy;have e2:=h.fix r1 h1 lo h2;by_cases e:y=hi
  .have e3:so hi lo y=lo:=Ba e
   show so hi lo (σ (so hi lo y))=so hi lo y;rw[e3,e2];unfold so;split<;>rfl
  have e3:so hi lo y=y:=Ca e;show so hi lo (σ (so hi lo y))=so hi lo y;rw[e3,e1,e3]
 have h1:=h.le s
 have h2:so hi lo (σ s)<=σ s:=by
  unfold so;split<;>omega
 exact Int.le_trans h2 h1
def avb {M:Nat->Nat->Int} {a b j:Nat}:e9 l (Vk M a b j)=(e9 l M).map λr=>r.map (so (Sh (M a j) (M b j)) (Di (M a j) (M b j))):=by
 unfold e9;rw[Js];refine Mn λi _=>?_;show _=List.map _ (List.map _ _);rw[Js];rfl
def cP {M:Nat->Nat->Int} {a j:Nat} (ha:a<l.length) (hj:j<(l.getD a default).length):∃r,r∈e9 l M/\M a j∈r :=
 yJ.2 ⟨a,j,ha,hj,rfl⟩
theorem Ch.eqMs (hl0:∀r,r∈l0->r.length=N) {a b:Nat} (ha:a<l.length) (hb:b<l.length):∀{js:List Nat} {M:Nat->Nat->Int} {σ:Int->Int},Ch N p m l0 (e9 l M) σ->(∀j,j∈js->j<(l.getD a default).length/\j<(l.getD b default).length/\LE N p m l0 (M a j) (M b j)) ->
 ∃σ',Ch N p m l0 (e9 l (eqMs M a b js)) σ'
 | [],M,σ,h,_=>⟨σ,h⟩
 | j :: js,M,σ,h,hj=>by
  obtain⟨h1,h2,h3⟩:=hj j Ec;have hm:=Ew (p:=p) (m:=m) hl0;have hlo:Di (M a j) (M b j)<=Sh (M a j) (M b j):=by unfold Di Sh;split<;>split<;>omega
  have hE:LE N p m l0 (Sh (M a j) (M b j)) (Di (M a j) (M b j)):=by
   rcases FO (M a j) (M b j)with e|e<;>rcases MG (M a j) (M b j)with f|f<;>rw[e,f]
   .exact hm.refl _
   .exact h3
   .exact hm.symm h3
   exact hm.refl _
  have hin:∃r,r∈e9 l M/\Di (M a j) (M b j)∈r:=by
   rcases MG (M a j) (M b j)with f|f<;>rw[f]
   .exact cP ha h1
   exact cP hb h2
  have hq:=h.sub hl0 hE hlo hin;rw[<- avb]at hq
  have hs:∀z,LE N p m l0 z (if z=Sh (M a j) (M b j)then Di (M a j) (M b j)else z):=λz=>by
   split
   .rename_i e;rw[e];exact hE
   exact hm.refl z
  exact Ch.eqMs hl0 ha hb (js:=js) hq λk hk=>by
   obtain⟨h4,h5,h6⟩:=hj k (by simp[hk]);exact⟨h4,h5,hm.trans (hm.symm (hs (M a k))) (hm.trans h6 (hs (M b k)))⟩
def arz:e9 l (d7 l)=l:=by
 refine ny (mq _ _) λi hi=>?_;rw[mq]at hi;rw[cV hi];refine ny Ec λk hk=>?_;simp only[Yd,Jm]at hk;rw[Oc,Pe,Hi hk];rfl
def RG (hl0:∀r,r∈l0->r.length=N) {a b:Rw} {s:AS} (h:ll a b s=true):SB (LE N p m l0) a b s:=λi hi hs=>by
 rw[Ga h i hi hs];exact(Ew hl0).refl _
def dw {α:Type} [Inhabited α] {l:List α} {i:Nat} (h:i<l.length):l.getD i default∈l:=by
 rw[Oc,Hc h];exact De h
def b39 {a b:Rw} {s:AS} (hl:a.length=b.length) {z:Int} (hz:z∈dz a b s):z∈a\/z∈b:=by
 unfold dz at hz;rw[Ad]at hz;obtain⟨i,hi,rfl⟩:=hz;have hi:=Fe.1 hi;split
 .exact .inl (dw Za)
 exact .inr (dw hi)
def sG(l:List Rw)(p m:List Fd)(s:St):Prop:=s.2.2.1<l.length/\s.2.2.2<l.length/\(s.1=false->s.2.1<p.length)/\(s.1=true->s.2.1<m.length)
theorem Ch.app (hl0:∀r,r∈l0->r.length=n.toNat) (hT:Bd n l=true) (hp:p.all (Ue n)=true) (h:Ch n.toNat p m l0 l σ) {s:St} (hs:sG l p m s) (he:(du n l p m s).2.2=0) :
 (du n l p m s).1=n/\∃σ',Ch n.toNat p m l0 (du n l p m s).2.1 σ':=by
 obtain⟨mu,i,a,b⟩:=s;obtain⟨ha,hb,hf,hv⟩:=hs;obtain⟨h0,h1,h2,h3⟩:=jc hT;have ha:a<l.length:=ha;have hb:b<l.length:=hb;have hra:=h3 a ha;have hrb:=h3 b hb
 cases mu with
 | false =>
  have hi:i<p.length:=hf rfl;have e0:du n l p m (false,i,a,b)=Hj n l a b (p.getD i default):=rfl;rw[e0]at he ⊢;by_cases hg:ll (l.getD a default) (l.getD b default) (p.getD i default).lhs=true
  .have e1:Hj n l a b (p.getD i default)=(n,ax (e9 l (Go.Hx.eqMs (d7 l) a b (am (p.getD i default).rhs))),0):=Ba hg
   rw[e1];refine⟨rfl, ?_⟩;have hu:Ue n (p.getD i default)=true:=Ze.1 hp _ (dw hi);have hm:=Ew (p:=p) (m:=m) hl0;have hR:=hm.fd (dw hi) (h.rows _ (dw ha)) (h.rows _ (dw hb)) (RG hl0 hg)
   obtain ⟨σ',hσ⟩:=Ch.eqMs (p:=p) (m:=m) hl0 ha hb (js:=am (p.getD i default).rhs) (M:=d7 l) (σ:=σ) (by rw[arz];exact h) λj hj=>by
    have h4:=AE h0 h1 hu hj;have h5:=od.1 hj;refine⟨Nat.lt_of_lt_of_eq h4 hra.symm,Nat.lt_of_lt_of_eq h4 hrb.symm,hR j (Nat.lt_of_lt_of_eq h4 hra.symm) (by rw[j6 h5.1];exact h5.2)⟩
   exact⟨σ',hσ.congr λr=>gw⟩
  have e1:Hj n l a b (p.getD i default)=(0,[],1):=Ca hg;rw[e1]at he;exact Ea he Zc
 | true =>
  have hi:i<m.length:=hv rfl;have e0:du n l p m (true,i,a,b)=Xi n l a b (m.getD i default):=rfl;rw[e0]at he ⊢;by_cases hg:ll (l.getD a default) (l.getD b default) (m.getD i default).lhs=true
  .have e1:Xi n l a b (m.getD i default)=vh n l (dz (l.getD a default) (l.getD b default) ((m.getD i default).lhs|||(m.getD i default).rhs)):=Ba hg
   rw[e1]at he ⊢;by_cases hbig:256<(ax (l++[dz (l.getD a default) (l.getD b default) ((m.getD i default).lhs|||(m.getD i default).rhs)])).length
   .have e2:vh n l (dz (l.getD a default) (l.getD b default) ((m.getD i default).lhs|||(m.getD i default).rhs))=(0,[],3):=Ba hbig
    rw[e2]at he;exact Ea he Zc
   have e2:vh n l (dz (l.getD a default) (l.getD b default) ((m.getD i default).lhs|||(m.getD i default).rhs))=(n,ax (l++[dz (l.getD a default) (l.getD b default) ((m.getD i default).lhs|||(m.getD i default).rhs)]),0):=Ca hbig;rw[e2];refine⟨rfl,σ, ?_⟩;have hm:=Ew (p:=p) (m:=m) hl0;have hR:=hm.mv (dw hi) (h.rows _ (dw ha)) (h.rows _ (dw hb)) (RG hl0 hg);refine⟨λr hr=>?_,h.sym,λr hr=>gw.2 (Ig _ (h.img r hr)),λr hr z hz=>?_,h.le⟩
   .rcases Af.1 (gw.1 hr)with h4|h4
    .exact h.rows r h4
    rw[Bf.1 h4];exact hR
   rcases Af.1 (gw.1 hr)with h4|h4
   .exact h.fix r h4 z hz
   rw[Bf.1 h4]at hz
   rcases b39 Za hz with h5|h5
   .exact h.fix _ (dw ha) z h5
   exact h.fix _ (dw hb) z h5
  have e1:Xi n l a b (m.getD i default)=(0,[],1):=Ca hg;rw[e1]at he;exact Ea he Zc
def YV {P:Nat->Nat->Nat->Bool} {I L:Nat} (h:fw P I L=none) {i a b:Nat} (hi:i<I) (ha:a<L) (hb:b<L):P i a b=false:=by
 unfold fw at h;rw[vC]at h;have h1:=h i (Fe.2 hi);rw[vC]at h1;have h2:=h1 a (Fe.2 ha);rw[Option.map_eq_none_iff,Oo]at h2;exact Ie.2 (h2 b (Fe.2 hb))
def b0a (h:f0 l p m=none):(∀i,i<p.length->∀a,a<l.length->∀b,b<l.length->fb l (p.getD i default) a b=false)/\∀i,i<m.length->∀a,a<l.length->∀b,b<l.length->fk l (m.getD i default) a b=false:=by
 unfold f0 at h;split at h
 .cases h
 rename_i e;rw[Option.map_eq_none_iff]at h;exact⟨λi hi a ha b hb=>YV (P:=λi a b=>fb l (p.getD i default) a b) e hi ha hb,λi hi a ha b hb=>YV (P:=λi a b=>fk l (m.getD i default) a b) h hi ha hb⟩
def ya {α:Type} [Inhabited α] {l:List α} {x:α} (h:x∈l):∃i,i<l.length/\l.getD i default=x:=by
 obtain⟨i,hi,rfl⟩:=Fg h;exact⟨i,hi,by rw[Oc,Hc hi];rfl⟩
def b53 {a b:Rw} {s:AS} (hl:a.length=b.length):dz (a.map f) (b.map f) s=(dz a b s).map f:=by
 unfold dz;rw[Js,Yd];refine Mn λi hi=>?_;have hi:=Fe.1 hi;show _=f (if bw s (i:Int)=true then a.getD i default else b.getD i default);split
 .rw[ly Za]
 rw[ly hi]
theorem Ch.mdl (hT:Bd n l=true) (hn:f0 l p m=none) (σ:Int->Int):Pr n.toNat p m (λx y=>σ x=σ y) (λr=>r.length=n.toNat/\r.map σ∈l):=by
 obtain⟨hF,hM⟩:=b0a hn;refine⟨λ_=>rfl,λh=>h.symm,λh k=>h.trans k,λh=>h.1,λ{r r'} h e h2=>⟨e.trans h.1, ?_⟩,λ{x} hx {a b} ha hb hl i hi hs=>?_,λ{x} hx {a b} ha hb hl=>⟨(lg _ _ _).trans hb.1, ?_⟩⟩
 .have:r'.map σ=r.map σ:=by
   refine ny (by simp[e]) λi hi=>?_;rw[Yd]at hi;rw[ly hi,ly Za];exact(h2 i Za).symm
  rw[this];exact h.2
 .obtain ⟨k,hk,rfl⟩:=ya hx
  obtain⟨ia,hia,ea⟩:=ya ha.2;obtain⟨ib,hib,eb⟩:=ya hb.2;have h1:=hF k hk ia hia ib hib;unfold fb at h1;rw[ea,eb,Cx (λj hj hs=>by rw[Yd]at hj;rw[ly hj,ly (by rw[hb.1,<- ha.1];exact hj)];exact hl j hj hs),Aj,Bool.not_eq_false']at h1;have h2:=Ga h1 i (by rw[Yd];exact hi) hs;rw[ly hi,ly (by rw[hb.1,<- ha.1];exact hi)]at h2;exact h2
 obtain⟨k,hk,rfl⟩:=ya hx;obtain⟨ia,hia,ea⟩:=ya ha.2;obtain⟨ib,hib,eb⟩:=ya hb.2;have h1:=hM k hk ia hia ib hib;unfold fk at h1;rw[ea,eb,Cx (λj hj hs=>by rw[Yd]at hj;rw[ly hj,ly (by rw[hb.1,<- ha.1];exact hj)];exact hl j hj hs),Aj,Bool.not_eq_false']at h1;obtain⟨r,hr,e⟩:=Yf.1 h1;rw[<- b53 (by rw[ha.1,hb.1]),<- Ga e];exact hr
theorem Ch.has (h:Ch n.toNat p m l0 l σ) (hT:Bd n l=true) (hl0:∀r,r∈l0->r.length=n.toNat) (hn:f0 l p m=none):(∀x y,LE n.toNat p m l0 x y->σ x=σ y)/\∀r,LR n.toNat p m l0 r->r.map σ∈l:=by
 have hm:=Ch.mdl (p:=p) (m:=m) hT hn σ;have hl:∀r,r∈l0->r.length=n.toNat/\r.map σ∈l:=λr hr=>⟨hl0 r hr,h.img r hr⟩;exact⟨λx y e=>e _ _ hm hl,λr e=>(e _ _ hm hl).2⟩
def eJ:∀{r:Rw},(∀z,z∈r->f z=z)->r.map f=r
 | [],_=>rfl
 |z::r,h=>by rw[Wh,h z Ec,eJ λy hy=>h y (by simp[hy])]
theorem Ch.mem (h:Ch n.toNat p m l0 l σ) (hT:Bd n l=true) (hl0:∀r,r∈l0->r.length=n.toNat) (hn:f0 l p m=none) {r:Rw}:r∈l<->LR n.toNat p m l0 r/\r.map σ=r:=by
 constructor
 .intro hr
  exact⟨h.rows r hr,eJ (h.fix r hr)⟩
 rintro⟨h1,h2⟩;rw[<- h2];exact(h.has hT hl0 hn).2 r h1
end
end
end
section
def F3:List (List Int)->List Rw
 | []=>[[]]
 |c::cs=>c.flatMap λz=>(F3 cs).map λr=>z::r
section
variable {N:Nat}{p m:List Fd}{l0 l:List Rw}
def RQ {a b:Rw} {s:AS} {i:Nat} (h:i<b.length):(dz a b s).getD i default=if bw s (i:Int)=true then a.getD i default else b.getD i default:=by
 unfold dz;rw[Oc,Pe,Hi h];rfl
def b60 (C:Nat->List Int) (hd:∀i j z,z∈C i->z∈C j->i=j):Pr N p m (λx y=>x=y\/∃i,x∈C i/\y∈C i) (λr=>r.length=N/\∀i,i<N->r.getD i default∈C i) where
 refl _:=.inl rfl
 symm h:=by
  rcases h with h|⟨i,h,k⟩
  .exact .inl h.symm
  exact .inr ⟨i,k,h⟩
 trans h h2:=by
  rcases h with h|⟨i,h,k⟩
  .rw[h];exact h2
  rcases h2 with h2|⟨j,h2,k2⟩
  .rw[<- h2];exact .inr ⟨i,h,k⟩
  have:=hd i j _ k h2;subst this;exact .inr ⟨i,h,k2⟩
 len h:=h.1
 cong h e h2:=⟨e.trans h.1,λi hi=>by
  have h3:=h.2 i hi
  rcases h2 i (by rw[h.1];exact hi)with h4|⟨j,h4,h5⟩
  .rw[<- h4];exact h3
  have:=hd i j _ h3 h4;subst this
  exact h5⟩
 fd _ a b ha hb _:=λi hi _=>.inr ⟨i,ha.2 i (by rw[<- ha.1];exact hi),hb.2 i (by rw[<- ha.1];exact hi)⟩
 mv _ a b ha hb _:=⟨(lg _ _ _).trans hb.1,λi hi=>by
  rw[RQ (by rw[hb.1];exact hi)];split
  .exact ha.2 i hi
  exact hb.2 i hi⟩
def axc:Pr N p m (λx y=>0<=x<->0<=y) (λr=>r.length=N/\∀i,i<r.length->0<=r.getD i default) where
 refl _:=Oa
 symm h:=h.symm
 trans h h2:=h.trans h2
 len h:=h.1
 cong h e h2:=⟨e.trans h.1,λi hi=>(h2 i Za).1 (h.2 i Za)⟩
 fd _ a b ha hb _:=λi hi _=>⟨λ_=>hb.2 i (by rw[hb.1,<- ha.1];exact hi),λ_=>ha.2 i hi⟩
 mv _ a b ha hb _:=⟨(lg _ _ _).trans hb.1,λi hi=>by
  rw[lg]at hi;rw[RQ hi];split
  .exact ha.2 i (by rw[ha.1,<- hb.1];exact hi)
  exact hb.2 i hi⟩
def bH(N:Nat)(p m:List Fd)(l0:List Rw):Prop:=∀l,ou l->(∀r,r∈l->LR N p m l0 r)->l.length<=256
end
section
variable {p m:List Fd}{l0 l:List Rw}{n:Int}{σ:Int->Int}
def L7 (h0:Bd n l0=true) (hS:bH n.toNat p m l0) (ho:ou l) (h:∀r,r∈l->LR n.toNat p m l0 r):Bd n l=true:=by
 obtain⟨h1,h2,_⟩:=jc h0;refine XP h1 h2 (hS l ho h) (λr hr=>?_) ho;have h3:=h r hr _ _ axc λr0 hr0=>⟨(sa h0 r0 hr0).1,λi hi=>(sa h0 r0 hr0).2 _ (dw hi)⟩;refine⟨h3.1,λz hz=>?_⟩;obtain⟨i,hi,rfl⟩:=ya hz;exact h3.2 i hi
def b3y{s:St}(h:(du n l p m s).2.2=0):ou (du n l p m s).2.1:=by
 unfold du at *;split at h
 .rename_i e
  rw[Ba e];unfold Xi vh at *;split at h
  .rename_i e2
   rw[Ba e2];split at h
   .exact Ea h Zc
   rename_i e3;rw[Ca e3];exact go _
  exact Ea h Zc
 rename_i e;rw[Ca e];unfold Hj at *;split at h
 .rename_i e2
  rw[Ba e2];exact go _
 exact Ea h Zc
theorem Ch.step (h0:Bd n l0=true) (hS:bH n.toNat p m l0) (hp:p.all (Ue n)=true) (hT:Bd n l=true) (h:Ch n.toNat p m l0 l σ) {s:St} (hs:sG l p m s) (he:(du n l p m s).2.2=0) :
 ∃l' σ',du n l p m s=(n,l',0)/\Bd n l'=true/\Ch n.toNat p m l0 l' σ':=by
 obtain⟨h1,σ',h2⟩:=Ch.app (λr hr=>(sa h0 r hr).1) hT hp h hs he;have h3:=L7 h0 hS (b3y he) h2.rows;refine⟨_,σ', ?_,h3,h2⟩
 conv=>lhs;rw[<- Prod.eta (du n l p m s),<- Prod.eta (du n l p m s).2,h1,he]
def XR{s:St}(h:yt l p m s):sG l p m s:=by
 obtain⟨h1,h2,h3⟩:=h;refine⟨h1,h2,λe=>?_,λe=>?_⟩
 .rcases h3 with⟨_,h,_⟩|⟨h,_⟩
  .exact h
  rw[e]at h;cases h
 rcases h3 with⟨h,_⟩|⟨_,h,_⟩
 .rw[e]at h;cases h
 exact h
theorem Ch.code (h0:Bd n l0=true) (hS:bH n.toNat p m l0) (hp:p.all (Ue n)=true) (hT:Bd n l=true) (h:Ch n.toNat p m l0 l σ) {s:St} (hs:yt l p m s):(du n l p m s).2.2=0:=by
 rcases tH hT hp hs with e|⟨l',e,_⟩
 .obtain ⟨mu,i,a,b⟩:=s
  obtain⟨ha,hb,hs|hs⟩:=hs
  .obtain ⟨h1,h2,h3⟩:=hs
   cases h1;have h4:du n l p m (false,i,a,b)=Hj n l a b (p.getD i default):=rfl;have hg:=(LG hT (Ze.1 hp _ (dw h2)) ha hb h3).1;have hg:Hj n l a b (p.getD i default)=(n,Bq l a b (p.getD i default),0):=hg;rw[h4,hg]at e ⊢
  obtain⟨h1,h2,h3⟩:=hs;cases h1;have h4:du n l p m (true,i,a,b)=Xi n l a b (m.getD i default):=rfl;have h5:fk l (m.getD i default) a b=true:=h3;unfold fk at h5;rw[Od]at h5;have h6:Xi n l a b (m.getD i default)=vh n l (dz (l.getD a default) (l.getD b default) ((m.getD i default).lhs|||(m.getD i default).rhs)):=Ba h5.1;have hl0:∀r,r∈l0->r.length=n.toNat:=λr hr=>(sa h0 r hr).1
  have h7:=hS (ax (l++[dz (l.getD a default) (l.getD b default) ((m.getD i default).lhs|||(m.getD i default).rhs)])) (go _) λr hr=>by
   rcases Af.1 (gw.1 hr)with h8|h8
   .exact h.rows r h8
   rw[Bf.1 h8];exact(Ew hl0).mv (dw h2) (h.rows _ (dw ha)) (h.rows _ (dw hb)) (RG hl0 h5.1)
  rw[h4,h6];unfold vh;rw[Ca Za]
 rw[e]
def Vm (n:Int) (p m:List Fd) (lend:List Rw):List Rw->List St->Prop
 |l,[]=>l=lend
 |l,s::r=>Bd n l=true/\yt l p m s/\∃l',du n l p m s=(n,l',0)/\¬l'=l/\Vm n p m lend l' r
end
def Ao(n:Int)(ps:List AS)(c:Nat):List Int:=if c<n.toNat then(List.range ps.length).map λi=>Qj n i (ps.getD i default) c else[]
section
variable {n:Int}{ps:List AS}{p m:List Fd}
def bcp (h0:0<=n) {i c:Nat} {q:AS} (hc:c<n.toNat):Qj n i q c%n=(c:Int):=by
 unfold Qj;split
 .exact Int.emod_eq_of_lt Za Za
 have e:n+(i:Int)*n+(c:Int)=(c:Int)+n*(1+(i:Int)):=by rw[Int.mul_add,Int.mul_one,Int.mul_comm (i:Int) n];omega
 rw[e,Int.add_mul_emod_self_left];exact Int.emod_eq_of_lt Za Za
def oJ(h0:0<=n){c:Nat}{z:Int}(h:z∈Ao n ps c):c<n.toNat/\z%n=(c:Int):=by
 unfold Ao at h;split at h
 .rename_i hc
  obtain⟨i,_,rfl⟩:=Ad.1 h;exact⟨hc,bcp h0 hc⟩
 simp at h
def bbl (h0:0<=n):∀i j z,z∈Ao n ps i->z∈Ao n ps j->i=j:=λi j z h k=>by
 have h1:=(oJ h0 h).2;have h2:=(oJ h0 k).2;omega
def zV {r:Rw} (hr:r∈bf n ps):r.length=n.toNat/\∀i,i<n.toNat->r.getD i default∈Ao n ps i:=by
 unfold bf at hr;obtain⟨k,hk,rfl⟩:=Ad.1 hr;refine⟨BE _ _ _,λi hi=>?_⟩;rw[BD hi];unfold Ao;rw[Ba hi];exact Ad.2 ⟨k,hk,rfl⟩
end
end
section
section
variable {n:Int}{ps:List AS}{p m:List Fd}{l l0:List Rw}{σ:Int->Int}
def L5 {N:Nat} {l l':List Rw} (h:∀r,r∈l<->r∈l') {r:Rw}:LR N p m l r<->LR N p m l' r :=
 ⟨λk E R hm hl=>k E R hm λr hr=>hl r ((h r).1 hr),λk E R hm hl=>k E R hm λr hr=>hl r ((h r).2 hr)⟩
def YP(h0:0<=n){c:Nat}{z:Int}(h:z∈Ao n ps c):z=(c:Int)\/n<=z:=by
 unfold Ao at h;split at h
 .obtain ⟨i,_,rfl⟩:=Ad.1 h
  unfold Qj;split
  .exact .inl rfl
  right;have:=Int.mul_nonneg (show(0:Int)<=(i:Int) by omega) h0;omega
 simp at h
theorem Ch.first (h0:0<=n) (h:Ch n.toNat p m (ax (bf n ps)) l σ):(dp n).map σ=dp n:=by
 refine eJ λz hz=>?_;unfold dp at hz;obtain⟨c,hc,rfl⟩:=Ad.1 hz;have hc:=Fe.1 hc;have h1:=h.sym (c:Int) _ _ (b60 (Ao n ps) (bbl h0)) λr hr=>zV (gw.1 hr)
 rcases h1 with h1|⟨i,h1,h2⟩
 .exact h1.symm
 have h3:=(oJ h0 h1).2;have h4:=Int.emod_eq_of_lt (a:=(c:Int)) (b:=n) Za Za;have h5:i=c:=by omega
 subst h5;have h6:=h.le (i:Int)
 rcases YP h0 h2 with h7|h7
 .exact h7
 omega
def FF{r:Rw}:(l.any λx=>decide (x=r))=decide (r∈l):=by
 rw[Ko,Yf,Ia];constructor
 .rintro ⟨x,hx,e⟩
  rw[<- Ga e];exact hx
 intro h;exact⟨r,h,Fa rfl⟩
def swI(n z:Int):Int:=if n<=z/\z<2*n then z+n else if 2*n<=z/\z<3*n then z-n else z
abbrev bue(n:Int)(x:Fd):Fd:=⟨x.lhs,ak n&&&~~~(x.lhs|||x.rhs)⟩
end
end
section
section
variable {n:Int}{p m:List Fd}{l0 l:List Rw}{σ:Int->Int}
def b40(hT:Bd n l=true)(hp:p.all (Ue n)=true)(hm:m=[]){s:St}(hs:yt l p m s):(du n l p m s).2.2=0:=by
 obtain⟨mu,i,a,b⟩:=s;obtain⟨ha,hb,hs|hs⟩:=hs
 .obtain ⟨h1,h2,h3⟩:=hs
  cases h1;have h4:du n l p m (false,i,a,b)=Hj n l a b (p.getD i default):=rfl;have hg:Hj n l a b (p.getD i default)=(n,Bq l a b (p.getD i default),0):=(LG hT (Ze.1 hp _ (dw h2)) ha hb h3).1;rw[h4,hg]
 obtain⟨_,h2,_⟩:=hs;subst hm;exact Ea h2 (Ud _)
def b26(hl0:∀r,r∈l0->r.length=n.toNat)(hp:p.all (Ue n)=true)(Z:List Int):∀(F:Nat) (l:List Rw) (acc:List St) (σ:Int->Int),Bd n l=true->Ch n.toNat p m l0 l σ->Mu Z l->Tj Z l<F ->
 (j8 F n l p m acc=([],(0,[]),3)/\¬m=[])\/∃sts lend σ',j8 F n l p m acc=(acc++sts,(n,lend),0)/\Ch n.toNat p m l0 lend σ'/\Bd n lend=true/\f0 lend p m=none/\Vm n p m lend l sts:=by
 intro F
 induction F with
 |zero=>intro _ _ _ _ _ _ h;exact Ea h (Ud _)
 | succ F ih =>
  intro l acc σ hT hC hZ hF
  cases hn:f0 l p m with
  |none=>exact .inr ⟨[],l,σ,by rw[RV Za hn,Mg],hC,hT,hn,rfl⟩
  | some s =>
   have hs:=bE hn
   rcases tH hT hp hs with e|⟨l',e,hT',h3⟩
   .left
    refine⟨kW Za hn e Zc,λhm=>?_⟩;have:=b40 hT hp hm hs;rw[e]at this;exact Ea this Zc
   obtain⟨h4,h5⟩:=h3 Z hZ;obtain⟨_,σ',hC'⟩:=Ch.app hl0 hT hp hC (XR hs) (by rw[e]);rw[e]at hC'
   rcases ih l' (acc++[s]) σ' hT' hC' h4 Za with⟨q,q0⟩|⟨sts,lend,σ2,q1,q2,q3,q4,q5⟩
   .left
    exact⟨by rw[NL Za hn e,Nat.add_sub_cancel,q],q0⟩
   right;refine⟨s::sts,lend,σ2, ?_,q2,q3,q4,hT,hs,l',e,λe=>?_,q5⟩
   .rw [NL Za hn e,Nat.add_sub_cancel,q1,Ug]
    rfl
   subst e;omega
def aym (hT:Bd n l=true) (hb:c8 n p m=0):(jj FU n l p m=([],(0,[]),3)/\¬m=[])\/∃sts lend σ,jj FU n l p m=(sts,(n,lend),0)/\Ch n.toNat p m l lend σ/\Bd n lend=true/\f0 lend p m=none/\Vm n p m lend l sts:=by
 have hck:Pg n l p m=0:=(Ba hT).trans hb;rw[wg hck]
 rcases b26 (λr hr=>(sa hT r hr).1) (l8 hb).2.2.2.1 l.flatten FU l [] id hT Ch.start (vT l) (QH hT)with h|⟨sts,lend,σ',q1,q⟩
 .exact .inl h
 exact .inr ⟨sts,lend,σ',by rw[q1,Kn],q⟩
def Wg (n:Int) (p m:List Fd):List Rw->List St->List (List Rw)
 |l,[]=>[l]
 |l,s::r=>l::Wg n p m (du n l p m s).2.1 r
def sB:∀{sts:List St} {l:List Rw},(Wg n p m l sts).length=sts.length+1
 | [],_=>rfl
 |s::r,l=>by unfold Wg;rw[Zf,sB,Zf]
def RT:∀{sts:List St} {l lend:List Rw},Vm n p m lend l sts->lend∈Wg n p m l sts
 | [],l,lend,h=>by
  have h:l=lend:=h;subst h;simp[Wg]
 | s::r,l,lend,h=>by
  obtain⟨_,_,l',e,_,h⟩:=h;unfold Wg;rw[e];exact Jh _ (RT h)
def fQ (hl0:∀r,r∈l0->r.length=n.toNat) (hp:p.all (Ue n)=true):∀{sts:List St} {l lend:List Rw} {σ:Int->Int},Vm n p m lend l sts->Bd n lend=true->Ch n.toNat p m l0 l σ->∀t,t∈Wg n p m l sts->∃σ,Ch n.toNat p m l0 t σ
 | [],l,lend,σ,h,_,hC,t,ht=>by
  rw[Bf.1 (show t∈[l] from ht)];exact⟨σ,hC⟩
 | s::r,l,lend,σ,h,hTe,hC,t,ht=>by
  obtain⟨hT,hs,l',e,_,h⟩:=h;unfold Wg at ht;rw[e]at ht
  rcases Jd.1 ht with rfl|ht
  .exact⟨σ,hC⟩
  obtain⟨_,σ',hC'⟩:=Ch.app hl0 hT hp hC (XR hs) (by rw[e]);rw[e]at hC';exact fQ hl0 hp h hTe hC' t ht
end
section
variable {n:Int}{ps:List AS}{p m:List Fd}
def cW(h0:0<=n)(h16:n<=16)(hk:ps.length<=64):Bd n (ax (bf n ps))=true:=by
 refine YK h0 h16 ?_ λr hr=>?_
 .have:=BF (bf n ps)
  rw[s7]at this;omega
 obtain⟨h1,h2⟩:=zV hr;refine⟨h1,λz hz=>?_⟩;obtain⟨i,hi,rfl⟩:=ya hz
 rcases YP h0 (h2 i Za)with h3|h3<;>omega
def SK(hk:ps.length<=64)(hb:c8 n p m=0) :
 (jj FU n (ax (bf n ps)) p m=([],(0,[]),3)/\¬m=[])\/∃sts lend,jj FU n (ax (bf n ps)) p m=(sts,(n,lend),0)/\(dp n∈lend<->LR n.toNat p m (bf n ps) (dp n)) /\
  Vm n p m lend (ax (bf n ps)) sts/\Bd n lend=true/\((∃t,t∈Wg n p m (ax (bf n ps)) sts/\dp n∈t)<->dp n∈lend):=by
 obtain⟨h0,h16,_,hp,_⟩:=l8 hb;have hT:=cW h0 h16 hk;have hl0:∀r,r∈ax (bf n ps)->r.length=n.toNat:=λr hr=>(sa hT r hr).1
 rcases aym hT hb with h|⟨sts,lend,σ,h1,h2,h3,h4,h5⟩
 .exact .inl h
 right
 have hf:dp n∈lend<->LR n.toNat p m (ax (bf n ps)) (dp n):=by
  rw[h2.mem h3 hl0 h4];exact⟨λh=>h.1,λh=>⟨h,h2.first h0⟩⟩
 refine⟨sts,lend,h1,by rw[hf,L5 (l':=bf n ps) λr=>gw],h5,h3, ?_⟩;constructor
 .rintro ⟨t,ht,hft⟩
  obtain⟨σ',hC⟩:=fQ hl0 hp h5 h3 Ch.start t ht;exact hf.2 (hC.rows _ hft)
 intro h;exact⟨lend,RT h5,h⟩
end
end
section
section
variable {n:Int}{l:List Fd}
def bd1 (h:br n l=0):∀f∈l,sub f.lhs (ak n)/\sub f.rhs (ak n):=λf hf=>by
 obtain⟨h0,h1,_,h3⟩:=iq h;exact(pw h0 h1).1 (Ze.1 h3 f hf)
def as2(h:br n l=0):ut l (ak n):=λf hf _=>(bd1 h f hf).2
def b6p(h:br n l=0){x:AS}(hx:sub x (ak n)):sub (clo l x) (ak n):=VK (as2 h) hx
end
def vj {α β:Type} [Inhabited α] {f:α->β} {l:List α} {i:Nat} (h:i<l.length):(l.take (i+1)).map f=(l.take i).map f++[f (l.getD i default)]:=by
 rw[au h,Mi];rfl
structure Zn where
 n:BitVec 8
 l:List Dp
deriving Inhabited
def Zn.num(d:Zn):Int:=((d.n.toNat%7:Nat):Int)
def Zn.fds(d:Zn):List Fd:=d.l.map (Dp.fd d.num)
def Zn.c (d:Zn):Nat->PV
 |0=>.raw (.int .u8 (d.n.toNat:Int))
 |1=>Tu d.l
 |_=>.any
abbrev Zn.pc(d:Zn):PC:=.agg [d.c 0,d.c 1]
end
section
def Dj(s:AS)(a:Nat):AS:=s&&&~~~((1:AS)<<<a)
def jH (s:AS) (a:Nat) {b:Int} (h:b.toNat=a):bq .andNot .u32 (Hb s) (IntKind.wrap .u32 (1*2^(min b.toNat 32)))=Hb (Dj s a):=by
 rw[h];exact kE s a
def PP(n:Int)(l:List Fd)(s:AS)(a:Nat):AS:=if p9 n l (Dj s a)=true then Dj s a else s
def sd(n:Int)(l:List Fd)(s:AS)(k:Nat):AS:=(List.range k).foldl (λs j=>PP n l s (n.toNat-1-j)) s
def EV (n:Int) (l:List Fd) (s:AS) (k:Nat):sd n l s (k+1)=PP n l (sd n l s k) (n.toNat-1-k):=by
 unfold sd;rw[Ak,Oi];rfl
section
variable {l:List Fd}{n:Int}{s:AS}
def sQ {k:Nat} (h:p9 n l (Dj (sd n l s k) (n.toNat-1-k))=true):sd n l s (k+1)=Dj (sd n l s k) (n.toNat-1-k):=by
 rw[EV];exact Ba h
def EQ {k:Nat} (h:p9 n l (Dj (sd n l s k) (n.toNat-1-k))=false):sd n l s (k+1)=sd n l s k:=by
 rw[EV];exact Ca (by rw[h];decide)
def Cm(n:Int)(l:List Fd)(s:AS):Int:=if br n l=0 then(if p9 n l s=true then 0 else 1)else br n l
def Xr(n:Int)(l:List Fd)(s:AS):AS:=if Cm n l s=0 then sd n l s n.toNat else 0
def CZ (h:¬br n l=0):Xr n l s=0/\Cm n l s=br n l:=by
 have e:Cm n l s=br n l:=Ca h;exact⟨Ca (by rw[e];exact h),e⟩
def qY (h:br n l=0) (h2:p9 n l s=false):Xr n l s=0/\Cm n l s=1:=by
 have e:Cm n l s=1:=by unfold Cm;rw[Ba h,Ca (by rw[h2];decide)]
 exact⟨Ca (by rw[e];decide),e⟩
def PM (h:br n l=0) (h2:p9 n l s=true):Xr n l s=sd n l s n.toNat/\Cm n l s=0:=by
 have e:Cm n l s=0:=by unfold Cm;rw[Ba h,Ba h2]
 exact⟨Ba e,e⟩
def Z0(n:Int)(l:List Fd)(s:AS):Bool:=p9 n l s&&(List.range n.toNat).all λa=>!(s.getLsbD a&&p9 n l (Dj s a))
def E0(n:Int)(l:List Fd)(i:Nat):List AS:=((List.range i).map (BitVec.ofNat 32)).filter (Z0 n l)
def vN(n:Int)(l:List Fd):List AS:=if br n l=0 then ord (E0 n l (2^n.toNat)) else[]
end
end
section
open Go.Proofs
def bex(n:Int)(l:List Fd)(s:AS):a6 Ab 86 [pI n,pP (Ub l),pA s] (a7 [pA (Xr n l s),pI (Cm n l s)]):=by
 refine Nb (nt:=38) func86 ?_;refine ce ?_;refine Fb Eu (Fu n l) ?_;refine Jb ?_;refine Sc ?_ ?_<;>intro h0
 .refine Mb ?_;refine Db ?_;have he:=CZ (s:=s) h0;exact f9 rfl rfl (⟨Sb (Da Hb he.1.symm),Sb he.2.symm,Aa⟩)
 refine Jb ?_;refine Fb EH (EG n l s) ?_;refine Cb ?_;refine Xd ?_ ?_<;>intro h1
 .refine Eb ?_;refine Db ?_;have he:=qY h0 Gb;exact f9 rfl rfl (⟨Sb (Da Hb he.1.symm),Sb he.2.symm,Aa⟩)
 refine Tb ?_;have hv:=iq h0;refine Mb ?_;refine bz (ka 0 (ka 1 kn)) km (λk=>⟨[(2,some (vA (sd n l s k))),(9,some (vI (n-1-(k:Int))))],[]⟩) n.toNat ⟨⟨zy,⟨_,rfl,(Hd Za)⟩,Aa⟩,Aa⟩ ?_;rintro k hk;refine Mb ?_;refine Kb ?_ ?_<;>intro h2
 ·
  refine qd ?_;refine rc rfl rfl rfl rfl rfl rfl EH (EG n l (Dj (sd n l s k) (n.toNat-1-k))) (⟨Sa,Sa,Sb (jH _ _ Za),Aa⟩) rfl rfl ?_;refine cn ?_;refine We ?_ ?_<;>intro h3
  ·
   refine Cc ?_
   first | (refine Rb (k+1) ⟨⟨⟨_, rfl, (ed ((jH _ (n.toNat-1-k) Za).trans (Da Hb (sQ Gb).symm)))⟩, ⟨_, rfl, (Hd Za)⟩, tt⟩, trivial⟩ ?_; show k+1<=_; omega)
         |(refine Rb (k+1) ⟨⟨⟨_,rfl,(ed (by rw[EQ Gb]))⟩,⟨_,rfl,(Hd Za)⟩,tt⟩,Aa⟩ ?_;show k+1<=_;omega)
  refine Mb ?_
  first | (refine Rb (k+1) ⟨⟨⟨_, rfl, (ed ((jH _ (n.toNat-1-k) Za).trans (Da Hb (sQ Gb).symm)))⟩, ⟨_, rfl, (Hd Za)⟩, tt⟩, trivial⟩ ?_; show k+1<=_; omega)
        |(refine Rb (k+1) ⟨⟨⟨_,rfl,(ed (by rw[EQ Gb]))⟩,⟨_,rfl,(Hd Za)⟩,tt⟩,Aa⟩ ?_;show k+1<=_;omega)
 refine Jb ?_;refine Db ?_;have he:=PM h0 Gb;obtain rfl:k=n.toNat:=by omega
 exact f9 rfl rfl (⟨Sb (Da Hb he.1.symm),Sb he.2.symm,Aa⟩)
end
def bC:Bool->Nat->PV:=λb _=>.raw (.bool b)
def bG(n:Int)(l:List Fd)(k:Nat):Bool:=decide (clo l (BitVec.ofNat 32 k)=ak n)
def gY(n:Int)(l:List Fd)(i:Nat):List Bool:=(List.range (2^n.toNat)).map λk=>decide (k<i)&&bG n l k
def bti(n:Int)(l:List Fd):List Bool:=gY n l (2^n.toNat)
section
section
variable {n:Int}{l:List Fd}
def okA(n:Int)(l:List Fd)(i a:Nat):Bool:=bG n l i&&(List.range a).all λb=>!(i.testBit b&&bG n l (i ^^^ 2^b))
section
variable {i a:Nat}(hv:br n l=0)(hi:i<2^n.toNat)(ha:(a:Int)<n)(hx:i ^^^ 2^a<2^n.toNat)
include hv hi ha hx
end
end
end
section
def xj (s:AS):Nat->AS->List AS
 |0,_=>[]
 |n+1,x=>if x=0 then[]else x::xj s n ((x-1)&&&s)
def fp(s:AS):List AS:=0::xj s (s.toNat+1) s
def sub_zero(s:AS):sub 0 s:=ci.2 λi hi h=>by simp at h
section
variable {s:AS}
def lV:∀(n:Nat) (x:AS),sub x s->x.toNat<n->∀z,z∈xj s n x<->sub z s/\z≠0/\z.toNat<=x.toNat
 |0,x,_,h,z=>Ea h (Ud _)
 | n + 1,x,hx,h,z=>by
  unfold xj;by_cases h0:x=0
  .rw [Ba h0]
   subst h0;constructor
   .intro h;cases h
   rintro⟨_,h1,h2⟩;exact Ea (Qi (Nat.le_antisymm h2 (Zb _))) h1
  rw[Ca h0,Jd,lV n _ fF (by have:=s5 (s:=s) h0;omega)];constructor
  .rintro (rfl|⟨h1,h2,h3⟩)
   .exact⟨hx,h0,Yb _⟩
   have:=s5 (s:=s) h0;exact⟨h1,h2,by omega⟩
  rintro⟨h1,h2,h3⟩;by_cases he:z=x
  .exact .inl he
  have hne:z.toNat≠x.toNat:=λe=>he (Qi e);exact .inr ⟨h1,h2,fK hx h1 Za⟩
def GF{z:AS}:z∈fp s<->sub z s:=by
 unfold fp;rw[Jd,lV _ _ (sub_self s) (Nat.lt_succ_self _)];constructor
 .rintro (rfl|h)
  .exact sub_zero s
  exact h.1
 intro h;by_cases h0:z=0
 .exact .inl h0
 exact .inr ⟨h,h0,VC h⟩
def PB(s:AS)(x:Nat×List AS×AS):Prop:=x.2.1++xj s x.1 x.2.2=fp s/\x.2.2.toNat<x.1/\x.2.1.length+x.1=s.toNat+2
def bda(s:AS):PB s (s.toNat+1,[0],s):=⟨rfl,Nat.lt_succ_self _,by dsimp only;rw[Yk];omega⟩
def bb9 {x:Nat×List AS×AS} (h:PB s x) (h0:x.2.2≠0):PB s (x.1-1,x.2.1++[x.2.2],(x.2.2-1)&&&s):=by
 obtain⟨h1,h2,h3⟩:=h;obtain⟨n,hn⟩:∃n,x.1=n+1:=⟨x.1-1,by omega⟩;have hl:=s5 (s:=s) h0;refine⟨?_,by dsimp only;omega,by dsimp only;rw[Uc,Yk];omega⟩;rw[<- h1,hn];show(x.2.1++[x.2.2])++xj s n _=_;rw[Ug]
 conv=>rhs;unfold xj
 rw[Ca h0];rfl
def D5 {x:Nat×List AS×AS} (h:PB s x) (h0:x.2.2=0):x.2.1=fp s:=by
 obtain⟨h1,h2,h3⟩:=h;obtain⟨n,hn⟩:∃n,x.1=n+1:=⟨x.1-1,by omega⟩;rw[<- h1,hn];unfold xj;rw[Ba h0,Mg]
def zU(s:AS):(fp s).length<=4294967297:=by
 have:∀n x,(xj s n x).length<=n:=by
  intro n
  induction n with
  |zero=>intro x;exact Yb _
  | succ n ih =>
   intro x;unfold xj;split
   .simp
   rw[Zf];have:=ih ((x-1)&&&s);omega
 have h1:=this (s.toNat+1) s;have:=s.isLt;unfold fp;rw[Zf];omega
variable {r:AS}
def W5(h:r≠0):r&&&(-r)=(1:AS)<<<j4 r:=by
 obtain⟨h1,h2,h3,h4⟩:=x9 h
 have e:-r = ~~~(r-1):=by
  apply Qi;have h0:r.toNat≠0:=λe=>h (Qi e);have:=r.isLt;rw[BitVec.toNat_neg,BitVec.toNat_not,gF h];omega
 rw[e];apply Tl;intro i hi;have h5:=Da (λz:AS=>z.getLsbD i) h4;simp only[Hg,Jl,Fa hi,Aj]at h5;have h6:((1:AS)<<<j4 r).getLsbD i=decide (i=j4 r):=wu _ i hi;rw[Hg,Jl,Fa hi,Aj,h6];rw[h6]at h5;by_cases hl:i=j4 r
 .subst hl
  rw[h2]at h5 ⊢;simpa using h5
 rw[Ha hl]at h5 ⊢;cases hr:r.getLsbD i<;>rw[hr]at h5<;>simpa using h5
def HZ (r:AS) (h:r≠0) {a:Int} (ha:a=IntKind.wrap .u32 (0-Hb r)):bq .and .u32 (Hb r) a=Hb ((1:AS)<<<j4 r):=by
 have e:a=Hb (-r):=by
  rw[ha];have h0:r.toNat≠0:=λe=>h (Qi e);have:=r.isLt;unfold Hb;rw[BitVec.toNat_neg];simp only[IntKind.wrap,IntKind.signed,IntKind.bits];simp;omega
 rw[e,jh,W5 h]
def sk(l:List Fd)(p s:AS):Bool:=decide (sub p (clo l s))
variable {l:List Fd}{p:AS}
def t7:decide (bq .and .u32 (Hb (clo l s)) (Hb p)=Hb p)=sk l p s:=by
 rw[jh,SH];unfold sk;refine decide_eq_decide.2 ⟨λe=>?_,λe=>?_⟩
 .rw[<- e];exact y6
 refine j3 aL (TW e (lz p))
def Fp(l:List Fd)(p x:AS):Bool:=(List.range 32).all λa=>!(x.getLsbD a&&sk l p (Dj x a))
variable {x:AS}
def T6 {a:Nat} (ha:a<32) (h:x.getLsbD a=true) (h2:sk l p (Dj x a)=true):Fp l p x=false:=by
 unfold Fp;rw[List.all_eq_false];exact⟨a,Fe.2 ha,by rw[h,h2];decide⟩
def O8 (h2:∀a,a<32->x.getLsbD a=true->sk l p (Dj x a)=false):Fp l p x=true:=by
 unfold Fp;rw[Ze];intro a ha
 cases hx:x.getLsbD a with
 |false=>rfl
 |true=>rw[h2 a (Fe.1 ha) hx];rfl
def Zv(l:List Fd)(p x r:AS):Prop:=sub r x/\∀a,a<32->x.getLsbD a=true->r.getLsbD a=true\/sk l p (Dj x a)=false
def b6u(l:List Fd)(p x:AS):Zv l p x x:=⟨lz x,λa _ h=>.inl h⟩
def bep (h:Zv l p x r) (h0:r≠0):j4 r<32/\x.getLsbD (j4 r)=true:=by
 obtain⟨h1,h2,_,_⟩:=x9 h0;exact⟨h1,ci.1 h.1 _ h1 h2⟩
def b61(h:Zv l p x r)(h0:r≠0)(hf:sk l p (Dj x (j4 r))=false):Zv l p x (r&&&(r-1)):=by
 obtain⟨h1,h2,h3,h4⟩:=x9 h0;rw[h4];refine⟨mn y6 h.1,λa ha hx=>?_⟩
 rcases h.2 a ha hx with h5|h5
 .by_cases hl:a=j4 r
  .subst hl;exact .inr hf
  refine .inl ?_;have h6:((1:AS)<<<j4 r).getLsbD a=decide (a=j4 r):=wu _ a ha;rw[Hg,Jl,Fa ha,Aj,h5,h6,Ha hl];rfl
 exact .inr h5
def be5 (h:Zv l p x r) (h0:r=0):Fp l p x=true:=O8 λa ha hx=>by
 rcases h.2 a ha hx with h5|h5
 .subst h0;simp at h5
 exact h5
def G7 (h:r≠0):(r&&&(r-1)).toNat<r.toNat:=by
 have h1:=gF h;have h0:r.toNat≠0:=λe=>h (Qi e);rw[Ns,h1];have:(r.toNat&&&(r.toNat-1))<=r.toNat-1:=Nat.and_le_right;omega
def Lm(l:List Fd)(p x:AS):Bool:=sk l p x&&Fp l p x
def w7(l:List Fd)(p:AS):AS:=Qd ((fp p).filter (Lm l p))
def aS {k:Nat}:∀{ps:List AS} {s:AS},(ps.foldl (·|||·) s).getLsbD k=(s.getLsbD k||ps.any λx=>x.getLsbD k)
 | [],s=>by simp
 | x::ps,s=>by
  rw[Im,aS,Rl,List.any_cons,Bool.or_assoc]
def vm(l:List Fd)(p:AS)(i:Nat):AS:=Qd (((fp p).take i).filter (Lm l p))
def baq(a:List AS)(x:AS):Qd (a++[x])=Qd a|||x:=by unfold Qd;rw[Oi];rfl
def pK {i:Nat} (hi:i<(fp p).length) (h:Lm l p ((fp p).getD i default)=true):vm l p (i+1)=vm l p i|||(fp p).getD i default:=by
 unfold vm;rw[au hi,Ek];simp only[Bk,h,Ma,Jn];exact baq _ _
def xg {i:Nat} (hi:i<(fp p).length) (h:Lm l p ((fp p).getD i default)=false):vm l p (i+1)=vm l p i:=by
 unfold vm;rw[au hi,Ek];simp only[Bk,h,Nj,Na,Jn,Mg]
def avl(l:List Fd)(p:AS):vm l p (fp p).length=w7 l p:=by unfold vm w7;rw[Id]
def sH(h:sk l p x=true)(h2:Fp l p x=true):Lm l p x=true:=by unfold Lm;rw[h,h2];rfl
def WI(h:sk l p x=false):Lm l p x=false:=by unfold Lm;rw[h];rfl
def kJ(h:Fp l p x=false):Lm l p x=false:=by unfold Lm;rw[h];simp
end
end
section
open Go.Proofs
def bP(s:AS):a6 Ab 250 [pA s] (a7 [pP (Cd (fp s))]):=by
 refine Nb (nt:=18) func250 ?_;refine Mb ?_;refine m9 0 ?_;refine Cc ?_;refine aa (ι:=Nat×List AS×AS) (ka 0 kn) km (λx=>⟨[(3,some (.v (.one (.ref 0 x.2.1.length)))),(4,some (vA x.2.2))],[(0,some (.arr true 1 48 x.2.1.length (lf sC x.2.1)))]⟩) (λx=>PB s x) (λx=>x.1) ((s.toNat+1,[0],s)) (bda s) ⟨tt,⟨⟨_,rfl,(lj Ra)⟩,Aa⟩⟩ ?_;rintro x hx;have hlen:=hx.2;have hsl:=s.isLt;refine Mb ?_;refine Sc ?_ ?_<;>intro h0
 ·
  have hne:x.2.2≠0:=λe=>h0 (by rw[e];rfl);refine Mb ?_;refine m9 1 ?_;refine Ed 2 true ?_;refine Mc ?_;refine rq rfl rfl rfl rfl rfl ?_ (hp:=(zB hne));refine Mc ?_;refine⟨(x.1-1,x.2.1++[x.2.2],(x.2.2-1)&&&s), ?_, ?_, ?_⟩
  .exact bb9 hx hne
  .dsimp only
   omega
  exact⟨⟨⟨_,rfl,(d6 rfl)⟩,⟨_,rfl,(ed (FB hne))⟩,tt⟩,⟨⟨_,rfl,(cr rfl Ra)⟩,Aa⟩⟩
 have hz:x.2.2=0:=dm.1 h0;refine Mb ?_;refine b5 2 rfl rfl rfl ?_;exact Nc rfl rfl rfl (⟨Ob.one (Va (by rw[<- D5 hx hz];rfl)),Aa⟩)
def JZ (l:List Fd) (p x:AS):a6 Ab 269 [pP (Ub l),pA p,pA x] (a7 [pB (Fp l p x)]):=by
 refine Nb (nt:=27) func269 ?_;refine dg ?_;refine aa (ι:=AS) (ka 0 (ka 1 (ka 2 kn))) km (λr=>⟨[(7,some (vA r))],[]⟩) (λr=>Zv l p x r) (λr=>r.toNat) (x) (b6u l p x) kk ?_;rintro r hr;refine Mb ?_;refine Sc ?_ ?_<;>intro h0
 ·
  have hne:r≠0:=λe=>h0 (by rw[e];rfl);have hlow:=bep hr hne;refine Cc ?_;refine Vr rfl rfl rfl rfl rfl ?_;refine Cb ?_;refine rc rfl rfl rfl rfl rfl rfl uo (xx l (Dj x (j4 r))) (⟨Sa,Sb (by rw[HZ r hne rfl,k8];rfl),Aa⟩) rfl rfl ?_;refine Eb ?_;refine Kb ?_ ?_<;>intro h1
  .refine Kc ?_;exact⟨Vb (T6 hlow.1 hlow.2 (t7.symm.trans (Fa Gb))).symm,Aa⟩
  refine Mc ?_;refine rq rfl rfl rfl rfl rfl ?_ (hp:=(zB hne));refine Tb ?_;refine⟨r&&&(r-1), ?_, ?_, ?_⟩
  .exact b61 hr hne (t7.symm.trans (Ha Gb))
  .exact G7 hne
  exact⟨⟨⟨_,rfl,(ed (BT hne))⟩,tt⟩,Aa⟩
 have hz:r=0:=dm.1 h0;refine Dd ?_;exact⟨Vb (be5 hr hz).symm,Aa⟩
def beo(l:List Fd)(p:AS):a6 Ab 249 [pP (Ub l),pA p] (a7 [pA (w7 l p)]):=by
 refine Nb (nt:=33) func249 ?_;refine ce ?_;have htl:=zU p;refine Cb ?_;refine Fb (Ib func250) (bP p) ?_;refine Mc ?_;refine bz (ka 0 (ka 1 (ka 9 (ka 10 kn)))) km (λi=>⟨[(5,some (vA (vm l p i))),(11,some (vI i))],[]⟩) ((fp p).length) ⟨⟨⟨_,rfl,(ed rfl)⟩,tt⟩,Aa⟩ ?_;rintro i hi;refine Eb ?_;refine Kb ?_ ?_<;>intro h0
 ·
  refine jq ?_;refine Fb uo (xx l ((fp p).getD i default)) ?_;refine Eb ?_;refine af rfl rfl ?_ ?_<;>intro r1
  ·
   have h1:=Bc r1;(iterate 3 refine qy ?_ (hg:=(Lc r1)));refine Fb (Ib func269) (JZ l p ((fp p).getD i default)) ?_ (hg:=(Lc r1));refine Cb ?_;refine aj _ rfl ?_ ?_<;>intro r2
   .have h2:=bp r1 r2;refine ce ?_;exact Ld (i+1) ⟨⟨⟨_,rfl,(by first|exact ed (by rw[Dh,pK Za (sH (t7.symm.trans (Fa Gb)) Gb)];rfl)|exact ed (by rw[xg Za (kJ Gb)])|exact ed (by rw[xg Za (WI (t7.symm.trans (Ha Gb)))]))⟩,tt⟩,Aa⟩
   have h2:=bp r1 r2;refine Eb ?_;exact Ld (i+1) ⟨⟨⟨_,rfl,(by first|exact ed (by rw[Dh,pK Za (sH (t7.symm.trans (Fa Gb)) Gb)];rfl)|exact ed (by rw[xg Za (kJ Gb)])|exact ed (by rw[xg Za (WI (t7.symm.trans (Ha Gb)))]))⟩,tt⟩,Aa⟩
  have h1:=Ac r1;(iterate 4 refine k9 (Vd r1) ?_);refine Wb ?_
  exact Ld (i+1) ⟨⟨⟨_,rfl,(by first|exact ed (by rw[Dh,pK Za (sH (t7.symm.trans (Fa Gb)) Gb)];rfl)|exact ed (by rw[xg Za (kJ Gb)])|exact ed (by rw[xg Za (WI (t7.symm.trans (Ha Gb)))]))⟩,tt⟩,Aa⟩
 obtain rfl:i=(fp p).length:=by omega
 refine Eh ?_;exact⟨Sb (by rw[avl]),Aa⟩
end
section
def buj(l:List Fd)(p x:AS)(a:Nat):Bool:=(List.range a).all λb=>!(x.getLsbD b&&sk l p (Dj x b))
def rY(i:Nat):List AS:=(List.range i).map (BitVec.ofNat 32)
def xX(l:List Fd)(p x:AS):Bool:=decide (sub x p)&&Lm l p x
def bs7(l:List Fd)(p:AS)(i:Nat):AS:=Qd ((rY i).filter (xX l p))
section
variable {l:List Fd}{p:AS}{i:Nat}
end
def xh(l:List Fd)(p x:AS):Bool:=!sk l p x&&decide (((clo l x&&&p)&&&~~~x)&&&~~~w7 l p≠0)
def yd(l:List Fd)(p:AS):Bool:=!(fp p).any (xh l p)
section
variable {l:List Fd}{p:AS}
def bbg (h:∀x,sub x p->xh l p x=false):yd l p=true:=by
 unfold yd
 have:(fp p).any (xh l p)=false:=by
  rw[Dk];intro x hx;rw[h x (GF.1 hx)];decide
 rw[this];rfl
variable {x:AS}
def W9 (hx:sub x p) (h:xh l p x=true):yd l p=false:=by
 unfold yd
 have:(fp p).any (xh l p)=true:=by
  rw[Yf];exact⟨x,GF.2 hx,h⟩
 rw[this];rfl
def qO:decide (bq .andNot .u32 (bq .andNot .u32 (bq .and .u32 (Hb (clo l x)) (Hb p)) (Hb x)) (Hb (w7 l p))=0)=decide (((clo l x&&&p)&&&~~~x)&&&~~~w7 l p=0):=by
 rw[jh,k8,k8,show(0:Int)=Hb 0 from rfl,SH]
def RO(h:sk l p x=true):xh l p x=false:=by unfold xh;rw[h];rfl
def gQ (h:bq .andNot .u32 (bq .andNot .u32 (bq .and .u32 (Hb (clo l x)) (Hb p)) (Hb x)) (Hb (w7 l p))=0):xh l p x=false:=by
 have e:=qO.symm.trans (Fa h);unfold xh;rw[Ha (λhn=>hn (Ga e))];simp
def EZ (h0:sk l p x=false) (h:¬bq .andNot .u32 (bq .andNot .u32 (bq .and .u32 (Hb (clo l x)) (Hb p)) (Hb x)) (Hb (w7 l p))=0):xh l p x=true:=by
 have e:=qO.symm.trans (Ha h);unfold xh;rw[h0,Fa (Qa e)];rfl
def sO(h:bq .and .u32 (Hb (clo l x)) (Hb p)=Hb p):sk l p x=true:=t7.symm.trans (Fa h)
def I3(h:¬bq .and .u32 (Hb (clo l x)) (Hb p)=Hb p):sk l p x=false:=t7.symm.trans (Ha h)
def b41 (h:∀j,j<(fp p).length->xh l p ((fp p).getD j default)=false):yd l p=true:=bbg λx hx=>by
 obtain⟨j,hj,rfl⟩:=Fg (GF.2 hx);have:=h j hj;rwa [Oc,Hc hj,Xh]at this
def Nm(n:Int)(l:List Fd)(p:AS):Int:=if br n l=0 then(if sub p (ak n)then 0 else 1)else br n l
def Um(n:Int)(l:List Fd)(p:AS):Bool:=decide (Nm n l p=0)&&yd l p
def S1 {n:Int} (h:¬br n l=0):Nm n l p=br n l/\Um n l p=false:=by
 have e:Nm n l p=br n l:=Ca h;exact⟨e,by unfold Um;rw[e,Ha h];rfl⟩
def LZ {n:Int} (h:br n l=0) (h2:¬sub p (ak n)):Nm n l p=1/\Um n l p=false:=by
 have e:Nm n l p=1:=by unfold Nm;rw[Ba h,Ca h2]
 exact⟨e,by unfold Um;rw[e];rfl⟩
def SN {n:Int} (h:br n l=0) (h2:sub p (ak n)):Nm n l p=0/\Um n l p=yd l p:=by
 have e:Nm n l p=0:=by unfold Nm;rw[Ba h,Ba h2]
 exact⟨e,by unfold Um;rw[e];rfl⟩
end
end
section
open Go.Proofs
def bco(n:Int)(l:List Fd)(p:AS):a6 Ab 228 [pI n,pP (Ub l),pA p] (a7 [pB (Um n l p),pI (Nm n l p)]):=by
 refine Nb (nt:=50) func228 ?_;refine ce ?_;refine Fb Eu (Fu n l) ?_;refine Jb ?_;refine Sc ?_ ?_<;>intro h0
 .refine Mb ?_;refine Db ?_;have he:=S1 (p:=p) h0;exact f9 rfl rfl (⟨Vb he.2.symm,Sb he.1.symm,Aa⟩)
 refine Tb ?_;have hv:=iq h0;have hsh:=gH (s:=p) (n:=n) hv.1 hv.2.1;refine Mb ?_;refine Sc ?_ ?_<;>intro h1
 .refine Eb ?_;refine Db ?_;have he:=LZ h0 (λe=>h1 (hsh.2 e));exact f9 rfl rfl (⟨Vb he.2.symm,Sb he.1.symm,Aa⟩)
 refine Eb ?_;refine Fb (Ib func249) (beo l p) ?_;refine Mc ?_;have htl:=zU p;refine Cb ?_;refine Fb (Ib func250) (bP p) ?_;refine Mc ?_;refine aa (ι:=Nat) (ka 1 (ka 2 (ka 9 (ka 27 (ka 28 kn))))) km (λi=>⟨[(29,some (vI i))],[]⟩) (λi=>i<=(fp p).length/\(∀j,j<i->xh l p ((fp p).getD j default)=false)) (λi=>(fp p).length-i) (0) (⟨Zb _,aw⟩) kk ?_;rintro i ⟨hi,hI⟩;refine Eb ?_;refine Kb ?_ ?_<;>intro h2
 ·
  refine jq ?_;refine Fb uo (xx l ((fp p).getD i default)) ?_;refine ce ?_;refine af rfl rfl ?_ ?_<;>intro r3
  ·
   have h3:=Ac (ct r3);(iterate 6 refine qy ?_ (hg:=(Lc r3)));refine Cb ?_;refine aj _ rfl ?_ ?_<;>intro r4
   .have h4:=Ac (ct (bp r3 r4));refine Eb ?_;refine Db ?_;have he:=SN h0 (hsh.1 h1);have hb:=W9 (GF.1 (b6i (l:=fp p) (j:=i) Za)) (EZ (I3 h3) h4);exact f9 rfl rfl (⟨Vb (by rw[he.2,hb]),Sb he.1.symm,Aa⟩)
   have h4:=Bc (cu (bp r3 r4));refine Eb ?_;refine Rb (i+1) kk ?_;exact⟨by show i+1<=_;omega,al hI (by first|exact RO (sO h3)|exact gQ h4)⟩
  have h3:=Bc (cu r3);(iterate 6 refine k9 (Vd r3) ?_);refine Wb ?_;refine Rb (i+1) kk ?_
  exact⟨by show i+1<=_;omega,al hI (by first|exact RO (sO h3)|exact gQ h4)⟩
 obtain rfl:i=(fp p).length:=by omega
 refine Mb ?_;refine Db ?_;have he:=SN h0 (hsh.1 h1);have hb:=b41 hI;exact f9 rfl rfl (⟨Vb (by rw[he.2,hb]),Sb he.1.symm,Aa⟩)
end
section
section
variable {n:Int}{l:List Fd}
def aU {n:Int} (h0:0<=n) (h1:n<=16) {k:Nat} (hk:k<32):(ak n).getLsbD k=decide (k<n.toNat):=by
 unfold ak;rw[oe _ k hk,Gi Za]
def KM(n:Int)(l:List Fd)(f:Fd):Bool:=decide (clo l f.lhs≠ak n)&&decide (f.rhs&&&~~~w7 l (ak n)≠0)
def bsg(n:Int)(l:List Fd)(i:Nat):List Fd:=((Tn n l).take i).filter (KM n l)
def bsm(n:Int)(l:List Fd):List Fd:=(Tn n l).filter (KM n l)
def PS(n:Int)(l:List Fd):(Tn n l).length<=2048:=by
 unfold Tn;split
 .rename_i h
  have h1:=(iq h).2.2.1;have h2:=VV l
  have h3:(lA l).length<=(Gy l).length:=by
   have:∀(f:Nat) (k:List Fd) (i:Nat),(vf f k i).length<=k.length:=by
    intro f
    induction f with
    |zero=>intro k i;exact Yb _
    | succ f ih =>
     intro k i;unfold vf;split
     .rename_i hi
      split
      .exact Nd (ih _ _) (by rw[n5 hi];omega)
      exact ih _ _
     exact Yb _
   exact this _ _ _
  omega
 simp
end
end
section
def aZ(l:List Fd)(pr k:AS):Bool:=(List.range 32).all λa=>!k.getLsbD a||decide (sub (clo l (Dj k a)) pr)
def MY(n:Int)(l:List Fd):Bool:=(vN n l).all (aZ l (Qd (vN n l)))
def bu1(n:Int)(l:List Fd):Bool:=decide (br n l=0)&&MY n l
section
variable {l:List Fd}{pr k:AS}
def bud(l:List Fd)(pr k r:AS):Prop:=sub r k/\∀a,a<32->k.getLsbD a=true->r.getLsbD a=true\/sub (clo l (Dj k a)) pr
def btw(l:List Fd)(pr k:AS)(s:Nat):Prop:=∀j,j<s->sub (BitVec.ofNat 32 j) k->sub (clo l (BitVec.ofNat 32 j)) pr
end
section
variable {n:Int}{l:List Fd}
end
end
def Ej(l:List Fd)(s:AS):AS:=(l.filter λf=>decide (f.lhs=s)).foldl (λa f=>a|||f.rhs) 0
def Zy(l:List Fd)(s:AS):Fd:=⟨s,Ej l s⟩
def Aw(l:List Fd):List Fd:=(ord (l.map Fd.lhs)).map (Zy l)
def OZ {l:List Fd} {s:AS} {i:Nat} (hi:i<l.length) (h:(l.getD i default).lhs=s):Ej (l.take (i+1)) s=Ej (l.take i) s|||(l.getD i default).rhs:=by
 unfold Ej;rw[au hi,Ek,Oi];simp only[Bk,h,decide_true,Ma,Jn,Im,Wu]
def W2 {l:List Fd} {s:AS} {i:Nat} (hi:i<l.length) (h:¬(l.getD i default).lhs=s):Ej (l.take (i+1)) s=Ej (l.take i) s:=by
 unfold Ej;rw[au hi,Ek,Oi];simp only[Bk,h,decide_false,Nj,Na,Jn,Wu]
def lZ {l:List Fd} {s:AS} {i:Nat} (hi:i<l.length) (h:Hb (l.getD i default).lhs=Hb s):PV.raw (.int .u32 (bq .or .u32 (Hb (Ej (l.take i) s)) (Hb (l.getD i default).rhs)))=Ag (Ej (l.take (i+1)) s):=by
 rw[Dh,OZ hi (dm.1 h)];rfl
def b3q (l:List Fd):(Aw l).length<=l.length:=by
 unfold Aw;rw[Yd];exact Nd (ui _) (by rw[Yd];exact Yb _)
section
open Go.Proofs
def bt4(t:AS)(l:List Fd):Prop:=∀x∈l,sub x.rhs t
def jf(n:Int)(l:List Fd):List Fd:=Aw (Tn n l)
def mT(n:Int)(l:List Fd):(jf n l).length<=2048:=Nd (b3q _) (PS n l)
def pt(f:Fd):AS:=f.lhs|||f.rhs
section
variable {n:Int}{l:List Fd}
def oh(n:Int)(l:List Fd)(i:Nat):Bool:=((jf n l).take i).any λf=>p9 n l (pt f)
def jL {i:Nat} (hi:i<(jf n l).length):oh n l (i+1)=(oh n l i||p9 n l (pt ((jf n l).getD i default))):=by
 unfold oh;rw[au hi,List.any_append];simp
def b1z(h:br n l=0):p9 n l (ak n)=true:=Fa ⟨h,lz _,j3 (b6p h (lz _)) sD⟩
def beg(h:br n l=0):Cm n l (ak n)=0:=(PM h (b1z h)).2
def Ct(n:Int)(l:List Fd):List AS:=(jf n l).map pt
def sN(n:Int)(l:List Fd):List AS:=Ts (if oh n l (jf n l).length=true then Ct n l else Ct n l++[Xr n l (ak n)])
def Yq(n:Int)(l:List Fd):List AS:=if br n l=0 then sN n l else[]
def J6(h:¬br n l=0):Yq n l=[]:=Ca h
def A8(h:br n l=0):Yq n l=sN n l:=Ba h
def b37(n:Int)(l:List Fd):(Ct n l).length<=2048:=by unfold Ct;rw[Yd];exact mT n l
def yU(n:Int)(l:List Fd):((jf n l).take (jf n l).length).map pt=Ct n l:=by rw[Id];rfl
def Wq(n:Int)(l:List Fd):List AS:=if oh n l (jf n l).length=true then Ct n l else Ct n l++[Xr n l (ak n)]
def Ey(h:oh n l (jf n l).length=true):Wq n l=((jf n l).take (jf n l).length).map pt:=by rw[yU];exact Ba h
def QD(h:oh n l (jf n l).length=false):Wq n l=((jf n l).take (jf n l).length).map pt++[Xr n l (ak n)]:=by rw[yU];exact Ca (by rw[h];decide)
def b3j (n:Int) (l:List Fd):(Wq n l).length<=4096:=by
 have:=b37 n l;unfold Wq;split
 .omega
 rw[Uc,Yk];omega
def nO{i:Nat}(hi:i<(jf n l).length)(h:oh n l i=true):true=oh n l (i+1):=by rw[jL hi,h];rfl
def vO{i:Nat}(hi:i<(jf n l).length)(h:oh n l i=false):p9 n l (pt ((jf n l).getD i default))=oh n l (i+1):=by rw[jL hi,h];rfl
def yO{i:Nat}(hi:i<(jf n l).length):(bif oh n l i then true else p9 n l (pt ((jf n l).getD i default)))=oh n l (i+1):=by rw[jL hi];cases oh n l i<;>rfl
end
end
section
open Go.Proofs
def R7 (hM:∀k:List Fd,k.length<=16777216->a6 Ab 139 [pP (Ub k)] (a7 [pP (Ub (Aw k))])) (n:Int) (l:List Fd):a6 Ab 84 [pI n,pP (Ub l)] (a7 [pP (Ub (jf n l)),pI (br n l)]):=by
 refine Nb (nt:=17) func84 ?_;refine Cc ?_;refine Fb (Ib func138) (B2 n l) ?_;refine Jb ?_;have hml:=PS n l;refine Cb ?_;refine Fb (Ib func139) (hM (Tn n l) Za) ?_;refine Kc ?_;exact Ta
def rQ(hM:∀k:List Fd,k.length<=16777216->a6 Ab 139 [pP (Ub k)] (a7 [pP (Ub (Aw k))]))(n:Int)(l:List Fd):a6 Ab 50 [pI n,pP (Ub l)] (a7 [pP (Cd (Yq n l)),pI (br n l)]):=by
 refine Nb (nt:=66) func50 ?_;refine Cc ?_;refine Fb (Ib func84) (R7 hM n l) ?_;refine fy ?_;refine Sc ?_ ?_<;>intro h0
 .refine Eh ?_;exact⟨Ob.one (Rv (J6 h0)),Sa,Aa⟩
 refine Cb ?_;have hv:=iq h0;have hcl:=mT n l;have hsl:=b3j n l;refine jz ?_;refine d9 8 900 true 1 48 (lf sC []) Zc rfl Ya (.inr rfl) rfl ?_;refine bz (ka 0 (ka 1 (ka 24 (ka 25 kn)))) km (λi=>⟨[(8,some (.v (.one (.ref 900 (((jf n l).take i).map pt).length)))),(9,some (vB (oh n l i))),(26,some (vI i))],[(900,some (.arr true 1 48 (((jf n l).take i).map pt).length (lf sC (((jf n l).take i).map pt))))]⟩) ((jf n l).length) ⟨⟨zy,⟨_,rfl,(Jf rfl)⟩,tt⟩,uu⟩ ?_;rintro i hi;have hlen:(((jf n l).take i).map pt).length<=i:=by rw[Yd,Ae];omega
 refine Eb ?_;refine Kb ?_ ?_<;>intro h1
 ·
  refine Jb ?_;refine m9 0 ?_;refine jz ?_;refine m9 1 ?_;refine Ed 2 true ?_;refine Eb ?_;refine af rfl rfl ?_ ?_<;>intro r2
  ·
   have h2:=r2;(iterate 4 refine k9 (Yc r2) ?_);refine Jb ?_
   exact Ld (i+1) ⟨⟨⟨_,rfl,(d6 (vj Za))⟩,⟨_,rfl,(Jf (by first|exact nO (n:=n) (l:=l) (i:=i) Za Gb|exact vO (n:=n) (l:=l) (i:=i) Za Gb|exact yO (n:=n) (l:=l) (i:=i) Za))⟩,tt⟩,⟨⟨_,rfl,(cr (vj Za) (Va (Da (λz=>PV.raw (.int .u32 z)) (Dh _ _))))⟩,Aa⟩⟩
  have h2:=r2;(iterate 3 refine qy ?_ (hg:=(Jc r2)));refine rc rfl rfl rfl rfl rfl rfl EH (EG n l (pt ((jf n l).getD i default))) (⟨Sa,Sa,Sb (Dh _ _),Aa⟩) rfl (Jc r2) ?_;refine Jb ?_
  exact Ld (i+1) ⟨⟨⟨_,rfl,(d6 (vj Za))⟩,⟨_,rfl,(Jf (by first|exact nO (n:=n) (l:=l) (i:=i) Za Gb|exact vO (n:=n) (l:=l) (i:=i) Za Gb|exact yO (n:=n) (l:=l) (i:=i) Za))⟩,tt⟩,⟨⟨_,rfl,(cr (vj Za) (Va (Da (λz=>PV.raw (.int .u32 z)) (Dh _ _))))⟩,Aa⟩⟩
 obtain rfl:i=(jf n l).length:=by omega
 refine cg ?_;refine m7 kn km ⟨[(8,some (.v (.one (.ref 900 (Wq n l).length))))],[(900,some (.arr true 1 48 (Wq n l).length (lf sC (Wq n l))))]⟩ ?_ ?_
 ·
  refine Eb ?_;refine Xd ?_ ?_<;>intro h3
  ·
   refine Eb ?_;refine Fb (Ib func87) (K8 n hv.1 hv.2.1) ?_;refine Fb (Ib func86) (bex n l (ak n)) ?_;refine fy ?_;refine Sc ?_ ?_<;>intro h4
   .exfalso;exact h4 (beg h0)
   refine Mc ?_;refine m9 3 ?_;refine Ed 4 true ?_;refine Cb ?_;exact⟨⟨⟨_,rfl,(by first|exact ey (by rw[Ey Gb])|exact ey (by rw[QD Gb,Uc];rfl))⟩,Aa⟩,⟨⟨_,rfl,(by first|exact gn (Ey Gb) (by rw[Ey Gb])|exact cr (QD Gb) Ra)⟩,Aa⟩⟩
  refine dj ?_;exact⟨⟨⟨_,rfl,(by first|exact ey (by rw[Ey Gb])|exact ey (by rw[QD Gb,Uc];rfl))⟩,Aa⟩,⟨⟨_,rfl,(by first|exact gn (Ey Gb) (by rw[Ey Gb])|exact cr (QD Gb) Ra)⟩,Aa⟩⟩
 refine cw ?_;refine b5 8 rfl rfl rfl ?_;refine Cb ?_;refine Fb (Ib func88) (dU (Wq n l) Za) ?_;refine Ef ?_;exact⟨Ob.one (Va (by rw[A8 h0];rfl)),Sb h0.symm,Aa⟩
end
def Qr(l k:List Fd):Prop:=∀s,ut l s<->ut k s
theorem Qr.refl(l:List Fd):Qr l l:=λs=>Oa
theorem Qr.trans{a b c:List Fd}(h:Qr a b)(k:Qr b c):Qr a c:=λs=>(h s).trans (k s)
theorem Qr.clo {l k:List Fd} (h:Qr l k) (s:AS):clo l s=clo k s :=
 j3 (VK ((h _).2 NW) sD) (VK ((h _).1 NW) sD)
def bsk(l:List Fd)(ps:List AS)(t:AS):Prop:=∀p∈ps,sub (clo l (t&&&p)&&&p) t
def D0(l:List Fd)(s p:AS):AS:=s|||(clo l (s&&&p)&&&p)
def bsb(l:List Fd)(ps:List AS)(s:AS):AS:=ps.foldl (D0 l) s
def PrI(l:List Fd)(ps:List AS)(z s:AS):Prop:=sub z s/\sub s (Ht l ps z)
def bu4(n:Int)(l:List Fd)(i:Nat):List AS:=((c7 (ak n)).take i).filter λs=>!gv l s
section
def bs6(l:List Fd):Prop:=∀f∈l,∀i,i<32->f.rhs.getLsbD i=true->f.lhs.getLsbD i=false
section
variable {n:Int}{l:List Fd}
end
end
section
open Go.Proofs
def H9 {ps:List AS} {k:AS} (h:k∈ps):sub k (Qd ps):=ci.2 λi hi hb=>by
 unfold Qd;rw[aS,Kj];exact .inr (Yf.2 ⟨k,h,hb⟩)
section
variable {n:Int}{l:List Fd}
end
end
section
def rG(E:Int->Int->Prop)(R:Rw->Prop)(s:AS):Prop:=∃r,R r/\∀i:Nat,i<r.length->bw s (i:Int)=true->E (r.getD i default) (i:Int)
section
variable {N:Nat}{p m:List Fd}{E:Int->Int->Prop}{R:Rw->Prop}
def b6t{s t:AS}(h:sub s t){i:Nat}(hi:bw s (i:Int)=true):bw t (i:Int)=true:=by
 by_cases hl:i<32
 .rw [j6 hl]at hi ⊢
  exact ci.1 h i hl hi
 rw[Hu Za]at hi;cases hi
def rG.mono {s t:AS} (h:rG E R t) (hs:sub s t):rG E R s:=by
 obtain⟨r,h1,h2⟩:=h;exact⟨r,h1,λi hi hh=>h2 i hi (b6t hs hh)⟩
end
section
variable {n:Int}{p m:List Fd}{ps:List AS}
def b5e {c:Nat} (hc:c<n.toNat):(dp n).getD c default=(c:Int):=by
 unfold dp;rw[Oc,Pe,Hi hc];rfl
end
end
section
def Sd(n:Int)(ps:List AS):Int:=if n<0\/8<n then 7 else if 64<ps.length then 3 else if ps.length=0\/¬Qd ps=ak n then 1 else 0
section
variable {n:Int}{ps:List AS}{p m:List Fd}
def bD(h:n<0\/8<n):Sd n ps=7:=Ba h
def iO(h:¬(n<0\/8<n))(h2:64<ps.length):Sd n ps=3:=by unfold Sd;rw[Ca h,Ba h2]
def UC(h:¬(n<0\/8<n))(h2:¬64<ps.length)(h3:ps.length=0\/¬Qd ps=ak n):Sd n ps=1:=by unfold Sd;rw[Ca h,Ca h2,Ba h3]
def fO(h:¬(n<0\/8<n))(h2:¬64<ps.length)(h3:¬(ps.length=0\/¬Qd ps=ak n)):Sd n ps=0:=by unfold Sd;rw[Ca h,Ca h2,Ca h3]
def jl (h:Sd n ps=0):0<=n/\n<=8/\ps.length<=64/\0<ps.length/\Qd ps=ak n:=by
 unfold Sd at h;split at h
 .exact Ea h Zc
 split at h
 .exact Ea h Zc
 split at h
 .exact Ea h Zc
 rename_i h1 h2 h3;refine⟨by omega,by omega,by omega,by omega, ?_⟩;apply La;intro e;exact h3 (.inr e)
def Ce(n:Int)(ps:List AS)(p m:List Fd):List St×(Int×List Rw)×Int:=jj FU n (ax (bf n ps)) p m
def Zd(n:Int)(ps:List AS)(p m:List Fd):Int:=if Sd n ps=0 then(if c8 n p m=0 then(Ce n ps p m).2.2 else c8 n p m)else Sd n ps
def Te(n:Int)(ps:List AS)(p m:List Fd):Bool:=decide (Zd n ps p m=0)&&(Ce n ps p m).2.1.2.any λr=>decide (r=dp n)
def G0 (h:¬Sd n ps=0):Zd n ps p m=Sd n ps/\Te n ps p m=false:=by
 have e:Zd n ps p m=Sd n ps:=Ca h;exact⟨e,by unfold Te;rw[e,Ha h];rfl⟩
def N2 (h:Sd n ps=0) (h2:¬c8 n p m=0):Zd n ps p m=c8 n p m/\Te n ps p m=false:=by
 have e:Zd n ps p m=c8 n p m:=(Ba h).trans (Ca h2);exact⟨e,by unfold Te;rw[e,Ha h2];rfl⟩
def Uw(h:Sd n ps=0)(h2:c8 n p m=0):Zd n ps p m=(Ce n ps p m).2.2:=(Ba h).trans (Ba h2)
def yg(h:Zd n ps p m=0):Sd n ps=0/\c8 n p m=0:=by
 unfold Zd at h;split at h
 .rename_i e
  split at h
  .rename_i e2;exact⟨e,e2⟩
  rename_i e2;exact Ea h e2
 rename_i e;exact Ea h e
def DH (h:Sd n ps=0) {q:AS} (hq:q∈ps):sub q (ak n):=by
 rw[<- (jl h).2.2.2.2];exact H9 hq
def xT (h:Sd n ps=0):gt n ps=(n,ax (bf n ps),0):=by
 obtain⟨h0,h8,h64,_⟩:=jl h;exact XJ Za Za λj hj=>(AA h0 Za).1 (DH h (dw hj))
def btb(n:Int)(p:List Fd)(ps:List AS):Bool:=Te n ps p []&&!ps.any (gv p)
end
end
section
abbrev NF(a:Int×List Rw):Nat->PV:=λj=>[.raw (.int .i64 a.1),rl a.2].getD j .any
def Rh (n:Int) (ps:List AS) (p m:List Fd):(Int×List Rw)×List St×(Int×List Rw)×Int :=
 if Sd n ps=0 then(if c8 n p m=0 then((n,ax (bf n ps)),(Ce n ps p m).1,(Ce n ps p m).2.1,(Ce n ps p m).2.2) else((0,[]),[],(0,[]),c8 n p m)) else((0,[]),[],(0,[]),Sd n ps)
section
variable {n:Int}{ps:List AS}{p m:List Fd}{l lend:List Rw}
def Z2(h:¬Sd n ps=0):Rh n ps p m=((0,[]),[],(0,[]),Sd n ps):=Ca h
def MZ(h:Sd n ps=0)(h2:¬c8 n p m=0):Rh n ps p m=((0,[]),[],(0,[]),c8 n p m):=(Ba h).trans (Ca h2)
def dH(h:Sd n ps=0)(h2:c8 n p m=0):Rh n ps p m=((n,ax (bf n ps)),(Ce n ps p m).1,(Ce n ps p m).2.1,(Ce n ps p m).2.2):=(Ba h).trans (Ba h2)
def qw:(Rh n ps p m).2.2.2=Zd n ps p m:=by
 unfold Rh Zd;split
 .split<;>rfl
 rfl
def mG (h:(Rh n ps p m).2.2.2=0):((Rh n ps p m).2.2.1.2.any λr=>decide (r=dp n))=Te n ps p m:=by
 have hc:=h;rw[qw]at hc;obtain⟨h1,h2⟩:=yg hc;unfold Te;rw[Fa hc,Aj,dH h1 h2]
def qG (h:¬(Rh n ps p m).2.2.2=0):Te n ps p m=false:=by
 rw[qw]at h;unfold Te;rw[Ha h];rfl
def AM:(bif decide ((Rh n ps p m).2.2.2=0) then((Rh n ps p m).2.2.1.2.any λr=>decide (r=dp n))else false)=Te n ps p m:=by
 by_cases h:(Rh n ps p m).2.2.2=0
 .rw[Fa h,cond_true,mG h]
 rw[Ha h,cond_false,qG h]
def XX (h:Rh n ps p m=Rh n ps p m) (h2:(Rh n ps p m).2.2.2=0):0<=n/\n<=8:=by
 rw[qw]at h2;obtain⟨h1,_⟩:=yg h2;exact⟨(jl h1).1,(jl h1).2.1⟩
def CG:∀{sts:List St} {l:List Rw} {i:Nat},Vm n p m lend l sts->i<=sts.length->Vm n p m lend ((Wg n p m l sts).getD i default) (sts.drop i)
 | [],l,0,h,_=>h
 |s::r,l,0,h,_=>h
 | s::r,l,i+1,h,hi=>by
  obtain⟨_,_,l',e,_,h⟩:=h;unfold Wg;rw[e];exact CG (i:=i) h (by simpa using hi)
def QE:∀{sts:List St} {l:List Rw} {i:Nat},i<sts.length->(Wg n p m l sts).getD (i+1) default=(du n ((Wg n p m l sts).getD i default) p m (sts.getD i default)).2.1
 | [],l,i,hi=>by simp at hi
 | s::r,l,0,_=>by
  unfold Wg
  cases r with
  |nil=>rfl
  |cons s2 r2=>rfl
 | s::r,l,i+1,hi=>by
  unfold Wg;exact QE (sts:=r) (i:=i) (by simpa using hi)
section
variable {sts:List St}
def VR:(Wg n p m l sts).getD 0 default=l:=by cases sts<;>rfl
def ji(n:Int)(p m:List Fd)(l:List Rw)(sts:List St):List (Int×List Rw):=(Wg n p m l sts).map λt=>(n,t)
def yB:(ji n p m l sts).length=sts.length+1:=by unfold ji;rw[Yd,sB]
def cE {i:Nat} (hi:i<=sts.length):(ji n p m l sts).getD i default=(n,(Wg n p m l sts).getD i default):=by
 unfold ji;have:i<(Wg n p m l sts).length:=by rw[sB];omega
 rw[Oc,Pe,Hc this,Oc,Hc this];rfl
def lU {i:Nat} (hi:i<sts.length):(ji n p m l sts).take (i+1+1)=(ji n p m l sts).take (i+1)++[(n,(du n ((Wg n p m l sts).getD i default) p m (sts.getD i default)).2.1)]:=by
 rw[au (by rw[yB];omega),cE Za,QE hi]
def ZS:(ji n p m l sts).take 1=[(n,l)]:=by
 unfold ji;cases sts<;>rfl
def Xf (n:Int) (ps:List AS) (p m:List Fd):List St×List (Int×List Rw)×Int :=
 if Zd n ps p m=0 then((Ce n ps p m).1,ji n p m (ax (bf n ps)) (Ce n ps p m).1,0) else([],[],Zd n ps p m)
def WG {c:Int} (h:Zd n ps p m=c) (h2:¬c=0):Xf n ps p m=([],[],c):=by
 unfold Xf;rw[h,Ca h2]
def Jw(h:Zd n ps p m=0):Xf n ps p m=((Ce n ps p m).1,ji n p m (ax (bf n ps)) (Ce n ps p m).1,0):=Ba h
def FH(h:Sd n ps=0)(hb:c8 n p m=0)(hc:(Ce n ps p m).2.2=0):∃sts lend,Ce n ps p m=(sts,(n,lend),0)/\Vm n p m lend (ax (bf n ps)) sts/\Bd n lend=true/\((∃t,t∈Wg n p m (ax (bf n ps)) sts/\dp n∈t)<->dp n∈lend):=by
 rcases SK (jl h).2.2.1 hb with⟨e,_⟩|⟨sts,lend,e,h1,h2,h3,h4⟩
 .unfold Ce at hc
  rw[e]at hc;exact Ea hc Zc
 exact⟨sts,lend,e,h2,h3,h4⟩
def b0m{p m:List Fd}:∀(F:Nat) (n:Int) (l:List Rw) (acc:List St),(j8 F n l p m acc).1.length<=acc.length+F:=by
 intro F
 induction F with
 |zero=>intro n l acc;unfold j8;simp
 | succ F ih =>
  intro n l acc;unfold j8;split
  .simp
  rename_i s _;split;rename_i n' l' e _;split
  .have:=ih n' l' (acc++[s])
   simp only[Uc,Yk]at this;omega
  simp
def fJ (h:Sd n ps=0) (hb:c8 n p m=0):(Ce n ps p m).1.length<=FU:=by
 obtain⟨h0,h8,h64,_⟩:=jl h;have hT:=cW (ps:=ps) h0 Za h64;have hck:Pg n (ax (bf n ps)) p m=0:=(Ba hT).trans hb;unfold Ce;rw[wg hck];have:=b0m (p:=p) (m:=m) FU n (ax (bf n ps)) [];simpa using this
def kz(n:Int)(t:List Rw):Bool:=t.any λr=>decide (r=dp n)
def Uk(n:Int)(ps:List AS)(p m:List Fd):Int:=Ee (λa:Int×List Rw=>kz n a.2) (Xf n ps p m).2.1
def Ci(n:Int)(ps:List AS)(p m:List Fd):Int:=if(Xf n ps p m).2.2=0 then(if Uk n ps p m<0 then 11 else 0) else(Xf n ps p m).2.2
def Sj(n:Int)(ps:List AS)(p m:List Fd):List St:=if(Xf n ps p m).2.2=0 then(if Uk n ps p m<0 then[] else(Xf n ps p m).1.take (Uk n ps p m).toNat) else[]
def HB:(Xf n ps p m).2.2=Zd n ps p m:=by
 unfold Xf;split
 .rename_i h;exact h.symm
 rfl
def b0p:¬Zd n ps p m=11:=by
 intro h;unfold Zd at h;split at h
 .rename_i hv
  split at h
  .rename_i hb
   rcases SK (jl hv).2.2.1 hb with⟨e,_⟩|⟨sts,lend,e,_⟩
   .unfold Ce at h;rw[e]at h;exact Ea h Zc
   unfold Ce at h;rw[e]at h;exact Ea (show(0:Int)=11 from h) Zc
  unfold c8 br at h
  (repeat' split at h)<;>omega
 unfold Sd at h
 (repeat' split at h)<;>omega
def BR(hc:Zd n ps p m=0):(0<=Uk n ps p m)<->Te n ps p m=true:=by
 obtain⟨h1,h2⟩:=yg hc;have hc2:(Ce n ps p m).2.2=0:=(Uw h1 h2).symm.trans hc;obtain⟨sts,lend,e,_,_,h3⟩:=FH h1 h2 hc2
 have e1:Te n ps p m=decide (dp n∈lend):=by
  unfold Te;rw[Fa hc,Aj,e];exact FF
 have e2:(Xf n ps p m).2.1=ji n p m (ax (bf n ps)) sts:=by rw[Jw hc,e]
 have e3:(ji n p m (ax (bf n ps)) sts).any (λa=>kz n a.2)=decide (0<=Uk n ps p m):=by
  unfold Uk;rw[e2];exact w4.symm
 rw[e1,Ia,<- h3,<- Ia (p:=0<=Uk n ps p m),<- e3,Yf];unfold ji kz;constructor
 .rintro ⟨x,hx,h⟩
  obtain⟨t,ht,rfl⟩:=Ad.1 hx;exact⟨t,ht,by rw[FF]at h;exact Ga h⟩
 rintro⟨t,ht,h⟩;exact⟨(n,t),Ad.2 ⟨t,ht,rfl⟩,by rw[FF];exact Fa h⟩
def P2(h:Ci n ps p m=11):Te n ps p m=false/\Zd n ps p m=0:=by
 unfold Ci at h;rw[HB]at h;split at h
 .rename_i hc
  split at h
  .rename_i hx
   refine⟨?_,hc⟩;rw[Ie];intro e;have:=(BR hc).2 e;omega
  exact Ea h Zc
 exact Ea h b0p
def UZ(h:¬Ci n ps p m=11):decide (Ci n ps p m=0)=Te n ps p m/\Ci n ps p m=Zd n ps p m:=by
 unfold Ci at h ⊢;rw[HB]at h ⊢;split at h
 .rename_i hc
  split at h
  .exact Ea rfl h
  rename_i hx;rw[Ba hc,Ca hx,hc];refine⟨?_,rfl⟩;have:=(BR hc).1 Za;rw[this];rfl
 rename_i hc;rw[Ca hc];refine⟨?_,rfl⟩;unfold Te;rw[Ha hc];rfl
end
end
end
section
open Go.Proofs
section
variable {m p:List Fd}{n:Int}{ps:List AS}
def MP (h:Sd n ps=0) (hb:c8 n p m=0) (hc:(Ce n ps p m).2.2=0):Vm n p m (Ce n ps p m).2.1.2 (ax (bf n ps)) (Ce n ps p m).1:=by
 obtain⟨sts,lend,e,htr,_⟩:=FH h hb hc;rw[e];exact htr
def T5 (h:(Xf n ps p m).2.2=0):(Xf n ps p m).2.1.length=(Xf n ps p m).1.length+1:=by
 rw[HB]at h;rw[Jw h];exact yB
def GY (h:(Xf n ps p m).2.2=0):0<=n/\n<=16/\(Xf n ps p m).1.length<=FU:=by
 rw[HB]at h;obtain⟨h1,h2⟩:=yg h;rw[Jw h];have:=jl h1;exact⟨this.1,by omega,fJ h1 h2⟩
def bbo {l:List Rw} {T:List (Int×List Rw)} {e:TypeId} {N:Nat} {f:Nat->Nat->PV} (h:T=[(n,l)]) (hN:N=1) (h0:Fc (f 0 0) (.raw (.int .i64 n))) (h1:Fc (f 0 1) (rl l)):Ic (.arr true 2 e N f) (.arr true 2 e T.length (lf NF T)):=by
 subst h hN;refine⟨λh=>h,rfl,rfl,rfl,λa j ha hj=>?_⟩
 have ha:a=0:=by
  have:a<1:=ha;omega
 subst ha
 match j,hj with
 |0,_=>exact h0
 |1,_=>exact h1
def iS {n:Nat} {l:List St} {i:Nat} {cl:Bool} (hn:n=(l.take i).length) {f:Nat->Nat->PV} (hf:∀a j,f a j=lf St.c l a j):Fc (.sl n 4 cl f) (Am (l.take i)):=by
 refine Wa hn.symm (.inl rfl) (λh=>by cases h) λa j ha hj=>Va ?_;rw[hf];show St.c (l.getD a default) j=St.c ((l.take i).getD a default) j;have:a<i:=by rw[hn,Ae]at ha;omega
 rw[Oc,Oc,Ih,Ba this]
def I9 (n:Int) (ps:List AS) (h:Sd n ps=0):a6 Ab 198 [pI n,pP (Cd ps)] (a7 [pT n (ax (bf n ps)),pI 0]):=by
 have:=W7 n ps;rw[xT h]at this;exact this
def b5c (n:Int) (ps:List AS) (h:Sd n ps=0):a6 Ab 122 [pI n,pP (Cd ps)] (a7 [pT n (ax (bf n ps)),pI 0]):=by
 have:=bce n ps;rw[xT h]at this;exact this
def bb6 (n:Int) (ps:List AS) (p m:List Fd):a6 Ab 199 [pT n (ax (bf n ps)),pP (Ub p),pP (Ub m)] (a7 [pP (Am (Ce n ps p m).1),pT (Ce n ps p m).2.1.1 (Ce n ps p m).2.1.2,pI (Ce n ps p m).2.2]) :=
 C7 FU n (ax (bf n ps)) p m (λh=>QH h) Zc
def b75 (n:Int) (ps:List AS) (p m:List Fd):a6 Ab 123 [pT n (ax (bf n ps)),pP (Ub p),pP (Ub m)] (a7 [pP (Am (Ce n ps p m).1),pT (Ce n ps p m).2.1.1 (Ce n ps p m).2.1.2,pI (Ce n ps p m).2.2]) :=
 bb3 FU n (ax (bf n ps)) p m (λh=>QH h) Zc
def b0r (n:Int) (l:List Rw) (p m:List Fd) (s:St) (hT:Bd n l=true) (hb:c8 n p m=0) (h:yt l p m s) (he:du n l p m s=(n,(du n l p m s).2.1,0)):a6 Ab 124 [pT n l,pP (Ub p),pP (Ub m),s.pc] (a7 [pT n (du n l p m s).2.1,pI 0]):=by
 have:=fV n l p m s ((Ba hT).trans hb) h;rw[he]at this;exact this
def zN {l lend:List Rw} {sts:List St} {i:Nat} (hi:i<sts.length) (h:Vm n p m lend l (sts.drop i)):Bd n l=true/\yt l p m (sts.getD i default)/\du n l p m (sts.getD i default)=(n,(du n l p m (sts.getD i default)).2.1,0):=by
 have e:sts.drop i=sts.getD i default::sts.drop (i+1):=by
  rw[Ss hi,Oc,Hc hi];rfl
 rw[e]at h;obtain⟨h1,h2,l',h3,h4,h5⟩:=h;rw[h3];exact⟨h1,h2,rfl⟩
end
end
section
open Go.Proofs
def Z4 (ps:List AS):a6 Ab 66 [pP (Cd ps)] (a7 [pA (Qd ps)]):=by
 refine Nb (nt:=17) func66 ?_;refine ce ?_;refine cj 0 rfl λhn=>?_;refine Mb ?_;refine bz (ka 6 (ka 7 kn)) km (λi=>⟨[(3,some (vA (Qd (ps.take i)))),(8,some (vI i))],[]⟩) ps.length ⟨⟨⟨_,rfl,Ua⟩,tt⟩,Aa⟩ ?_;rintro i hi;refine Eb ?_;refine Kb ?_ ?_<;>intro h0
 .refine Sq ?_;exact Ld (i+1) ⟨⟨⟨_,rfl,(ed (by rw[Dh,kK Za];rfl))⟩,tt⟩,Aa⟩
 obtain rfl:i=ps.length:=by omega
 refine Eh ?_;exact⟨Sb (by rw[Id]),Aa⟩
def VH:goodFn Ab 26:=Ib func26
def mC{p:Prop}(h:p:=by(repeat' apply And.intro)<;>first|trivial|exact Re rfl|rfl):p:=h
def qI (n:Int) (ps:List AS):a6 Ab 26 [pI n,pP (Cd ps)] (a7 [pI (Sd n ps)]):=by
 refine Nb (nt:=28) func26 ?_;refine dg ?_;refine af rfl rfl ?_ ?_<;>intro r0
 ·
  have h0:=Bc r0;(iterate 2 refine k9 (Yc r0) ?_);refine Wb ?_
  exact Nc rfl rfl rfl (⟨Sb (bD Za).symm,Aa⟩)
 have h0:=Ac r0;(iterate 2 refine qy ?_ (hg:=(Jc r0)));refine Tb ?_;refine aj _ rfl ?_ ?_<;>intro r1
 .have h1:=Bc (ai r0 r1);refine Kc ?_;exact⟨Sb (bD Za).symm,Aa⟩
 have h1:=Ac (ai r0 r1);have hz0:0<=n:=by omega
 have hz1:n<=16:=by omega
 refine Jb ?_;refine Kb ?_ ?_<;>intro h2
 .refine Kc ?_;exact⟨Sb (iO Za Za).symm,Aa⟩
 refine Mb ?_;refine af rfl rfl ?_ ?_<;>intro r3
 ·
  have h3:=Bc r3;(iterate 6 refine k9 (Yc r3) ?_);refine Cc ?_
  exact Nc rfl rfl rfl (⟨Sb (UC Za Za (by first|exact .inl Za|exact .inr (λe=>Ea (show Hb (Qd ps)=IntKind.wrap .u32 (1*2^(min n.toNat 32))-1 by rw[vd hz0 hz1,e]) Gb))).symm,Aa⟩)
 have h3:=Ac r3;refine qy ?_ (hg:=(Jc r3));refine Fb (Ib func66) (Z4 ps) ?_ (hg:=(Jc r3));(iterate 2 refine qy ?_ (hg:=(Jc r3)));refine rq rfl rfl rfl rfl (Jc r3) ?_ (hp:=⟨MB hz0 hz1,y8 hz0 hz1⟩);refine qy ?_ (hg:=(Jc r3));refine Mc ?_;refine aj _ rfl ?_ ?_<;>intro r4
 .have h4:=Ac (ct (ai r3 r4));refine Kc ?_;exact⟨Sb (UC Za Za (by first|exact .inl Za|exact .inr (λe=>Ea (show Hb (Qd ps)=IntKind.wrap .u32 (1*2^(min n.toNat 32))-1 by rw[vd hz0 hz1,e]) Gb))).symm,Aa⟩
 have h4:=Bc (cu (ai r3 r4));refine Mb ?_;refine⟨.inr rfl, ?_⟩
 exact ⟨_,_,_,_,rfl,mC,rfl,mC,⟨Sb (fO Za Za (λe=>by
  rcases e with e|e
  .omega
  exact e (dm.1 ((by assumption:Hb (Qd ps)=IntKind.wrap .u32 (1*2^(min n.toNat 32))-1).trans (vd hz0 hz1))))).symm,Aa⟩⟩
def KQ (n:Int) (ps:List AS) (p m:List Fd):a6 Ab 147 [pI n,pP (Cd ps),pP (Ub p),pP (Ub m)] (a7 [pT (Rh n ps p m).1.1 (Rh n ps p m).1.2,pP (Am (Rh n ps p m).2.1),pT (Rh n ps p m).2.2.1.1 (Rh n ps p m).2.2.1.2,pI (Rh n ps p m).2.2.2]):=by
 refine Nb (nt:=58) func147 ?_;refine Rc ?_;refine m9 0 ?_;refine qy ?_;refine m9 1 ?_;refine Jb ?_;refine Fb VH (qI n ps) ?_;refine Jb ?_;refine Sc ?_ ?_<;>intro h0
 .refine ce ?_;refine Db ?_;have he:=Z2 (p:=p) (m:=m) (by assumption:¬Sd n ps=0);exact f9 rfl rfl (by rw[he];exact⟨Ob.agg ⟨Ra,bn,Aa⟩,Ob.one (Wa rfl (.inr rfl) (λ_=>rfl) (λi j hi _=>Ea hi (Ud i))),Ob.agg ⟨Ra,bn,Aa⟩,Sa,Aa⟩)
 have hv:Sd n ps=0:=by assumption
 refine Jb ?_;refine Fb Ux (zt n p m) ?_;refine Jb ?_;refine Sc ?_ ?_<;>intro h1
 .refine ce ?_;refine Db ?_;have he:=MZ hv (by assumption:¬c8 n p m=0);exact f9 rfl rfl (by rw[he];exact⟨Ob.agg ⟨Ra,bn,Aa⟩,Ob.one (Wa rfl (.inr rfl) (λ_=>rfl) (λi j hi _=>Ea hi (Ud i))),Ob.agg ⟨Ra,bn,Aa⟩,Sa,Aa⟩)
 have hb:c8 n p m=0:=by assumption
 refine Eb ?_;refine Fb (Ib func198) (I9 n ps hv) ?_;refine Tb ?_;refine m9 2 ?_;refine qd ?_;refine Fb (Ib func199) (bb6 n ps p m) ?_;refine Mc ?_;refine m9 3 ?_;refine qd ?_;refine Db ?_;have he:=dH hv hb;exact f9 rfl rfl (by rw[he];exact Ta)
def PQ (n:Int) (h0:0<=n) (h1:n<=16):a6 Ab 149 [pI n] (a7 [pZ (dp n)]):=by
 refine Nb (nt:=18) func149 ?_;refine Jb ?_;refine m9 0 ?_;refine ce ?_;refine bz (ka 3 (ka 8 kn)) km (λk=>⟨[(9,some (vI k))],[(0,some (.arr true 1 3 n.toNat (lf zC (Qh n 0 (l4 32) k))))]⟩) n.toNat ⟨tt,⟨⟨_,rfl,(gS rfl (λ_=>rfl))⟩,Aa⟩⟩ ?_;rintro k hk;refine Eb ?_;refine Kb ?_ ?_<;>intro h0
 .refine Sq ?_;exact Ld (k+1) ⟨tt,⟨⟨_,rfl,(B7 (rP Za) rfl Za)⟩,Aa⟩⟩
 refine Cb ?_;refine b5 3 rfl rfl rfl ?_;refine Kc ?_;exact⟨axz h1 Za,Aa⟩
def KY (n:Int) (ps:List AS) (p m:List Fd):a6 Ab 145 [pI n,pP (Cd ps),pP (Ub p),pP (Ub m)] (a7 [pB (Te n ps p m),pI (Zd n ps p m)]):=by
 refine Nb (nt:=33) func145 ?_;refine dg ?_;refine Fb (Ib func147) (KQ n ps p m) ?_;refine Eb ?_;refine m9 0 ?_;refine m9 1 ?_;refine ce ?_;refine af rfl rfl ?_ ?_<;>intro r0
 ·
  have h0:=Bc r0;have hz:=XX (n:=n) (ps:=ps) (p:=p) (m:=m) rfl h0;(iterate 2 refine qy ?_ (hg:=(Lc r0)));refine Fb (Ib func149) (PQ n hz.1 Za) ?_ (hg:=(Lc r0));refine Fb nJ (VG (Rh n ps p m).2.2.1.1 (Rh n ps p m).2.2.1.2 (dp n)) ?_ (hg:=(Lc r0))
  refine Eh ?_;exact⟨Vb (by first|exact AM|exact mG (n:=n) (ps:=ps) (p:=p) (m:=m) Gb|exact(qG (n:=n) (ps:=ps) (p:=p) (m:=m) Gb).symm),Sb qw,Aa⟩
 have h0:=Ac r0;(iterate 4 refine k9 (Vd r0) ?_);refine Mb ?_
 exact Nc rfl rfl rfl (⟨Vb (by first|exact AM|exact mG (n:=n) (ps:=ps) (p:=p) (m:=m) Gb|exact(qG (n:=n) (ps:=ps) (p:=p) (m:=m) Gb).symm),Sb qw,Aa⟩)
def gT (n:Int) (ps:List AS):a6 Ab 30 [pI n,pP (Cd ps)] (a7 [pI (Sd n ps)]):=by
 refine Nb (nt:=37) func30 ?_;refine ce ?_;refine af rfl rfl ?_ ?_<;>intro r0
 ·
  have h0:=Bc r0;(iterate 2 refine k9 (Yc r0) ?_);refine Jb ?_
  exact Nc rfl rfl rfl (⟨Sb (bD Za).symm,Aa⟩)
 have h0:=Ac r0;(iterate 2 refine qy ?_ (hg:=(Jc r0)));refine Cb ?_;refine aj _ rfl ?_ ?_<;>intro r1
 .have h1:=Bc (ai r0 r1);refine Kc ?_;exact⟨Sb (bD Za).symm,Aa⟩
 have h1:=Ac (ai r0 r1);refine Wb ?_;refine Kb ?_ ?_<;>intro h2
 .refine Kc ?_;exact⟨Sb (iO Za Za).symm,Aa⟩
 refine dg ?_;refine bz (ka 0 (ka 1 kn)) km (λi=>⟨[(5,some (vA (Qd (ps.take i)))),(6,some (vI i))],[]⟩) ps.length ⟨⟨⟨_,rfl,Ua⟩,tt⟩,Aa⟩ ?_;rintro i hi;refine Wb ?_;refine Kb ?_ ?_<;>intro h3
 .refine qh ?_;exact Ld (i+1) ⟨⟨⟨_,rfl,(ed (by rw[Dh,kK Za];rfl))⟩,tt⟩,Aa⟩
 obtain rfl:i=ps.length:=by omega
 rw[show ps.take ps.length=ps from Id];refine Wb ?_;refine af rfl rfl ?_ ?_<;>intro r4
 ·
  have h4:=Bc r4;(iterate 4 refine k9 (Yc r4) ?_);refine Jb ?_
  exact Nc rfl rfl rfl (⟨Sb (UC Za Za (by first|exact .inl Za|exact .inr (λe=>Ea (show Hb (Qd ps)=Hb (ak n) by rw[e]) Gb))).symm,Aa⟩)
 have h4:=Ac r4;(iterate 2 refine qy ?_ (hg:=(Jc r4)));refine Fb vq (ve n) ?_ (hg:=(Jc r4));refine qy ?_ (hg:=(Jc r4));refine Cb ?_;refine aj _ rfl ?_ ?_<;>intro r5
 .have h5:=Ac (ct (ai r4 r5));refine Kc ?_;exact⟨Sb (UC Za Za (by first|exact .inl Za|exact .inr (λe=>Ea (show Hb (Qd ps)=Hb (ak n) by rw[e]) Gb))).symm,Aa⟩
 have h5:=Bc (cu (ai r4 r5));refine Mb ?_;refine⟨.inr rfl, ?_⟩
 exact ⟨_,_,_,_,rfl,mC,rfl,mC,⟨Sb (fO Za Za (λe=>by
  rcases e with e|e
  .omega
  exact e (dm.1 Gb))).symm,Aa⟩⟩
def K9 (n:Int) (ps:List AS) (p m:List Fd):a6 Ab 76 [pI n,pP (Cd ps),pP (Ub p),pP (Ub m)] (a7 [pP (Am (Xf n ps p m).1),pP (Ff 2 NF (Xf n ps p m).2.1),pI (Xf n ps p m).2.2]):=by
 refine Nb (nt:=77) func76 ?_;refine dg ?_;refine Fb (Ib func30) (gT n ps) ?_;refine Jb ?_;refine Sc ?_ ?_<;>intro h0
 .refine Jb ?_;refine Db ?_;have he:=WG (n:=n) (ps:=ps) (p:=p) (m:=m) (G0 Gb).1 Gb;exact f9 rfl rfl (by rw[he];exact⟨Ob.one (Wa rfl (.inr rfl) (λ_=>rfl) (λi j hi _=>Ea hi (Ud i))),Ob.one (Wa rfl (.inr rfl) (λ_=>rfl) (λi j hi _=>Ea hi (Ud i))),Sa,Aa⟩)
 have hv:Sd n ps=0:=by assumption
 refine Jb ?_;refine Fb GE (UE n p m) ?_;refine Jb ?_;refine Sc ?_ ?_<;>intro h1
 .refine Jb ?_;refine Db ?_;have he:=WG (n:=n) (ps:=ps) (p:=p) (m:=m) (N2 hv Gb).1 Gb;exact f9 rfl rfl (by rw[he];exact⟨Ob.one (Wa rfl (.inr rfl) (λ_=>rfl) (λi j hi _=>Ea hi (Ud i))),Ob.one (Wa rfl (.inr rfl) (λ_=>rfl) (λi j hi _=>Ea hi (Ud i))),Sa,Aa⟩)
 have hb:c8 n p m=0:=by assumption
 refine Eb ?_;refine Fb (Ib func122) (b5c n ps hv) ?_;refine Tb ?_;refine m9 0 ?_;refine qd ?_;refine Fb (Ib func123) (b75 n ps p m) ?_;refine Mc ?_;refine m9 1 ?_;refine ce ?_;refine Sc ?_ ?_<;>intro h2
 .refine Jb ?_;refine Db ?_;have he:=WG (n:=n) (ps:=ps) (p:=p) (m:=m) (Uw hv hb) Gb;exact f9 rfl rfl (by rw[he];exact⟨Ob.one (Wa rfl (.inr rfl) (λ_=>rfl) (λi j hi _=>Ea hi (Ud i))),Ob.one (Wa rfl (.inr rfl) (λ_=>rfl) (λi j hi _=>Ea hi (Ud i))),Sa,Aa⟩)
 have hc:(Ce n ps p m).2.2=0:=by assumption
 have htr:=MP hv hb hc;have hfew:(Ce n ps p m).1.length<=1300000:=fJ (p:=p) (m:=m) hv hb;have hls:Zd n ps p m=0:=(Uw hv hb).trans hc;refine Mc ?_;refine m9 2 ?_;refine Wb ?_;refine bz (ka 2 (ka 3 (ka 13 (ka 15 kn)))) km (λi=>⟨[(17,some (.v (.one (.ref 2 ((ji n p m (ax (bf n ps)) (Ce n ps p m).1).take (i+1)).length)))),(18,some (vI i))],[(0,some (.box [.p (.raw (.int .i64 n)), .p (rl ((Wg n p m (ax (bf n ps)) (Ce n ps p m).1).getD i default))])),(2,some (.arr true 2 139 ((ji n p m (ax (bf n ps)) (Ce n ps p m).1).take (i+1)).length (lf NF ((ji n p m (ax (bf n ps)) (Ce n ps p m).1).take (i+1)))))]⟩) ((Ce n ps p m).1.length) ⟨⟨⟨_,rfl,(ey (by rw[ZS];rfl))⟩,tt⟩,⟨⟨_,rfl,(by rw[VR];exact Ic.refl _)⟩,⟨_,rfl,(bbo ZS rfl Ra Ra)⟩,Aa⟩⟩ ?_;rintro i hi;have hlen:((ji n p m (ax (bf n ps)) (Ce n ps p m).1).take (i+1)).length<=i+1:=by rw[Ae];omega
 refine Wb ?_;refine Kb ?_ ?_<;>intro h3
 .obtain⟨hx1,hx2,hx3⟩:=zN Za (CG htr (i:=i) Za);refine fy ?_;refine Fb (Ib func124) (b0r n ((Wg n p m (ax (bf n ps)) (Ce n ps p m).1).getD i default) p m ((Ce n ps p m).1.getD i default) hx1 hb hx2 hx3) ?_;refine Cc ?_;refine m9 3 ?_;refine Ed 4 true ?_;refine Jb ?_;exact Ld (i+1) ⟨⟨⟨_,rfl,(d6 (lU Za))⟩,tt⟩,⟨⟨_,rfl,(by rw[QE Za];exact Ic.refl _)⟩,⟨_,rfl,(j7 (lU Za) Ra Ra)⟩,Aa⟩⟩
 obtain rfl:i=(Ce n ps p m).1.length:=by omega
 refine Cb ?_;refine b5 17 rfl rfl rfl ?_;refine Jb ?_;refine Db ?_;have he:=Jw hls;exact f9 rfl rfl (by rw[he];exact⟨Sa,(by rw[Oz (by rw[yB];omega)];exact Sa),Sa,Aa⟩)
def bdn(n:Int)(ps:List AS)(p m:List Fd):a6 Ab 38 [pI n,pP (Cd ps),pP (Ub p),pP (Ub m)] (a7 [pP (Am (Sj n ps p m)),pI (Ci n ps p m)]):=by
 refine Nb (nt:=42) func38 ?_;refine dg ?_;refine Fb (Ib func76) (K9 n ps p m) ?_;refine rp ?_;refine Sc ?_ ?_<;>intro h0
 ·
  refine Mb ?_;refine Db ?_;have hn:¬(Xf n ps p m).2.2=0:=by assumption
  have e1:Sj n ps p m=[]:=Ca hn;have e2:Ci n ps p m=(Xf n ps p m).2.2:=Ca hn;exact f9 rfl rfl (by rw[e1,e2];exact⟨Ob.one (Wa rfl (.inr rfl) (λ_=>rfl) (λi j hi _=>Ea hi (Ud i))),Sa,Aa⟩)
 have hc:(Xf n ps p m).2.2=0:=by assumption
 obtain⟨hz0,hz1,hfew0⟩:=GY hc;have hfew:(Xf n ps p m).1.length<=1300000:=hfew0;have hln:=T5 hc;refine Jb ?_;refine aa (ι:=Nat) (ka 0 (ka 10 (ka 11 kn))) km (λi=>⟨[(13,some (vI i))],[]⟩) (λi=>i<=(Xf n ps p m).2.1.length/\(∀j,j<i->kz n ((Xf n ps p m).2.1.getD j default).2=false)) (λi=>(Xf n ps p m).2.1.length-i) (0) (⟨Zb _,λj hj=>Ea hj (Ud j)⟩) kk ?_;rintro i ⟨hi,hI⟩;refine Wb ?_;refine Kb ?_ ?_<;>intro h1
 ·
  refine ce ?_;refine Fb (Ib func78) (P5 n hz1) ?_;refine Fb KH (JH ((Xf n ps p m).2.1.getD i default).1 ((Xf n ps p m).2.1.getD i default).2 (dp n)) ?_;refine Cb ?_;refine We ?_ ?_<;>intro h2
  ·
   have hx:Uk n ps p m=(i:Int):=oi (p:=(λa:Int×List Rw=>kz n a.2)) (i:=i) Za hI Gb;refine Wb ?_;refine Db ?_
   have e1:Sj n ps p m=(Xf n ps p m).1.take i:=by
    unfold Sj;rw[Ba hc,Ca Za,hx];rfl
   have e2:Ci n ps p m=0:=by
    unfold Ci;rw[Ba hc,Ca Za]
   exact f9 rfl rfl (by rw[e1,e2];exact⟨Ob.one (iS (by rw[Ae];dsimp only [ep,bh];omega) (λa j=>by first|rfl|(simp;rfl))),Sa,Aa⟩)
  refine Mb ?_;refine Rb (i+1) kk ?_;refine⟨by omega,λj hj=>?_⟩;by_cases e:j=i
  .rw[e];assumption
  exact hI j Za
 have hx:Uk n ps p m<0:=by
  have:Uk n ps p m=-1:=p8 (p:=(λa:Int×List Rw=>kz n a.2)) λj hj=>hI j Za;omega
 refine Mb ?_;refine Db ?_
 have e1:Sj n ps p m=[]:=by
  unfold Sj;rw[Ba hc,Ba hx]
 have e2:Ci n ps p m=11:=by
  unfold Ci;rw[Ba hc,Ba hx]
 exact f9 rfl rfl (by rw[e1,e2];exact⟨Ob.one (Wa rfl (.inr rfl) (λ_=>rfl) (λi j hi _=>Ea hi (Ud i))),Sa,Aa⟩)
def wY (n:Int) (ps:List AS) (p m:List Fd):a6 Ab 15 [pI n,pP (Cd ps),pP (Ub p),pP (Ub m)] (a7 [pB (Te n ps p m),pI (Zd n ps p m)]):=by
 refine Nb (nt:=25) func15 ?_;refine dg ?_;refine Fb (Ib func38) (bdn n ps p m) ?_;refine fy ?_;refine Kb ?_ ?_<;>intro h0
 .refine Eb ?_;refine Db ?_;obtain⟨e1,e2⟩:=P2 (n:=n) (ps:=ps) (p:=p) (m:=m) Gb;exact f9 rfl rfl (⟨Vb e1.symm,Sb e2.symm,Aa⟩)
 refine Cc ?_;refine Db ?_;obtain⟨e1,e2⟩:=UZ (n:=n) (ps:=ps) (p:=p) (m:=m) Gb;exact f9 rfl rfl (⟨Vb e1,Sb e2,Aa⟩)
end
inductive Lf (l:List Fd):AS->AS->Prop
 |leaf {s:AS}:gv l s=false->Lf l s s
 |left {s q:AS}:gv l s=true->Lf l (Tk l s) q->Lf l s q
 |right {s q:AS}:gv l s=true->Lf l (Cl l s) q->Lf l s q
def iN (l:List Fd):Nat->AS->List AS
 |0,s=>[s]
 |k+1,s=>if gv l s=true then iN l k (Tk l s)++iN l k (Cl l s) else[s]
section
open Go.Proofs
def u8A(b:BitVec 8):AS:=b.setWidth 32
abbrev UB:BitVec 8->Nat->PV:=λb _=>.raw (.int .u8 (b.toNat:Int))
end
structure Bg where
 n:BitVec 8
 f:List Dp
 m:List Dp
 p:List (BitVec 8)
deriving Inhabited
def Bg.num(d:Bg)(k:Nat):Int:=1+((d.n.toNat%k:Nat):Int)
abbrev Bg.pc(d:Bg):PC:=.agg [.raw (.int .u8 (d.n.toNat:Int)),Tu d.f,Tu d.m,Ff 1 UB d.p]
def Ou(n:Int)(b:BitVec 8):AS:=b.setWidth 32&&&ak n
def XG{a b c:Nat}:(bif bif decide ((a:Int)<=4)then decide ((b:Int)<=4)else false then decide ((c:Int)<=3)else false)=decide (a<=4/\b<=4/\c<=3):=by
 rw[Ko,Ia];by_cases h1:(a:Int)<=4
 .by_cases h2:(b:Int)<=4
  .rw[Fa h1,Fa h2,cond_true,cond_true,Ia];omega
  rw[Fa h1,Ha h2,cond_true,cond_false];exact⟨(λh=>by cases h),(λh=>by omega)⟩
 rw[Ha h1,cond_false,cond_false];exact⟨(λh=>by cases h),(λh=>by omega)⟩
section
open Go.Proofs
def pY(d:Bg)(hf:d.f.length<=16777216)(hm:d.m.length<=16777216)(hp:d.p.length<=16777216):a6 Ab 19 [d.pc,pI 4] (a7 [pI (d.num 4),pP (Ub (d.f.map (Dp.fd (d.num 4)))),pP (Ub (d.m.map (Dp.fd (d.num 4)))),pP (Cd (d.p.map (Ou (d.num 4)))),pB (decide (d.f.length<=4/\d.m.length<=4/\d.p.length<=3))]):=by
 refine Nb (nt:=118) func19 ?_;refine Rc ?_;refine m9 0 ?_;refine Sq ?_;refine Fb vq (ve (d.num 4)) ?_;refine fy ?_;refine d9 11 900 true 2 52 (lf Fd.c []) Zc rfl Ya (.inr rfl) rfl ?_;refine bz (ka 2 (ka 9 (ka 10 kn))) (kb 0 km) (λi=>⟨[(11,some (.v (.one (.ref 900 ((d.f.take i).map (Dp.fd (d.num 4))).length)))),(12,some (vI i))],[(900,some (.arr true 2 52 ((d.f.take i).map (Dp.fd (d.num 4))).length (lf Fd.c ((d.f.take i).map (Dp.fd (d.num 4))))))]⟩) d.f.length kk ?_;rintro i hi;have hlen:((d.f.take i).map (Dp.fd (d.num 4))).length<=i:=by rw[Yd,Ae];omega
 refine Cc ?_;refine Kb ?_ ?_<;>intro h0
 .refine LM ?_;refine m9 1 ?_;refine Ed 2 true ?_;refine Wb ?_;exact Ld (i+1) ⟨⟨⟨_,rfl,(d6 (vj Za))⟩,tt⟩,⟨⟨_,rfl,(j7 (vj Za) (Va (Da (λz=>PV.raw (.int .u32 z)) (HA _ _))) (Va (Da (λz=>PV.raw (.int .u32 z)) (HA _ _))))⟩,uu⟩⟩
 obtain rfl:i=d.f.length:=by omega
 refine Cb ?_;refine b5 11 rfl rfl rfl ?_;refine Cc ?_;refine d9 13 901 true 2 54 (lf Fd.c []) Zc rfl Ya (.inr rfl) rfl ?_;refine bz (ka 2 (ka 9 (ka 10 (ka 11 kn)))) (kb 0 km) (λi=>⟨[(13,some (.v (.one (.ref 901 ((d.m.take i).map (Dp.fd (d.num 4))).length)))),(14,some (vI i))],[(901,some (.arr true 2 54 ((d.m.take i).map (Dp.fd (d.num 4))).length (lf Fd.c ((d.m.take i).map (Dp.fd (d.num 4))))))]⟩) d.m.length kk ?_;rintro i hi;have hlen:((d.m.take i).map (Dp.fd (d.num 4))).length<=i:=by rw[Yd,Ae];omega
 refine Cc ?_;refine Kb ?_ ?_<;>intro h1
 .refine LM ?_;refine m9 3 ?_;refine Ed 4 true ?_;refine Wb ?_;exact Ld (i+1) ⟨⟨⟨_,rfl,(d6 (vj Za))⟩,tt⟩,⟨⟨_,rfl,(j7 (vj Za) (Va (Da (λz=>PV.raw (.int .u32 z)) (HA _ _))) (Va (Da (λz=>PV.raw (.int .u32 z)) (HA _ _))))⟩,uu⟩⟩
 obtain rfl:i=d.m.length:=by omega
 refine Cb ?_;refine b5 13 rfl rfl rfl ?_;refine Cc ?_;refine d9 15 902 true 1 48 (lf sC []) Zc rfl Ya (.inr rfl) rfl ?_;refine bz (ka 2 (ka 9 (ka 10 (ka 11 (ka 13 kn))))) (kb 0 km) (λi=>⟨[(15,some (.v (.one (.ref 902 ((d.p.take i).map (Ou (d.num 4))).length)))),(16,some (vI i))],[(902,some (.arr true 1 48 ((d.p.take i).map (Ou (d.num 4))).length (lf sC ((d.p.take i).map (Ou (d.num 4))))))]⟩) d.p.length kk ?_;rintro i hi;have hlen:((d.p.take i).map (Ou (d.num 4))).length<=i:=by rw[Yd,Ae];omega
 refine Cc ?_;refine Kb ?_ ?_<;>intro h2
 .refine jq ?_;refine m9 5 ?_;refine Ed 6 true ?_;refine Jb ?_;exact Ld (i+1) ⟨⟨⟨_,rfl,(d6 (vj Za))⟩,tt⟩,⟨⟨_,rfl,(cr (vj Za) (Va (Da (λz=>PV.raw (.int .u32 z)) (HA _ _))))⟩,uu⟩⟩
 obtain rfl:i=d.p.length:=by omega
 refine Cb ?_;refine b5 15 rfl rfl rfl ?_;refine Cc ?_;refine af rfl rfl ?_ ?_<;>intro r3
 ·
  have h3:=Bc r3;(iterate 3 refine qy ?_ (hg:=(Lc r3)));refine Cb ?_;refine af rfl rfl ?_ ?_<;>intro r4
  ·
   have h4:=Bc (bp r3 r4);(iterate 3 refine qy ?_ (hg:=(Lc r4)));refine Jb ?_
   exact Nc rfl rfl rfl (⟨Sa,(by rw[Id];exact Sa),(by rw[Id];exact Sa),(by rw[Id];exact Sa),Vb (by first|(simp only[Yd,Id];exact XG)|exact(Ha Za).symm),Aa⟩)
  have h4:=Ac (bp r3 r4);(iterate 3 refine k9 (Vd r4) ?_);refine Jb ?_
  exact Nc rfl rfl rfl (⟨Sa,(by rw[Id];exact Sa),(by rw[Id];exact Sa),(by rw[Id];exact Sa),Vb (by first|(simp only[Yd,Id];exact XG)|exact(Ha Za).symm),Aa⟩)
 have h3:=Ac r3;(iterate 3 refine k9 (Vd r3) ?_);refine Cb ?_;(iterate 3 refine k9 rfl ?_);refine Jb ?_
 exact Nc rfl rfl rfl (⟨Sa,(by rw[Id];exact Sa),(by rw[Id];exact Sa),(by rw[Id];exact Sa),Vb (by first|(simp only[Yd,Id];exact XG)|exact(Ha Za).symm),Aa⟩)
end
section
section
variable {a b:Int}
def ZT{n:Int}{l:List Rw}{p m:List Fd}{mu:Bool}{i:Int}(h:¬Pg n l p m=0):ec n l p m mu i a b=(0,[],Pg n l p m):=Ca h
def n7{n:Int}{l:List Rw}{p m:List Fd}{mu:Bool}{i:Int}(h:Pg n l p m=0)(h3:ik l p m mu i a b):ec n l p m mu i a b=(0,[],1):=(Ba h).trans (Ba h3)
def RJ{n:Int}{l:List Rw}{p m:List Fd}{mu:Bool}{i:Int}(h:Pg n l p m=0)(h3:¬ik l p m mu i a b):ec n l p m mu i a b=du n l p m (mu,i.toNat,a.toNat,b.toNat):=(Ba h).trans (Ca h3)
def pn(h:(if b<a then b else a)<0):a<0\/b<0:=by split at h<;>omega
def po{k:Int}(h:k<=(if a<b then b else a)):k<=a\/k<=b:=by split at h<;>omega
def OP(h:¬(if b<a then b else a)<0):0<=a/\0<=b:=by split at h<;>omega
def QO{k:Int}(h:¬k<=(if a<b then b else a)):a<k/\b<k:=by split at h<;>omega
def stQ(x y:St):Bool:=(x.1==y.1)&&(decide ((x.2.1:Int)=(y.2.1:Int))&&(decide ((x.2.2.1:Int)=(y.2.2.1:Int))&&decide ((x.2.2.2:Int)=(y.2.2.2:Int))))
end
end
end Go.Hx

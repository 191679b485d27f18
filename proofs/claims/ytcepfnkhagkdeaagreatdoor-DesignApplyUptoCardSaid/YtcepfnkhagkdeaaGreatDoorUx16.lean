/- A part of the proof: X31 Cc4 Ds1 Rb27 RbA Da1 Da2 Sp1 Sp2 Sp3 Sp4. -/
import Derived.Lib.Join
import Derived.Test.YtcepfnkhagkdeaaGreatDoorUx15
set_option linter.all false
open Go.Proofs.Tryz
set_option maxRecDepth 100000
set_option maxHeartbeats 1000000
namespace Go.Hx
section
open Go.Proofs
def b6c(n:Int)(l:List Rw)(p m:List Fd)(i a b:Int):a6 Ab 150 [pT n l,pP (Ub p),pP (Ub m), .agg [.raw (.bool true), .raw (.int .i64 i), .raw (.int .i64 a), .raw (.int .i64 b)]] (a7 [pT (ec n l p m true i a b).1 (ec n l p m true i a b).2.1,pI (ec n l p m true i a b).2.2]):=by
 refine Nb (nt:=69) func150 ?_;refine Rc ?_;refine m9 0 ?_;refine m9 1 ?_;refine m9 2 ?_;refine Wb ?_;refine Fb OI (AJ n l p m) ?_;refine Jb ?_;refine Sc ?_ ?_<;>intro h0
 .refine Jb ?_;refine Db ?_;have he:=ZT (n:=n) (l:=l) (p:=p) (m:=m) (mu:=true) (i:=i) (a:=a) (b:=b) Gb;exact f9 rfl rfl (by rw[he];exact⟨Ob.agg ⟨Ra,bn,Aa⟩,Sa,Aa⟩)
 have hck:Pg n l p m=0:=by assumption
 obtain⟨hT,hbe,hpa⟩:=XD hck;refine xM ?_;refine af rfl rfl ?_ ?_<;>intro r1
 ·
  have h1:=Bc r1;(iterate 4 refine k9 (Yc r1) ?_);refine Cb ?_;(iterate 5 refine k9 rfl ?_);refine Cb ?_;(iterate 6 refine k9 rfl ?_);refine Cb ?_;(iterate 9 refine k9 rfl ?_);refine Cc ?_;refine Db ?_
  have hbad:ik l p m true i a b:=by
   first
    |exact Me
    |(refine(pn (a:=a) (b:=b) ?_).elim (λhq=>?_) (λhq=>?_)<;>first|assumption|exact Me)
    |(refine(po (a:=a) (b:=b) (k:=(l.length:Int)) ?_).elim (λhq=>?_) (λhq=>?_)<;>first|assumption|exact Me)
  have he:=n7 hck hbad;exact f9 rfl rfl (by rw[he];exact⟨Ob.agg ⟨Ra,bn,Aa⟩,Sa,Aa⟩)
 have h1:=Ac r1;(iterate 4 refine qy ?_ (hg:=(Jc r1)));refine Cb ?_;refine af rfl rfl ?_ ?_<;>intro r2
 ·
  have h2:=Bc (ai r1 r2);(iterate 5 refine k9 (Yc r2) ?_);refine Cb ?_;(iterate 6 refine k9 rfl ?_);refine Cb ?_;(iterate 9 refine k9 rfl ?_);refine Cc ?_;refine Db ?_
  have hbad:ik l p m true i a b:=by
   first
    |exact Me
    |(refine(pn (a:=a) (b:=b) ?_).elim (λhq=>?_) (λhq=>?_)<;>first|assumption|exact Me)
    |(refine(po (a:=a) (b:=b) (k:=(l.length:Int)) ?_).elim (λhq=>?_) (λhq=>?_)<;>first|assumption|exact Me)
  have he:=n7 hck hbad;exact f9 rfl rfl (by rw[he];exact⟨Ob.agg ⟨Ra,bn,Aa⟩,Sa,Aa⟩)
 have h2:=Ac (ai r1 r2);(iterate 5 refine qy ?_ (hg:=(Jc r2)));refine Cb ?_;refine af rfl rfl ?_ ?_<;>intro r3
 ·
  have h3:=Bc (ai r2 r3);(iterate 6 refine k9 (Yc r3) ?_);refine Cb ?_;(iterate 9 refine k9 rfl ?_);refine Cc ?_;refine Db ?_
  have hbad:ik l p m true i a b:=by
   first
    |exact Me
    |(refine(pn (a:=a) (b:=b) ?_).elim (λhq=>?_) (λhq=>?_)<;>first|assumption|exact Me)
    |(refine(po (a:=a) (b:=b) (k:=(l.length:Int)) ?_).elim (λhq=>?_) (λhq=>?_)<;>first|assumption|exact Me)
  have he:=n7 hck hbad;exact f9 rfl rfl (by rw[he];exact⟨Ob.agg ⟨Ra,bn,Aa⟩,Sa,Aa⟩)
 have h3:=Ac (ai r2 r3);(iterate 6 refine qy ?_ (hg:=(Jc r3)));refine Cb ?_;refine af rfl rfl ?_ ?_<;>intro r4
 ·
  have h4:=Bc (ai r3 r4);(iterate 9 refine k9 (Yc r4) ?_);refine Cc ?_;refine Db ?_
  have hbad:ik l p m true i a b:=by
   first
    |exact Me
    |(refine(pn (a:=a) (b:=b) ?_).elim (λhq=>?_) (λhq=>?_)<;>first|assumption|exact Me)
    |(refine(po (a:=a) (b:=b) (k:=(l.length:Int)) ?_).elim (λhq=>?_) (λhq=>?_)<;>first|assumption|exact Me)
  have he:=n7 hck hbad;exact f9 rfl rfl (by rw[he];exact⟨Ob.agg ⟨Ra,bn,Aa⟩,Sa,Aa⟩)
 have h4:=Ac (ai r3 r4);(iterate 9 refine qy ?_ (hg:=(Jc r4)));refine Cb ?_;refine aj _ rfl ?_ ?_<;>intro r5
 ·
  have h5:=Bc (ai r4 r5);refine Mb ?_;refine Db ?_
  have hbad:ik l p m true i a b:=by
   first
    |exact Me
    |(refine(pn (a:=a) (b:=b) ?_).elim (λhq=>?_) (λhq=>?_)<;>first|assumption|exact Me)
    |(refine(po (a:=a) (b:=b) (k:=(l.length:Int)) ?_).elim (λhq=>?_) (λhq=>?_)<;>first|assumption|exact Me)
  have he:=n7 hck hbad;exact f9 rfl rfl (by rw[he];exact⟨Ob.agg ⟨Ra,bn,Aa⟩,Sa,Aa⟩)
 have h5:=Ac (ai r4 r5);refine Cb ?_;obtain⟨ha0,hb0⟩:=OP (a:=a) (b:=b) Gb;obtain⟨hal,hbl⟩:=QO (a:=a) (b:=b) (k:=(l.length:Int)) Gb
 have hnb:¬ik l p m true i a b:=by
  unfold ik;rintro(h|h|h|h|h|h|⟨h,h2⟩|⟨h,h2⟩)<;>first|omega|cases h
 have ha:a.toNat<l.length:=by omega
 have hb:b.toNat<l.length:=by omega
 have hi:i.toNat<m.length:=by omega
 refine Eb ?_;refine rc rfl rfl rfl rfl rfl rfl EI (SQ n l p m i.toNat a.toNat b.toNat hT ha hb hi) (⟨Sa,Sa,Sa,Ob.agg ⟨Ra,Va (by rw[Fv Za]),Va (by rw[Fv Za]),Va (by rw[Fv Za]),Aa⟩,Aa⟩) rfl rfl ?_;refine Eb ?_;refine Db ?_;have he:=RJ (n:=n) (i:=i) (a:=a) (b:=b) hck hnb;exact f9 rfl rfl (by rw[he];exact Ta)
def b52(n:Int)(l:List Rw)(p m:List Fd)(i a b:Int):a6 Ab 150 [pT n l,pP (Ub p),pP (Ub m), .agg [.raw (.bool false), .raw (.int .i64 i), .raw (.int .i64 a), .raw (.int .i64 b)]] (a7 [pT (ec n l p m false i a b).1 (ec n l p m false i a b).2.1,pI (ec n l p m false i a b).2.2]):=by
 refine Nb (nt:=69) func150 ?_;refine Rc ?_;refine m9 0 ?_;refine m9 1 ?_;refine m9 2 ?_;refine Wb ?_;refine Fb OI (AJ n l p m) ?_;refine Jb ?_;refine Sc ?_ ?_<;>intro h0
 .refine Jb ?_;refine Db ?_;have he:=ZT (n:=n) (l:=l) (p:=p) (m:=m) (mu:=false) (i:=i) (a:=a) (b:=b) Gb;exact f9 rfl rfl (by rw[he];exact⟨Ob.agg ⟨Ra,bn,Aa⟩,Sa,Aa⟩)
 have hck:Pg n l p m=0:=by assumption
 obtain⟨hT,hbe,hpa⟩:=XD hck;refine iA ?_;refine af rfl rfl ?_ ?_<;>intro r1
 ·
  have h1:=Bc r1;(iterate 4 refine k9 (Yc r1) ?_);refine Cb ?_;(iterate 5 refine k9 rfl ?_);refine Cb ?_;(iterate 6 refine k9 rfl ?_);refine Cb ?_;(iterate 9 refine k9 rfl ?_);refine Cc ?_;refine Db ?_
  have hbad:ik l p m false i a b:=by
   first
    |exact Me
    |(refine(pn (a:=a) (b:=b) ?_).elim (λhq=>?_) (λhq=>?_)<;>first|assumption|exact Me)
    |(refine(po (a:=a) (b:=b) (k:=(l.length:Int)) ?_).elim (λhq=>?_) (λhq=>?_)<;>first|assumption|exact Me)
  have he:=n7 hck hbad;exact f9 rfl rfl (by rw[he];exact⟨Ob.agg ⟨Ra,bn,Aa⟩,Sa,Aa⟩)
 have h1:=Ac r1;(iterate 4 refine qy ?_ (hg:=(Jc r1)));refine Cb ?_;refine af rfl rfl ?_ ?_<;>intro r2
 ·
  have h2:=Bc (ai r1 r2);(iterate 5 refine k9 (Yc r2) ?_);refine Cb ?_;(iterate 6 refine k9 rfl ?_);refine Cb ?_;(iterate 9 refine k9 rfl ?_);refine Cc ?_;refine Db ?_
  have hbad:ik l p m false i a b:=by
   first
    |exact Me
    |(refine(pn (a:=a) (b:=b) ?_).elim (λhq=>?_) (λhq=>?_)<;>first|assumption|exact Me)
    |(refine(po (a:=a) (b:=b) (k:=(l.length:Int)) ?_).elim (λhq=>?_) (λhq=>?_)<;>first|assumption|exact Me)
  have he:=n7 hck hbad;exact f9 rfl rfl (by rw[he];exact⟨Ob.agg ⟨Ra,bn,Aa⟩,Sa,Aa⟩)
 have h2:=Ac (ai r1 r2);(iterate 5 refine qy ?_ (hg:=(Jc r2)));refine Cb ?_;refine af rfl rfl ?_ ?_<;>intro r3
 ·
  have h3:=Bc (ai r2 r3);(iterate 6 refine k9 (Yc r3) ?_);refine Cb ?_;(iterate 9 refine k9 rfl ?_);refine Cc ?_;refine Db ?_
  have hbad:ik l p m false i a b:=by
   first
    |exact Me
    |(refine(pn (a:=a) (b:=b) ?_).elim (λhq=>?_) (λhq=>?_)<;>first|assumption|exact Me)
    |(refine(po (a:=a) (b:=b) (k:=(l.length:Int)) ?_).elim (λhq=>?_) (λhq=>?_)<;>first|assumption|exact Me)
  have he:=n7 hck hbad;exact f9 rfl rfl (by rw[he];exact⟨Ob.agg ⟨Ra,bn,Aa⟩,Sa,Aa⟩)
 have h3:=Ac (ai r2 r3);(iterate 6 refine qy ?_ (hg:=(Jc r3)));refine Cb ?_;refine af rfl rfl ?_ ?_<;>intro r4
 ·
  have h4:=Bc (ai r3 r4);(iterate 9 refine k9 (Yc r4) ?_);refine Cc ?_;refine Db ?_
  have hbad:ik l p m false i a b:=by
   first
    |exact Me
    |(refine(pn (a:=a) (b:=b) ?_).elim (λhq=>?_) (λhq=>?_)<;>first|assumption|exact Me)
    |(refine(po (a:=a) (b:=b) (k:=(l.length:Int)) ?_).elim (λhq=>?_) (λhq=>?_)<;>first|assumption|exact Me)
  have he:=n7 hck hbad;exact f9 rfl rfl (by rw[he];exact⟨Ob.agg ⟨Ra,bn,Aa⟩,Sa,Aa⟩)
 have h4:=Ac (ai r3 r4);(iterate 9 refine qy ?_ (hg:=(Jc r4)));refine Cb ?_;refine aj _ rfl ?_ ?_<;>intro r5
 ·
  have h5:=Bc (ai r4 r5);refine Mb ?_;refine Db ?_
  have hbad:ik l p m false i a b:=by
   first
    |exact Me
    |(refine(pn (a:=a) (b:=b) ?_).elim (λhq=>?_) (λhq=>?_)<;>first|assumption|exact Me)
    |(refine(po (a:=a) (b:=b) (k:=(l.length:Int)) ?_).elim (λhq=>?_) (λhq=>?_)<;>first|assumption|exact Me)
  have he:=n7 hck hbad;exact f9 rfl rfl (by rw[he];exact⟨Ob.agg ⟨Ra,bn,Aa⟩,Sa,Aa⟩)
 have h5:=Ac (ai r4 r5);refine Cb ?_;obtain⟨ha0,hb0⟩:=OP (a:=a) (b:=b) Gb;obtain⟨hal,hbl⟩:=QO (a:=a) (b:=b) (k:=(l.length:Int)) Gb
 have hnb:¬ik l p m false i a b:=by
  unfold ik;rintro(h|h|h|h|h|h|⟨h,h2⟩|⟨h,h2⟩)<;>first|omega|cases h
 have ha:a.toNat<l.length:=by omega
 have hb:b.toNat<l.length:=by omega
 have hi:i.toNat<p.length:=by omega
 refine Eb ?_;refine rc rfl rfl rfl rfl rfl rfl EI (QR n l p m i.toNat a.toNat b.toNat hT ha hb hi (Ze.1 hpa _ (dw hi))) (⟨Sa,Sa,Sa,Ob.agg ⟨Ra,Va (by rw[Fv Za]),Va (by rw[Fv Za]),Va (by rw[Fv Za]),Aa⟩,Aa⟩) rfl rfl ?_;refine Eb ?_;refine Db ?_;have he:=RJ (n:=n) (i:=i) (a:=a) (b:=b) hck hnb;exact f9 rfl rfl (by rw[he];exact Ta)
end
section
open Go.Proofs
def C6 (d:Bg) {k:Nat} (hk:0<k):1<=d.num k/\d.num k<=k:=by
 have:=Gm d.n.toNat hk;unfold Bg.num;omega
abbrev Bg.fs(d:Bg)(k:Nat):List Fd:=d.f.map (Dp.fd (d.num k))
abbrev Bg.ms(d:Bg)(k:Nat):List Fd:=d.m.map (Dp.fd (d.num k))
abbrev Bg.ps(d:Bg)(k:Nat):List AS:=d.p.map (Ou (d.num k))
abbrev Bg.t0(d:Bg)(k:Nat):List Rw:=ax (bf (d.num k) (d.ps k))
def CS {a b:AS}:sub (a&&&b) b:=ci.2 λi hi e=>by
 rw[Hg,Od]at e;exact e.2
def EN{n:Int}(h0:0<=n)(h16:n<=16)(x:Dp):Ue n (x.fd n)=true:=(pw h0 h16).2 ⟨CS,CS⟩
def bbb(d:Bg){k:Nat}(hk:0<k/\k<=5)(hf:d.f.length<=4)(hm:d.m.length<=4):c8 (d.num k) (d.fs k) (d.ms k)=0:=by
 obtain⟨h1,h2⟩:=C6 d hk.1
 have hv:br (d.num k) (d.fs k)=0:=by
  unfold br
  rw [Ca Za,Ca Uh,Ba (Ze.2 λx hx=>by
   obtain⟨y,_,rfl⟩:=Ad.1 hx
   exact EN Za Za y)]
 exact (XH hv Uh λj hj=>by
  obtain⟨y,_,e⟩:=Ad.1 (dw hj);rw[<- e]
  exact EN Za Za y).symm
section
variable {n:Int}{p m:List Fd}{l0 l:List Rw}
end
def F9 (n:Int) (l:List Rw) (p m:List Fd) (mu:Bool) (i a b:Int):a6 Ab 150 [pT n l,pP (Ub p),pP (Ub m), .agg [.raw (.bool mu), .raw (.int .i64 i), .raw (.int .i64 a), .raw (.int .i64 b)]] (a7 [pT (ec n l p m mu i a b).1 (ec n l p m mu i a b).2.1,pI (ec n l p m mu i a b).2.2]):=by
 cases mu with
 |false=>exact b52 n l p m i a b
 |true=>exact b6c n l p m i a b
def b2g{n:Int}{l:List Rw}{p m:List Fd}{s:St}(hT:Bd n l=true)(hb:c8 n p m=0)(h:yt l p m s):ec n l p m s.1 s.2.1 s.2.2.1 s.2.2.2=du n l p m s:=by
 obtain⟨mu,i,a,b⟩:=s;have hck:Pg n l p m=0:=(Ba hT).trans hb;obtain⟨ha,hbb,h⟩:=h;have ha:a<l.length:=ha;have hbb:b<l.length:=hbb
 have hne:¬a=b:=by
  rintro rfl
  rcases h with⟨_,_,h⟩|⟨_,_,h⟩
  .rw[show fb l (p.getD i default) a a=false from zL]at h;cases h
  rw[show fk l (m.getD i default) a a=false from rL ha]at h;cases h
 show ec n l p m mu (i:Int) (a:Int) (b:Int)=_;rw[RJ hck]
 .rfl
 unfold ik
 rcases h with⟨h1,h2,_⟩|⟨h1,h2,_⟩
 .have h1:mu=false:=h1
  subst h1;have h2:i<p.length:=h2;rintro(h|h|h|h|h|h|⟨h,h3⟩|⟨h,h3⟩)<;>first|omega|cases h
 have h1:mu=true:=h1;subst h1;have h2:i<m.length:=h2;rintro(h|h|h|h|h|h|⟨h,h3⟩|⟨h,h3⟩)<;>first|omega|cases h
def ayc (n:Int) (l:List Rw) (p m:List Fd) (s:St) (hT:Bd n l=true) (hb:c8 n p m=0) (h:yt l p m s) (he:du n l p m s=(n,(du n l p m s).2.1,0)):a6 Ab 150 [pT n l,pP (Ub p),pP (Ub m),s.pc] (a7 [pT n (du n l p m s).2.1,pI 0]):=by
 have:=F9 n l p m s.1 s.2.1 s.2.2.1 s.2.2.2;rw[b2g hT hb h,he]at this;exact this
end
section
abbrev Bs:=ByteArray
def Vo:Bs->Nat->PV:=λb _=>.raw (.string b)
abbrev Uo(l:List Bs):PV:=Ff 1 Vo l
def SX:UInt8->Nat->PV:=λx _=>.raw (.int .u8 (x.toNat:Int))
abbrev jN(b:Bs):PV:=Ff 1 SX b.data.toList
abbrev RF(x:UInt8):PC:=.one (.raw (.int .u8 (x.toNat:Int)))
def Wk{α:Type}[Inhabited α]{s:Nat}{c:α->Nat->PV}{f:Nat->Nat->PV}:Fc (.sl 0 0 true f) (Ff s c []):=Wa rfl (.inr rfl) (λh=>by cases h) λi j hi _=>Ea hi (Ud i)
def kA(x:UInt8):Bool:=decide ((x.toNat:Int)<=32)||decide ((x.toNat:Int)=127)
def tc(l:List Bs)(i:Nat):Bool:=decide (l.getD i default=⟨#[]⟩)||((l.getD i default).data.toList.any kA||(l.take i).any λx=>decide (x=l.getD i default))
def nj(l:List Bs):Int:=if 16<l.length then 3 else if(List.range l.length).any (tc l)=true then 1 else 0
section
variable {l:List Bs}
def oG {i:Nat} (h0:¬(16:Int)<l.length) (hi:i<l.length) (h:tc l i=true):nj l=1:=by
 unfold nj;rw[Ca Za,Ba (Yf.2 ⟨i,Fe.2 hi,h⟩)]
def hY (h0:¬(16:Int)<l.length) (h:∀j,j<l.length->tc l j=false):nj l=0:=by
 unfold nj;rw[Ca Za,Ca];rw[Hz,Dk];intro j hj;rw[h j (Fe.1 hj)];exact Iz
def oZ(h:(16:Int)<l.length):nj l=3:=Ba Za
def Pn(l:List UInt8):Bs:=⟨l.toArray⟩
abbrev bL(b:Bs):List UInt8:=b.data.toList
def H0 (b:Bs):Pn (bL b)=b:=by
 cases b;simp[Pn]
def Wt(l:List Bs)(sep:Bs):Bs:=Pn (Lib.join (l.map bL) (bL sep))
def wt(l:List Bs)(s:AS):List Bs:=(am s).map λi=>l.getD i default
def Si(l:List Bs)(s:AS):Bs:=if(wt l s).length=0 then⟨#[45]⟩else Wt (wt l s) ⟨#[44]⟩
def Cf(l:List Bs):Nat:=(l.map ByteArray.size).sum
def KD(b:Bs):(bL b).length=b.size:=rfl
def b50(l:List Bs)(sep:List UInt8):(Lib.join (l.map bL) sep).length<=Cf l+sep.length*l.length:=by
 cases l with
 |nil=>simp[Lib.join_nil]
 | cons x r =>
  rw[Wh,Lib.join_cons,Uc,Lib.joinTail_length]
  have:Lib.lens (r.map bL)=Cf r:=by
   unfold Lib.lens Cf;rw[Js];rfl
  rw[this,Yd];have h2:Cf (x::r)=x.size+Cf r:=by simp[Cf]
  rw[h2,KD,Zf,Nat.mul_succ];omega
def iT{s:AS}{m:Nat}(h:∀b∈l,b.size<=m):Cf (wt l s)<=m*32:=by
 have key:∀q:List Nat,Cf (q.map λi=>l.getD i default)<=m*q.length:=by
  intro q
  induction q with
  |nil=>simp[Cf]
  | cons i q ih =>
   have h1:(l.getD i default).size<=m:=by
    rw[Oc]
    cases hi:l[i]? with
    |none=>exact Zb _
    |some b=>exact h b (List.mem_of_getElem? hi)
   have h2:Cf ((i::q).map λi=>l.getD i default)=(l.getD i default).size+Cf (q.map λi=>l.getD i default):=by simp[Cf]
   rw[h2,Zf,Nat.mul_succ];omega
 exact Nd (key _) (Nat.mul_le_mul_left _ (ot s))
def bf1{s:AS}{m:Nat}(h:∀b∈l,b.size<=m):(Si l s).size<=m*32+33:=by
 unfold Si;split
 .show 1<=_
  omega
 show(Pn _).size<=_;have h1:=b50 (wt l s) [44];have h2:=iT (s:=s) h;have h3:(wt l s).length<=32:=by unfold wt;rw[Yd];exact ot s
 have h4:(Pn (Lib.join ((wt l s).map bL) (bL ⟨#[44]⟩))).size=(Lib.join ((wt l s).map bL) [44]).length:=rfl;rw[h4];simp only[Yk,Nat.one_mul]at h1;omega
end
end
section
open Go.Proofs Go.Proofs.YtcepfnkhagkdeaaGreatDoor
open Go.RowKit Go.ChangeShapes Go.WideShapes Go.ChangeAt
def XB:Rd Ab 5 1 UB:=(KN underlying5).co (λu=>u.toBitVec) λa j hj=>Ra
def mZ:Nk Ab 102 2 Dp.c λ_ _=>True:=by
 intro H enc w sp held fuel cs x h;obtain⟨hl,n,hf⟩:=b5v underlying102 h;obtain⟨y0,e0⟩:=hf 0 Za;obtain⟨y1,e1⟩:=hf 1 Za;have hc:Ab.cellsOf 5=1:=by kernel_rfl
 obtain⟨a0,_,h0⟩:=mt (off:=0) (λ_ _ _ _ _=>trivial) XB.toB (by simpa using e0);obtain⟨a1,_,h1⟩:=mt (off:=1) (λ_ _ _ _ _=>trivial) XB.toB (by simpa [hc]using e1);refine⟨hl.trans Ol,(⟨a0,a1⟩:Dp),Aa,λj hj=>?_⟩
 match j,hj with
 |0,_=>exact h0 0 Za
 |1,_=>exact h1 0 Za
def JM:Nk Ab 25 1 (Rz 2 Dp.c) λb l=>l.length<=b :=
 (xK (B:=λ_ _=>True) (λ_ _ _ _ _=>trivial) underlying25 Ol Za mZ).co id (λb a h=>h.1) λa j hj=>Ra
def lY:Nk Ab 26 1 (Rz 1 UB) λb l=>l.length<=b :=
 (xK (B:=λ_ _=>True) (λ_ _ _ _ _=>trivial) underlying26 Ol Za XB.toB).co id (λb a h=>h.1) λa j hj=>Ra
abbrev Bg.c(d:Bg):Nat->PV:=λj=>[.raw (.int .u8 (d.n.toNat:Int)),Tu d.f,Tu d.m,Ff 1 UB d.p].getD j .any
def YY:Nk Ab 28 4 Bg.c λb d=>d.f.length<=b/\d.m.length<=b/\d.p.length<=b:=by
 intro H enc w sp held fuel cs x h;obtain⟨hl,n,hf⟩:=wV underlying28 h;obtain⟨y0,e0⟩:=hf 0 _ rfl;obtain⟨y1,e1⟩:=hf 1 _ rfl;obtain⟨y2,e2⟩:=hf 2 _ rfl;obtain⟨y3,e3⟩:=hf 3 _ rfl;obtain⟨a0,_,h0⟩:=mt (λ_ _ _ _ _=>trivial) XB.toB e0;obtain⟨a1,b1,h1⟩:=mt (B:=λb (l:List Dp)=>l.length<=b) (λ_ _ _ h k=>Nd k h) JM e1;obtain⟨a2,b2,h2⟩:=mt (B:=λb (l:List Dp)=>l.length<=b) (λ_ _ _ h k=>Nd k h) JM e2;obtain⟨a3,b3,h3⟩:=mt (B:=λb (l:List (BitVec 8))=>l.length<=b) (λ_ _ _ h k=>Nd k h) lY e3;refine⟨hl.trans Ol,(⟨a0,a1,a2,a3⟩:Bg),⟨b1,b2,b3⟩,λj hj=>?_⟩
 match j,hj with
 |0,_=>exact h0 0 Za
 |1,_=>exact h1 0 Za
 |2,_=>exact h2 0 Za
 |3,_=>exact h3 0 Za
end
section
open Go.Proofs Go.Proofs.YtcepfnkhagkdeaaGreatDoor
open Go.RowKit Go.ChangeShapes Go.WideShapes Go.ChangeAt
def nG:Rd Ab 5 1 SM:=(KN underlying5).co id λa j hj=>by obtain rfl:j=0:=Za;exact Ra
def H2:Rd Ab 26 1 ZF:=(b7c underlying26 Ol Za nG).co id λa j hj=>by obtain rfl:j=0:=Za;exact Ra
def C1:Nk Ab 22 1 (Rz 1 ZF) λb l=>l.length<=b :=
 (xK (B:=λ_ _=>True) (λ_ _ _ _ _=>trivial) underlying22 Ol Za H2.toB).co id (λb a h=>h.1) λa j hj=>Ra
def gZ:Nk Ab 24 3 jm.c λb x=>x.rows.length<=b:=by
 intro H enc w sp held fuel cs x h;obtain⟨hl,n,hf⟩:=wV underlying24 h;obtain⟨y0,e0⟩:=hf 0 _ rfl;obtain⟨y1,e1⟩:=hf 1 _ rfl;obtain⟨y2,e2⟩:=hf 2 _ rfl;obtain⟨a0,_,h0⟩:=mt (λ_ _ _ _ _=>trivial) nG.toB e0;obtain⟨a1,_,h1⟩:=mt (λ_ _ _ _ _=>trivial) nG.toB e1;obtain⟨a2,b2,h2⟩:=mt (B:=λb (l:List (List UInt8))=>l.length<=b) (λ_ _ _ h k=>Nd k h) C1 e2;refine⟨hl.trans Ol,(⟨a0,a1,a2⟩:jm),b2,λj hj=>?_⟩
 match j,hj with
 |0,_=>exact h0 0 Za
 |1,_=>exact h1 0 Za
 |2,_=>exact h2 0 Za
def VY:Rd Ab 4 1 aO:=O9 underlying4
def N7:Ab.readableRec 24=true/\24<Ab.types.size:=⟨by kernel_rfl,Ga Ol⟩
def I4:Ab.readableRec 28=true/\28<Ab.types.size:=⟨by kernel_rfl,Ga Ol⟩
def J3:Ab.readableRec 4=true/\4<Ab.types.size:=⟨by kernel_rfl,Ga Ol⟩
end
section
section
variable {α β:Type}[DecidableEq α][Inhabited α][Inhabited β][DecidableEq β]
def Fj(o:List α)(x:α):List α:=if x∈o then o else o++[x]
def Qc(A B:List α):List α:=B.foldl Fj A
section
variable {x:α}
def bcf{o:List α}{y:α}:y∈Fj o x<->y∈o\/y=x:=by
 unfold Fj;split
 .constructor
  .exact .inl
  rintro(h|rfl)<;>assumption
 simp
def bcs {o:List α} (h:o.Nodup):(Fj o x).Nodup:=by
 unfold Fj;split
 .exact h
 rename_i hx;rw[List.nodup_append];refine⟨h,by simp, ?_⟩;intro a ha b hb;simp at hb;subst hb;exactλe=>hx (e▸ha)
def bai {o:List α}:o <+: Fj o x:=by
 unfold Fj;split
 .exact List.prefix_refl _
 exact List.prefix_append _ _
theorem sc {x:α}:∀{B A:List α},x∈Qc A B<->x∈A\/x∈B
 | [],A=>by simp[Qc]
 | b::B,A=>by
  have:=@sc x B (Fj A b);unfold Qc at this ⊢;rw[List.foldl_cons,this,bcf,List.mem_cons]
  grind
def uk:∀{B A:List α},A.Nodup->(Qc A B).Nodup
 | [],A,h=>h
 | b::B,A,h=>by
  have:=@uk B (Fj A b) (bcs h);exact this
def x6:∀{B A:List α},A <+: Qc A B
 | [],A=>List.prefix_refl _
 | b::B,A=>by
  have:=@x6 B (Fj A b);exact bai.trans this
variable {A B:List α}{i:Nat}
def ES (h:i<B.length):Qc A (B.take (i+1))=Fj (Qc A (B.take i)) (B.getD i default):=by
 unfold Qc;rw[List.take_succ_eq_append_getElem h,List.foldl_append];simp[List.getD,h]
def gD{γ:Type}[Inhabited γ]{l:List γ}(h:i<l.length):l.getD i default=l[i]:=by simp[List.getD,h]
def O3 {γ:Type} [Inhabited γ] {l:List γ} {j:Nat} {v:γ} (h:j≠i):(l.set i v).getD j default=l.getD j default:=by
 rw[List.getD,List.getElem?_set_ne (λe=>h e.symm)];rfl
variable {l:List α}
def SR(h:x∈l):l.idxOf x<l.length:=List.idxOf_lt_length_iff.2 h
def Ku (h:x∈l):l.getD (l.idxOf x) default=x:=by
 have h1:=List.idxOf_lt_length_iff.2 h;rw[List.getD,Pa h1];simp
def qu (hn:l.Nodup) (h:i<l.length):l.idxOf (l.getD i default)=i:=by
 have hm:l.getD i default∈l:=by rw[List.getD,Pa h];exact List.getElem_mem h
 have h1:=List.idxOf_lt_length_iff.2 hm;have h2:=Ku hm;generalize l.idxOf (l.getD i default)=k at h1 h2;rw[gD h1,gD h]at h2;have hp:=List.pairwise_iff_getElem.1 hn
 rcases Nat.lt_trichotomy k i with h3|h3|h3
 .exact Ea h2 (hp k i h1 h h3)
 .exact h3
 exact Ea h2.symm (hp i k h h1 h3)
def o9 {f:α->β} (h:i<l.length):(l.map f).getD i default=f (l.getD i default):=by
 simp[List.getD,h]
def xA {l m:List β} (hl:l.length=m.length) (h:∀i,i<l.length->l.getD i default=m.getD i default):l=m:=List.ext_getElem hl λi h1 h2=>by
 have:=h i h1;simpa [List.getD,h1,h2]using this
def Je (va vb:List β) (pl:List Nat) (n:Nat):Nat->Option (List β)
 |0=>some (va++List.replicate (n-va.length) default)
 | i+1=>match Je va vb pl n i with
  |none=>none
  |some o=>if pl.getD i 0<va.length/\va.getD (pl.getD i 0) default≠vb.getD i default then none else some (o.set (pl.getD i 0) (vb.getD i default))
def Dn(A B:List α)(va vb:List β)(i:Nat)(x:α):β:=if x∈A then va.getD (A.idxOf x) default else if B.idxOf x<i then vb.getD (B.idxOf x) default else default
def Pd(A B:List α):List Nat:=B.map λx=>(Qc A B).idxOf x
def jE {C:List α} (h:A <+: C) (hx:x∈A):C.idxOf x=A.idxOf x:=by
 obtain⟨t,rfl⟩:=h;rw[List.idxOf_append,Ba hx]
def bel {C:List α} (h:A <+: C) (hx:x∉A):A.length<=C.idxOf x:=by
 obtain⟨t,rfl⟩:=h;rw[List.idxOf_append,Ca hx];omega
def RA (h:i<B.length):(Pd A B).getD i 0=(Qc A B).idxOf (B.getD i default):=by
 unfold Pd;simp[List.getD,h]
variable {va vb:List β}
def rH(hA:A.Nodup)(hB:B.Nodup)(la:va.length=A.length)(lb:vb.length=B.length):
 ∀{i:Nat},i<=B.length->(∀k,k<i->B.getD k default∈A->va.getD (A.idxOf (B.getD k default)) default=vb.getD k default)->Je va vb (Pd A B) (Qc A B).length i=some ((Qc A B).map (Dn A B va vb i))
 | 0,_,_=>by
  unfold Je;congr 1;obtain⟨t,ht⟩:=x6 (A:=A) (B:=B);have hlen:(Qc A B).length=A.length+t.length:=by rw[<- ht];simp
  have hN:(A++t).Nodup:=by rw[ht];exact uk hA
  refine xA (by simp;omega) λq hq=>?_;simp at hq;have hq2:q<(Qc A B).length:=by omega
  rw[o9 hq2,<- ht];by_cases h:q<A.length
  .have e:(A++t).getD q default=A.getD q default:=by simp[List.getD,List.getElem?_append_left h]
   rw[e];unfold Dn;have hm:A.getD q default∈A:=by rw[List.getD,Pa h];exact List.getElem_mem h
   rw[Ba hm,qu hA h];have hv:q<va.length:=by omega
   simp[List.getD,List.getElem?_append_left hv]
  have e:(A++t).getD q default=t.getD (q-A.length) default:=by simp[List.getD,List.getElem?_append_right (Nat.le_of_not_lt h)]
  have h3:q-A.length<t.length:=by omega
  have hm:t.getD (q-A.length) default∈t:=by rw[List.getD,Pa h3];exact List.getElem_mem h3
  rw[e];unfold Dn;rw[Ca (λhx=>(List.nodup_append.1 hN).2.2 _ hx _ hm rfl),Ca (Nat.not_lt_zero _)];have hv:va.length<=q:=by omega
  simp[List.getD,List.getElem?_append_right hv,List.getElem?_replicate];split<;>rfl
 | i + 1,hi,hk=>by
  have ih:=rH hA hB la lb (i:=i) (by omega) λk h=>hk k (by omega);have hb:=hk i (by omega);unfold Je;rw[ih,RA (by omega)];have hbm:B.getD i default∈B:=by rw[List.getD,Pa (by omega)];exact List.getElem_mem _
  have hbj:B.getD i default∈Qc A B:=sc.2 (.inr hbm);have hpl:=List.idxOf_lt_length_iff.2 hbj
  have hcond:¬((Qc A B).idxOf (B.getD i default)<va.length/\va.getD ((Qc A B).idxOf (B.getD i default)) default≠vb.getD i default):=by
   rintro⟨h1,h2⟩;by_cases hx:B.getD i default∈A
   .rw [jE x6 hx]at h2
    exact h2 (hb hx)
   have:=bel (x6 (A:=A) (B:=B)) hx;omega
  simp only;rw[Ca hcond];congr 1;refine xA (by simp) λq hq=>?_;simp at hq;rw[o9 hq];by_cases e:q=(Qc A B).idxOf (B.getD i default)
  .subst e
   rw[Ku hbj]
   have:(((Qc A B).map (Dn A B va vb i)).set ((Qc A B).idxOf (B.getD i default)) (vb.getD i default)).getD ((Qc A B).idxOf (B.getD i default)) default=vb.getD i default:=by
    rw[List.getD,List.getElem?_set_self (by simpa using hpl)];rfl
   rw[this];unfold Dn;split
   .rename_i hx
    exact(hb hx).symm
   rw[Ba (by rw[qu hB (by omega)];omega),qu hB (by omega)]
  rw[O3 e,o9 hq];unfold Dn;split
  .rfl
  rename_i hx;have hqm:(Qc A B).getD q default∈Qc A B:=by rw[List.getD,Pa hq];exact List.getElem_mem hq
  have hqB:(Qc A B).getD q default∈B:=(sc.1 hqm).resolve_left hx
  have hne:B.idxOf ((Qc A B).getD q default)≠i:=λh=>e (by
   have h2:=Ku hqB;rw[h]at h2
   rw[h2,qu (uk hA) hq])
  by_cases hlt:B.idxOf ((Qc A B).getD q default)<i
  .rw[Ba hlt,Ba (by omega)]
  rw[Ca hlt,Ca (by omega)]
def bS (la:va.length=A.length) {k:Nat} (hk:B.getD k default∈A) (hkl:k<B.length) (hne:va.getD (A.idxOf (B.getD k default)) default≠vb.getD k default):
 ∀{i:Nat},k<i->Je va vb (Pd A B) (Qc A B).length i=none
 | i+1,h=>by
  unfold Je;by_cases hki:k<i
  .rw[bS la hk hkl hne hki]
  obtain rfl:k=i:=by omega
  split
  .rfl
  rw[Ba];rw[RA hkl,jE x6 hk];exact⟨by rw[la];exact List.idxOf_lt_length_iff.2 hk,hne⟩
def VI{w:List β}(hA:A.Nodup)(hB:B.Nodup)(la:va.length=A.length)(lb:vb.length=B.length):
 Je va vb (Pd A B) (Qc A B).length B.length=some w<->∃f:α->β,va=A.map f/\vb=B.map f/\w=(Qc A B).map f:=by
 have hin:∀{l:List α} {q:Nat},q<l.length->l.getD q default∈l:=λh=>by rw[List.getD,Pa h];exact List.getElem_mem h
 constructor
 .intro h
  by_cases hk:∀k,k<B.length->B.getD k default∈A->va.getD (A.idxOf (B.getD k default)) default=vb.getD k default
  .rw [rH hA hB la lb (Nat.le_refl _) hk]at h
   refine⟨Dn A B va vb B.length,xA (by simpa using la) λq hq=>?_,xA (by simpa using lb) λq hq=>?_,(Option.some.inj h).symm⟩
   .have hq2:q<A.length:=by omega
    rw[o9 hq2];unfold Dn;rw[Ba (hin hq2),qu hA hq2]
   have hq2:q<B.length:=by omega
   rw[o9 hq2];unfold Dn;split
   .rename_i hx
    exact(hk q hq2 hx).symm
   rw[qu hB hq2,Ba hq2]
  exfalso;simp only[Classical.not_forall]at hk;obtain⟨k,h1,h2,h3⟩:=hk;rw[bS la h2 h1 h3 h1]at h;cases h
 rintro⟨f,rfl,rfl,rfl⟩
 have hk:∀k,k<B.length->B.getD k default∈A->(A.map f).getD (A.idxOf (B.getD k default)) default=(B.map f).getD k default:=λk h1 h2=>by
  rw[o9 (List.idxOf_lt_length_iff.2 h2),o9 h1,Ku h2]
 rw[rH hA hB la lb (Nat.le_refl _) hk];congr 1;refine List.map_congr_left λx hx=>?_;unfold Dn;split
 .rename_i hA2
  rw[o9 (List.idxOf_lt_length_iff.2 hA2),Ku hA2]
 rename_i hA2;have hB2:=(sc.1 hx).resolve_left hA2;have:=List.idxOf_lt_length_iff.2 hB2;rw[Ba this,o9 this,Ku hB2]
end
end
end
section
section
variable {α β:Type}[DecidableEq α][Inhabited α][Inhabited β][DecidableEq β]{T:List α}{R:List (List β)}{Ps:List (List α)}{A P:List α}{rows rows' rows'':List (List β)}
def Lp(T:List α)(R:List (List β))(P:List α)(w:List β):Prop:=∃r∈R,∃g:α->β,r=T.map g/\w=P.map g
structure JN (T:List α) (R:List (List β)) (Ps:List (List α)) (A:List α) (rows:List (List β)):Prop where
 nd:A.Nodup
 nm:∀x,x∈A<->∃P∈Ps,x∈P
 mem:∀w,w∈rows<->∃f:α->β,w=A.map f/\∀P∈Ps,Lp T R P (P.map f)
theorem JN.base (hP:P.Nodup) (h:∀w,w∈rows<->Lp T R P w):JN T R [P] P rows :=
 ⟨hP,λx=>by simp,λw=>by
  rw[h];constructor
  .rintro ⟨r,hr,g,e,rfl⟩
   exact⟨g,rfl,λQ hQ=>by obtain rfl:=List.mem_singleton.1 hQ;exact⟨r,hr,g,e,rfl⟩⟩
  rintro⟨f,rfl,hf⟩
  exact hf P (List.mem_singleton.2 rfl)⟩
theorem JN.width (h:JN T R Ps A rows) {w:List β} (hw:w∈rows):w.length=A.length:=by
 obtain⟨f,rfl,_⟩:=(h.mem w).1 hw;simp
theorem Lp.width {w:List β} (h:Lp T R P w):w.length=P.length:=by
 obtain⟨_,_,g,_,rfl⟩:=h;simp
theorem JN.step(h:JN T R Ps A rows)(hP:P.Nodup)(hb:∀w,w∈rows'<->Lp T R P w)
 (hw:∀w,w∈rows''<->∃va∈rows,∃vb∈rows',Je va vb (Pd A P) (Qc A P).length P.length=some w):JN T R (Ps++[P]) (Qc A P) rows'' :=
 ⟨uk h.nd,λx=>by
  rw[sc,h.nm];simp only[List.mem_append,List.mem_singleton];constructor
  .rintro (⟨Q,hQ,hx⟩|hx)
   .exact⟨Q, .inl hQ,hx⟩
   exact⟨P, .inr rfl,hx⟩
  .rintro ⟨Q,hQ|rfl,hx⟩
   .exact .inl ⟨Q,hQ,hx⟩
   exact .inr hx,λw=>by
  rw[hw];constructor
  .rintro ⟨va,hva,vb,hvb,hj⟩
   obtain⟨f1,e1,h1⟩:=(h.mem va).1 hva;obtain⟨f,ea,eb,ew⟩:=(VI h.nd hP (h.width hva) ((hb vb).1 hvb).width).1 hj;refine⟨f,ew,λQ hQ=>?_⟩
   rcases List.mem_append.1 hQ with hQ|hQ
   .have hq:=h1 Q hQ
    have e:Q.map f1=Q.map f:=List.map_congr_left λx hx=>by
     have hxA:=(h.nm x).2 ⟨Q,hQ,hx⟩;exact List.map_inj_left.1 (e1.symm.trans ea) x hxA
    rwa [e]at hq
   obtain rfl:=List.mem_singleton.1 hQ;rw[<- eb];exact(hb vb).1 hvb
  rintro⟨f,rfl,hf⟩;refine⟨A.map f,(h.mem _).2 ⟨f,rfl,λQ hQ=>hf Q (List.mem_append_left _ hQ)⟩,P.map f,(hb _).2 (hf P (List.mem_append_right _ (List.mem_singleton.2 rfl))), ?_⟩
  exact(VI h.nd hP (by simp) (by simp)).2 ⟨f,rfl,rfl,rfl⟩⟩
def lR {f:α->β} {x:α} (hx:x∈A):(A.map f).getD (A.idxOf x) default=f x:=by
 rw[o9 (List.idxOf_lt_length_iff.2 hx),Ku hx]
theorem JN.final (h:JN T R Ps A rows) (hT:∀x∈T,x∈A) (hR:∀r∈R,∃g:α->β,r=T.map g) (hS:∀f:α->β,(∀P∈Ps,Lp T R P (P.map f))->T.map f∈R) {w:List β} :
 (∃v∈rows,w=T.map λx=>v.getD (A.idxOf x) default)<->w∈R:=by
 constructor
 .rintro ⟨v,hv,rfl⟩
  obtain⟨f,rfl,hf⟩:=(h.mem v).1 hv;have e:(T.map λx=>(A.map f).getD (A.idxOf x) default)=T.map f:=List.map_congr_left λx hx=>lR (hT x hx);rw[e];exact hS f hf
 intro hw;obtain⟨g,rfl⟩:=hR w hw;refine⟨A.map g,(h.mem _).2 ⟨g,rfl,λP _=>⟨_,hw,g,rfl,rfl⟩⟩, ?_⟩;exact(List.map_congr_left λx hx=>(lR (hT x hx)).symm)
end
end
def Xg(a b:Int):Int:=if a<b then -1 else if b<a then 1 else 0
def bAt(s:ByteArray)(i:Nat):Int:=c5 s i
def qx:List UInt8->List UInt8->Int
 | [],[]=>0
 | [],_::_=>-1
 |_::_,[]=>1
 |x::xs,y::ys=>if x=y then qx xs ys else Xg x.toNat y.toNat
abbrev bl(s:ByteArray):List UInt8:=s.data.toList
def Ay(a b:ByteArray):Int:=qx (bl a) (bl b)
def i6(s:ByteArray):(bl s).length=s.size:=Zh
def sV:∀(i:Nat) (a b:List UInt8),i<a.length->i<b.length->a.getD i 0=b.getD i 0->qx (a.drop i) (b.drop i)=qx (a.drop (i+1)) (b.drop (i+1))
 | 0,x::xs,y::ys,_,_,h=>by
  simp only[List.getD_cons_zero]at h;simp[qx,h]
 | i+1,x::xs,y::ys,h1,h2,h=>by
  simp only[List.getD_cons_succ]at h;simpa using sV i xs ys (by simpa using h1) (by simpa using h2) h
 |_,[],_,h1,_,_=>by simp at h1
 |_,_::_,[],_,h2,_=>by simp at h2
def JU:∀(i:Nat) (a b:List UInt8),i<a.length->i<b.length->a.getD i 0≠b.getD i 0->qx (a.drop i) (b.drop i)=Xg (a.getD i 0).toNat (b.getD i 0).toNat
 | 0,x::xs,y::ys,_,_,h=>by
  simp only[List.getD_cons_zero]at h;simp[qx,h]
 | i+1,x::xs,y::ys,h1,h2,h=>by
  simp only[List.getD_cons_succ]at h ⊢;simpa using JU i xs ys (by simpa using h1) (by simpa using h2) h
 |_,[],_,h1,_,_=>by simp at h1
 |_,_::_,[],_,h2,_=>by simp at h2
def WJ:∀(i:Nat) (a b:List UInt8),i<=a.length->i<=b.length->(i=a.length\/i=b.length)->qx (a.drop i) (b.drop i)=Xg a.length b.length
 |0,[],[],_,_,_=>by simp[qx,Xg]
 |0,[],_::_,_,_,_=>by simp[qx,Xg]<;>omega
 |0,_::_,[],_,_,_=>by simp[qx,Xg]<;>omega
 |0,_::_,_::_,_,_,h=>by simp at h
 | i+1,x::xs,y::ys,h1,h2,h=>by
  have:=WJ i xs ys (by simpa using h1) (by simpa using h2) (by simpa using h);simp only[List.drop_succ_cons,this,Zf,Xg]
  repeat' split
  all_goals first|rfl|omega
 |i+1,[],_,h1,_,_=>by simp at h1
 |i+1,_::_,[],_,h2,_=>by simp at h2
def nU:∀{a b:List UInt8},qx a b=0<->a=b
 | [],[]=>by simp[qx]
 | [],_::_=>by simp[qx]
 |_::_,[]=>by simp[qx]
 | x::xs,y::ys=>by
  simp only[qx];by_cases h:x=y
  .simp[h,nU]
  have:¬x.toNat=y.toNat:=λe=>h (UInt8.toNat_inj.1 e);simp only[h,Na,Xg,Yu,false_and,iff_false]
  repeat' split
  all_goals omega
def yV (a b:ByteArray) (i j:Nat):c5 a i=c5 b j<->(bl a).getD i 0=(bl b).getD j 0:=by
 unfold c5;rw[Int.natCast_inj,UInt8.toNat_inj]
def arb {a b:ByteArray}:Ay a b=0<->a=b:=by
 unfold Ay;rw[nU];exact⟨λh=>ByteArray.ext (Array.ext' h),λh=>by rw[h]⟩
def x4 (a b:Lb):Int :=
 if Xg a.kind b.kind≠0 then Xg a.kind b.kind else if Xg a.num b.num≠0 then Xg a.num b.num else Ay a.str b.str
def wh {a b:Int}:Xg a b=0<->a=b:=by
 unfold Xg
 repeat' split
 all_goals omega
def YU{a b:Lb}:x4 a b=0<->a=b:=by
 unfold x4;cases a;cases b;simp only[Lb.mk.injEq];split
 .rename_i h;rw[Ne,wh]at h
  constructor
  .intro e;rw[wh]at e;exact Ea e h
  rintro⟨e,_⟩;exact Ea e h
 rename_i h;rw[Ne,wh,Classical.not_not]at h;split
 .rename_i h2;rw[Ne,wh]at h2
  constructor
  .intro e;rw[wh]at e;exact Ea e h2
  rintro⟨_,e,_⟩;exact Ea e h2
 rename_i h2;rw[Ne,wh,Classical.not_not]at h2;rw[arb];exact⟨λe=>⟨h,h2,e⟩,λe=>e.2.2⟩
def kr:List Lb->List Lb->Int
 | [],[]=>0
 | [],_::_=>-1
 |_::_,[]=>1
 |x::xs,y::ys=>if x4 x y≠0 then x4 x y else kr xs ys
def MV:∀(i:Nat) (a b:List Lb),i<a.length->i<b.length->x4 (a.getD i default) (b.getD i default)=0->kr (a.drop i) (b.drop i)=kr (a.drop (i+1)) (b.drop (i+1))
 | 0,x::xs,y::ys,_,_,h=>by
  simp only[List.getD_cons_zero]at h;simp[kr,h]
 | i+1,x::xs,y::ys,h1,h2,h=>by
  simp only[List.getD_cons_succ]at h;simpa using MV i xs ys (by simpa using h1) (by simpa using h2) h
 |_,[],_,h1,_,_=>by simp at h1
 |_,_::_,[],_,h2,_=>by simp at h2
def XV:∀(i:Nat) (a b:List Lb),i<a.length->i<b.length->x4 (a.getD i default) (b.getD i default)≠0->kr (a.drop i) (b.drop i)=x4 (a.getD i default) (b.getD i default)
 | 0,x::xs,y::ys,_,_,h=>by
  simp only[List.getD_cons_zero]at h;simp[kr,h]
 | i+1,x::xs,y::ys,h1,h2,h=>by
  simp only[List.getD_cons_succ]at h ⊢;simpa using XV i xs ys (by simpa using h1) (by simpa using h2) h
 |_,[],_,h1,_,_=>by simp at h1
 |_,_::_,[],_,h2,_=>by simp at h2
def RK:∀(i:Nat) (a b:List Lb),i<=a.length->i<=b.length->(i=a.length\/i=b.length)->kr (a.drop i) (b.drop i)=Xg a.length b.length
 |0,[],[],_,_,_=>by simp[kr,Xg]
 |0,[],_::_,_,_,_=>by simp[kr,Xg]<;>omega
 |0,_::_,[],_,_,_=>by simp[kr,Xg]<;>omega
 |0,_::_,_::_,_,_,h=>by simp at h
 | i+1,x::xs,y::ys,h1,h2,h=>by
  have:=RK i xs ys (by simpa using h1) (by simpa using h2) (by simpa using h);simp only[List.drop_succ_cons,this,Zf,Xg]
  repeat' split
  all_goals first|rfl|omega
 |i+1,[],_,h1,_,_=>by simp at h1
 |i+1,_::_,[],_,h2,_=>by simp at h2
def OV:∀{a b:List Lb},kr a b=0<->a=b
 | [],[]=>by simp[kr]
 | [],_::_=>by simp[kr]
 |_::_,[]=>by simp[kr]
 | x :: xs,y::ys=>by
  simp only[kr];split
  .rename_i h
   refine⟨λe=>Ea e h,λe=>?_⟩;simp only[Yu]at e;exact Ea (YU.2 e.1) h
  rename_i h;rw[Ne,Classical.not_not,YU]at h;simp[h,OV]
section
abbrev Ye:ByteArray:=⟨#[]⟩
def cz (v:Lb):Bool :=
 if v.kind=0 then decide (v.num=0)&&decide (v.str=Ye)
 else if v.kind=1 then decide (v.str=Ye)
 else if v.kind=2 then decide (v.num=0)&&decide (v.str.size<=200)
 else decide (v.kind=3)&&decide (1<=v.num)&&decide (v.str=Ye)
def Lb.ok(v:Lb):Prop:=v.str.size<=68719476736
def pj(l:List Lb):Prop:=∀j,j<l.length->(l.getD j default).ok
def Xb.ok(r:Xb):Prop:=r.vals.length<=68719476736/\pj r.vals
def sw(l:List Xb):Prop:=∀j,j<l.length->(l.getD j default).ok
def ac.ok(t:ac):Prop:=t.attrs.length<=68719476736/\t.rows.length<=68719476736/\sw t.rows
def OY(d:DB):Prop:=d.length<=68719476736/\∀j,j<d.length->ac.ok (d.getD j default)
def Df.ok(x:Df):Prop:=x.table.ok/\x.row.ok/\x.value.ok
def L8(l:List Df):Prop:=∀j,j<l.length->(l.getD j default).ok
def Lg(c:Int):Bool:=(decide (97<=c)&&decide (c<=122))||(decide (65<=c)&&decide (c<=90))||decide (c=95)
def Ik(c:Int):Bool:=decide (48<=c)&&decide (c<=57)
abbrev pD:ByteArray:=⟨#[110,117,108,108]⟩
def PA(s:ByteArray):Bool:=(List.range s.size).all λi=>Lg (c5 s i)||Ik (c5 s i)
def gq(s:ByteArray):Bool:=decide (s.size≠0)&&decide (s.size<=24)&&Lg (c5 s 0)&&decide (s≠pD)&&PA s
def j0(l:List ByteArray)(s:ByteArray):Int:=Ee (λx=>decide (x=s)) l
def nk(l:List ByteArray)(i:Nat):Bool:=gq (l.getD i default)&&decide (j0 (l.take i) (l.getD i default)<0)
def xl(l:List ByteArray):Bool:=(List.range l.length).all (nk l)
def fh (n:Nat) (before:Int):List Xb->Int
 | []=>0
 |r::rs=>if r.id<=before then 1 else if r.vals.length≠n then 6 else if(r.vals.all cz)=false then 1 else fh n r.id rs
def eo (t:ac):Int :=
 if gq t.name=false then 1 else if 16<t.attrs.length\/1000<t.rows.length then 3 else if xl t.attrs=false then 1 else fh t.attrs.length 0 t.rows
section
variable {i:Nat}
def alp {n:Nat} {l:List Xb} {b:Int} (hi:i<l.length):fh n b (l.drop i)=if(l.getD i default).id<=b then 1 else if(l.getD i default).vals.length≠n then 6 else if((l.getD i default).vals.all cz)=false then 1 else fh n (l.getD i default).id (l.drop (i+1)):=by
 rw[Ss hi,fh];simp only[List.getD,Hc hi,Xh]
def bsx(l:List Xb)(id:Int):Option Nat:=l.findIdx? λr=>decide (r.id=id)
def ic(l:List Xb)(id:Int):Int:=Ee (λr=>decide (r.id=id)) l
def ml(d:DB)(s:ByteArray):Int:=Ee (λt=>decide (t.name=s)) d
def tA(d:DB)(t:ac):Int:=if eo t≠0 then eo t else if 0<=ml d t.name then 5 else if 50<=d.length then 3 else 0
def jx {p:Nat->Bool} {n:Nat} (hi:i<n) (h:p i=false):(List.range n).all p=false:=by
 rw[List.all_eq_false];exact⟨i,Fe.2 hi,by simp[h]⟩
def n9 {p:Nat->Bool} {n:Nat} (h:∀j,j<n->p j=true):(List.range n).all p=true:=by
 rw[Ze];exactλj hj=>h j (Fe.1 hj)
variable {s:ByteArray}
def xd(h:s.size=0):gq s=false:=by simp[gq,h]
def tn (h:24<s.size):gq s=false:=by
 have:¬s.size<=24:=by omega
 simp[gq,this]
def BB(h:Lg (c5 s 0)=false):gq s=false:=by simp[gq,h]
def sK (hi:(i:Int)=0) (h:Lg (c5 s i)=false):gq s=false:=by
 obtain rfl:i=0:=by omega
 exact BB h
def WM (hz:0<i->Lg (c5 s 0)=true) (h:i=0->Lg (c5 s i)=true):Lg (c5 s 0)=true:=by
 by_cases e:i=0
 .subst e;exact h rfl
 exact hz Za
def qz(h:s=pD):gq s=false:=by simp[gq,h]
def xy (hi:i<s.size) (h1:Lg (c5 s i)=false) (h2:Ik (c5 s i)=false):gq s=false:=by
 have:PA s=false:=jx hi (by simp[h1,h2]);simp[gq,this]
def ZO (h0:s.size≠0) (h1:s.size<=24) (h2:Lg (c5 s 0)=true) (h3:s≠pD) (h4:∀j,j<s.size->(Lg (c5 s j)||Ik (c5 s j))=true):gq s=true:=by
 have:PA s=true:=n9 h4;simp[gq,this,h0,h1,h2,h3]
def NB:s.size=0<->s=Ye:=by
 constructor
 .intro h
  refine ByteArray.ext (Array.ext' ?_);have:s.data.toList.length=0:=by rw[Zh];exact h
  exact Vl this
 rintro rfl;rfl
def Qy {α:Type} {p:α->Bool} {l:List α}:decide (0<=Ee p l)=l.any p:=by
 unfold Ee
 cases h:l.findIdx? p with
 | none =>
  rw[uC]at h;have:l.any p=false:=by rw[Dk];intro x hx;simp[h x hx]
  simp[this]
 | some i =>
  rw[Kv]at h;obtain⟨hi,hp,_⟩:=h;have:l.any p=true:=by rw[Yf];exact⟨_,De hi,hp⟩
  simp[this]
def jQ {α:Type} {p:α->Bool} {l:List α}:Ee p l<l.length:=by
 unfold Ee
 cases h:l.findIdx? p with
 |none=>simp;omega
 | some i =>
  rw[Kv]at h;simp[h.1]
def wT {α:Type} [Inhabited α] {p:α->Bool} {l:List α} (h:0<=Ee p l):(Ee p l).toNat<l.length/\p (l.getD (Ee p l).toNat default)=true:=by
 unfold Ee at h ⊢
 cases h2:l.findIdx? p with
 |none=>simp[h2]at h
 | some i =>
  rw[Kv]at h2;obtain⟨hi,hp,_⟩:=h2;simp[List.getD,hi,hp]
def ara {l:List Lb}:(!l.any λv=>!cz v)=l.all cz:=by
 induction l with
 |nil=>rfl
 |cons x l ih=>simp only[List.any_cons,List.all_cons,Bool.not_or,Bool.not_not,ih]
def Kg (k:Int):Lb :=
 if k=0 then⟨1,0,Ye⟩else if k=1 then⟨1,1,Ye⟩else if k=2 then⟨1,2,Ye⟩else if k=3 then⟨0,0,Ye⟩else if k=4 then⟨2,0,⟨#[97]⟩⟩else if k=5 then⟨2,0,⟨#[98]⟩⟩
 else if k=6 then⟨2,0,Ye⟩else if k=7 then⟨3,1,Ye⟩else if k=8 then⟨1, -1,Ye⟩else if k=9 then⟨2,0,⟨#[97,98]⟩⟩else if k=10 then⟨3,2,Ye⟩ else⟨1,7,Ye⟩
def As(c:UInt8):Lb:=Kg ((c.toNat:Int)%12)
def Mv(x:Ok):ByteArray:=[⟨#[114]⟩,⟨#[115]⟩,⟨#[116]⟩,Ye].getD (x.name.toNat%4) default
def pO(x:Ok):Xb:=⟨x.id,x.vals.map As⟩
def og:List ByteArray:=[⟨#[97]⟩,⟨#[98]⟩,⟨#[99]⟩,⟨#[100]⟩,⟨#[101]⟩,⟨#[102]⟩,⟨#[103]⟩,⟨#[104]⟩]
def rj(l:List UInt8)(n:Nat):List Lb:=(List.range n).map λk=>As (l.getD k default)
def lm(x:jm)(n:Nat):List Xb:=(List.range x.rows.length).map λ(i:Nat)=>⟨1+(i:Int)*(1+(x.gap.toNat:Int)%3),rj (x.rows.getD i default) n⟩
def d4(x:jm)(n:Nat):ac:=⟨⟨#[114]⟩,og.take n,lm x n⟩
def mO(x:Ok):ac:={ d4 x.t (x.t.attrs.toNat%4)with name:=Mv x }
def bV {β:Type} [Inhabited β] (f:Nat->β) (n i:Nat) (h:i<n):((List.range n).map f).getD i default=f i:=by
 simp[List.getD,h]
end
end
section
abbrev T0:ac:=⟨Ye,[],[]⟩
def yl (r:Xb):List Xb->List Xb
 | []=>[r]
 |x::xs=>if r.id<x.id then r::x::xs else x::yl r xs
def Iu (t:ac) (r:Xb):Int :=
 if eo t≠0 then eo t else if r.vals.length≠t.attrs.length then 6 else if r.id<=0\/r.vals.all cz=false then 1
 else if 0<=ic t.rows r.id then 5 else if 1000<=t.rows.length then 3 else 0
def LC(t:ac)(r:Xb):ac:=if Iu t r=0 then { t with rows:=yl r t.rows }else T0
def Gx(t:ac)(id:Int):Int:=if eo t≠0 then eo t else if 0<=ic t.rows id then 0 else 4
def wC(t:ac)(id:Int):ac:=if Gx t id=0 then { t with rows:=t.rows.eraseIdx (ic t.rows id).toNat }else T0
def Lt (t:ac) (id attr:Int) (v:Lb):Int :=
 if eo t≠0 then eo t else if ¬0<=ic t.rows id then 4 else if attr<0\/(t.attrs.length:Int)<=attr then 6 else if cz v=false then 1 else 0
def Uq(l:List Xb)(i k:Nat)(v:Lb):List Xb:=l.set i { l.getD i default with vals:=(l.getD i default).vals.set k v }
def GC(t:ac)(id attr:Int)(v:Lb):ac:=if Lt t id attr v=0 then { t with rows:=Uq t.rows (ic t.rows id).toNat attr.toNat v }else T0
def FD (t:ac) (c:Df):Int :=
 if c.kind=2 then Iu t c.row
 else if ¬0<=ic t.rows c.row.id then 4
 else if ¬(t.rows.getD (max (ic t.rows c.row.id) 0).toNat default).vals=c.row.vals then 16
 else if c.kind=3 then Gx t c.row.id
 else Lt t c.row.id c.attr c.value
def At(t:ac)(c:Df):ac:=if c.kind=2 then LC t c.row else if c.kind=3 then wC t c.row.id else GC t c.row.id c.attr c.value
def xk(d:DB)(s:ByteArray):ac:=d.getD (ml d s).toNat default
def lx (d:DB) (c:Df):Int :=
 if c.kind=1 then(if c.name≠c.table.name then 1 else tA d c.table)
 else if c.kind<1\/4<c.kind then 1
 else if ml d c.name<0 then 4
 else FD (xk d c.name) c
def Gp (d:DB) (c:Df):DB :=
 if lx d c≠0 then d
 else if c.kind=1 then d++[c.table]
 else d.set (ml d c.name).toNat (At (xk d c.name) c)
section
variable {c:Df}{d:DB}
def aE2(h:c.kind=1)(h2:c.name=c.table.name):lx d c=tA d c.table:=by rw[lx,Ba h,Ca (by simp[h2])]
def aE5(h:2<=c.kind/\c.kind<=4)(h2:¬ml d c.name<0):lx d c=FD (xk d c.name) c:=by rw[lx,Ca Za,Ca Za,Ca h2]
def N6{e:Int}(h:lx d c=e)(he:e≠0):Gp d c=d:=by rw[Gp,Ba (by rw[h];exact he)]
def aD1(h:lx d c=0)(h1:c.kind=1):Gp d c=d++[c.table]:=by rw[Gp,Ca (by simp[h]),Ba h1]
def aD2{u:ac}(h:lx d c=0)(h1:¬c.kind=1)(hu:At (xk d c.name) c=u):Gp d c=d.set (ml d c.name).toNat u:=by rw[Gp,Ca (by simp[h]),Ca h1,hu]
def Gn(d:DB):Prop:=d.length<=50/\∀j,j<d.length->eo (d.getD j default)=0
def Z1 (d:DB):List Df->Int
 | []=>0
 |c::cs=>if lx d c≠0 then lx d c else Z1 (Gp d c) cs
def XC (d:DB):List Df->DB
 | []=>d
 |c::cs=>if lx d c≠0 then[]else XC (Gp d c) cs
def sZ(s:Mk)(l:List Df):Mk:=if l.length=0 then s else⟨s.done++[l],[],false,[]⟩
def bth(s:Mk)(c:Df):Mk:=if s.opn=true then { s with now:=s.now++[c] }else sZ s [c]
def WZ(x:Ok):Bool:=decide (x.vals.length<=20)&&decide (x.t.rows.length<=6)&&x.t.rows.all λr=>decide (r.length<=20)
def few(l:List Ok)(most:Int):Bool:=l.all WZ&&decide ((l.length:Int)<=most)
end
end
section
section
variable {l:List Xb}
def UW {n:Nat} {b:Int} {x:Xb} (h:fh n b (x::l)=0):b<x.id/\x.vals.length=n/\x.vals.all cz=true/\fh n x.id l=0:=by
 simp only[fh]at h;split at h
 .omega
 split at h
 .omega
 split at h
 .omega
 rename_i h1 h2 h3;exact⟨by omega,by omega,by simpa using h3,h⟩
def jw {n:Nat}:∀{l:List Xb} {b:Int},fh n b l=0->∀x∈l,b<x.id/\x.vals.length=n/\x.vals.all cz=true
 | [],_,_,x,hx=>by cases hx
 | y::l,b,h,x,hx=>by
  obtain⟨h1,h2,h3,h4⟩:=UW h
  rcases Jd.1 hx with rfl|hx
  .exact⟨h1,h2,h3⟩
  obtain⟨g1,g2⟩:=jw h4 x hx;exact⟨by omega,g2⟩
abbrev mz(l:List Xb):Prop:=l.Pairwise λa b=>a.id<b.id
def f7 {n:Nat}:∀{l:List Xb} {b:Int},fh n b l=0->mz l
 | [],_,_=>List.Pairwise.nil
 | y::l,b,h=>by
  obtain⟨h1,h2,h3,h4⟩:=UW h;exact List.Pairwise.cons (λx hx=>(jw h4 x hx).1) (f7 h4)
def ov {n:Nat}:∀{l:List Xb} {b:Int},(∀x∈l,b<x.id/\x.vals.length=n/\x.vals.all cz=true)->mz l->fh n b l=0
 | [],_,_,_=>rfl
 | y::l,b,h,hs=>by
  obtain⟨h1,h2,h3⟩:=h y Ec;unfold mz at hs;rw[Hh]at hs;simp only[fh];rw[Ca Za,Ca Za,Ca (by simp[h3])];exact ov (λx hx=>⟨hs.1 x hx,(h x (by simp[hx])).2⟩) hs.2
structure Ri (t:ac):Prop where
 nm:gq t.name=true
 na:t.attrs.length<=16
 nr:t.rows.length<=1000
 nms:xl t.attrs=true
 rs:fh t.attrs.length 0 t.rows=0
variable {t:ac}
def k6:eo t=0<->Ri t:=by
 constructor
 .intro h
  unfold eo at h;split at h
  .omega
  split at h
  .omega
  split at h
  .omega
  rename_i h1 h2 h3;exact⟨by simpa using h1,by omega,by omega,by simpa using h3,h⟩
 rintro⟨h1,h2,h3,h4,h5⟩;unfold eo;rw[Ca (by simp[h1]),Ca Za,Ca (by simp[h4]),h5]
def mL {v:Lb} (h:cz v=true):v.str.size<=200:=by
 unfold cz at h;have e0:Ye.size=0:=rfl;split at h
 .simp only[Od,Ja]at h;rw[h.2];omega
 split at h
 .simp only[Ja]at h;rw[h];omega
 split at h
 .simp only[Od,Ja]at h;omega
 simp only[Od,Ja]at h;rw[h.2];omega
def bds {l:List Lb} (h:l.all cz=true):pj l:=by
 intro j hj;rw[cq l j hj];have:=mL (Ze.1 h _ (De hj));unfold Lb.ok;omega
theorem Ri.ok (h:Ri t):t.ok:=by
 refine⟨by have:=h.na;omega,by have:=h.nr;omega,λj hj=>?_⟩;rw[cq _ j hj];obtain⟨_,h2,h3⟩:=jw h.rs _ (De hj);exact⟨by have:=h.na;omega,bds h3⟩
def sw.sub {l':List Xb} (h:sw l) (hs:∀x∈l',x∈l):sw l':=by
 intro j hj;rw[cq _ j hj];obtain⟨k,hk,e⟩:=Fg (hs _ (De hj));rw[<- e,<- cq _ k hk];exact h k hk
def azg(h:eo t=0):t.ok:=(k6.1 h).ok
def bt6(l:List Xb)(k:Nat)(r:Xb):List Xb:=l.take k++r::l.drop k
def zT {r:Xb}:∀{l:List Xb},(yl r l).length=l.length+1
 | []=>rfl
 | x::l=>by
  simp only[yl];split
  .simp
  simp[zT (l:=l)]
def bb1{r:Xb}(h:Iu t r=0):LC t r=⟨t.name,t.attrs,yl r t.rows⟩:=by rw[LC,Ba h]
def beh{i:Int}(h:Gx t i=0):wC t i=⟨t.name,t.attrs,t.rows.eraseIdx (ic t.rows i).toNat⟩:=by rw[wC,Ba h]
def b9j{i a:Int}{v:Lb}(h:Lt t i a v=0):GC t i a v=⟨t.name,t.attrs,Uq t.rows (ic t.rows i).toNat a.toNat v⟩:=by rw[GC,Ba h]
def b3k {r:Xb} (h:Iu t r=0):eo t=0/\r.vals.length=t.attrs.length/\0<r.id/\r.vals.all cz=true/\ic t.rows r.id<0/\t.rows.length<1000:=by
 unfold Iu at h;split at h
 .omega
 split at h
 .omega
 split at h
 .omega
 split at h
 .omega
 split at h
 .omega
 rename_i h1 h2 h3 h4 h5;rw[not_or]at h3;exact⟨by omega,by omega,by omega,by simpa using h3.2,by omega,by omega⟩
def b6k{i k:Nat}{v:Lb}:(Uq l i k v).length=l.length:=by simp[Uq]
def C8 {id:Int} (h:0<=ic l id):(max (ic l id) 0).toNat<l.length:=by
 have:=jQ (p:=λr:Xb=>decide (r.id=id)) (l:=l);unfold ic at *;omega
theorem Ri.width (h:Ri t) {i:Nat} (hi:i<t.rows.length):(t.rows.getD i default).vals.length=t.attrs.length:=by
 rw[cq _ _ hi];exact(jw h.rs _ (De hi)).2.1
def S7 {d:DB} {s:ByteArray} (h:¬ml d s<0):(ml d s).toNat<d.length:=by
 have:=jQ (p:=λt:ac=>decide (t.name=s)) (l:=d);unfold ml at *;omega
def Gn.at{d:DB}(h:Gn d){s:ByteArray}(hs:¬ml d s<0):Ri (xk d s):=k6.1 (h.2 _ (S7 hs))
def baf {d:DB} (h:tA d t=0):eo t=0/\ml d t.name<0/\d.length<50:=by
 unfold tA at h;split at h
 .omega
 split at h
 .omega
 split at h
 .omega
 exact⟨by omega,by omega,by omega⟩
end
end
end Go.Hx

/- A part of the proof: LyTz TzW Cs7 Cs8 V6 Cs9 V7. -/
import Derived.Shelf.Lays7
import Derived.Shelf.Spec.TrailingZeros
import Derived.Test.YtcepfnkhagkdeaaGreatDoorProg
import Derived.Test.YtcepfnkhagkdeaaGreatDoorUx06
set_option linter.all false
open Go.Proofs.Tryz
set_option maxRecDepth 100000
section
namespace Go.Proofs
open Go.Hx
open Go.Shelf
def Tryz.lays28_ren:Go.Shelf.Ren:=⟨λ|28=>98|n=>n,λ|27=>47|3=>3|4=>4|25=>144|53=>211|0=>0|5=>5|n=>n,λ|0=>0|n=>n⟩
theorem Tryz.lays28:Go.Proofs.Lays7.n28 Tryz.prog Tryz.lays28_ren:={
 mixed:=by kernel_rfl
 f28:=func98.trans (Da some (by kernel_rfl))
 t0:=underlying0
 a0:=isAgg0
 z0:=sizeOf0
 v0:=zeroValue0
 i0:=by kernel_rfl
 t3:=underlying3
 a3:=isAgg3
 z3:=sizeOf3
 v3:=zeroValue3
 i3:=by kernel_rfl
 t4:=underlying4
 a4:=isAgg4
 z4:=sizeOf4
 v4:=zeroValue4
 i4:=by kernel_rfl
 t5:=underlying5
 a5:=isAgg5
 z5:=sizeOf5
 v5:=zeroValue5
 i5:=by kernel_rfl
 t25:=underlying144
 a25:=isAgg144
 z25:=sizeOf144
 v25:=zeroValue144
 i25:=by kernel_rfl
 t27:=underlying47
 a27:=isAgg47
 z27:=sizeOf47
 v27:=zeroValue47
 i27:=by kernel_rfl
 t53:=underlying211
 a53:=isAgg211
 z53:=sizeOf211
 v53:=zeroValue211
 i53:=by kernel_rfl
 g0:=by kernel_rfl }
end Go.Proofs
end
namespace Go.Hx
section
open Go.Proofs Go.RowKit
def E6:goodFn Ab 98:=⟨Tryz.f98,func98,by kernel_rfl,by kernel_rfl⟩
def M3:∀j,j<Lib.deBruijn32tab.length->Sy 0 j=some (.int .u8 (Lib.deBruijn32tab.getD j 0)):=λj hj=>by
 unfold Sy;rw[show wn 0=Lib.deBruijn32tab.map (λk:Nat=>Value.int .u8 (k:Int)) from rfl,Pe,Hc hj,Oc,Hc hj];rfl
def GX(s:AS):a6 Ab 98 [pA s] (a7 [pI (j4 s)]):=by
 intro w imm us htab him hus
 match us,hus with
 | [u],⟨hu,_⟩ =>
  obtain⟨rfl,_⟩:=hu
  have h:=Any7.bits_TrailingZeros32 Tryz.lays28 s.toNat s.isLt w λ_ j hj=>by
   have hc:=htab 0 j _ (M3 j hj);unfold gz at hc
   cases hb:imm 0 with
   |none=>rw[hb]at hc;cases hc
   | some ob =>
    rw[hb]at hc;have hw:=him 0 ob hb;cases ob<;>simp at hc;show w.cell? ⟨0,j,none⟩=_;simp[World.cell?,hw,hc]
  refine h.mono ?_;rintro e w' ⟨rfl,rfl⟩;exact⟨_,imm,rfl,⟨rfl,rfl⟩,λ_ _=>rfl,him,Below.refl _ _⟩
 | [],h=>exact h.elim
 |_::_::_,⟨_,h⟩=>exact h.elim
end
section
section
variable {α:Type}[Inhabited α]
def o7 {wr wr':Bool} {s m:Nat} {e:TypeId} {c:α->Nat->PV} {l l':List α} {x:α} {g:Nat->Nat->PV} (h:l'=l++[x]) (hg:∀j,j<s->Fc (g 0 j) (c x j)) (hm:m=1:=by rfl) (hw:wr'=true->wr=true:=by exactλh=>h) :
 Ic (.arr wr s e (l.length+m) (ek l.length (lf c l) g)) (.arr wr' s e l'.length (lf c l')):=by
 subst h;refine HH [x] hw hm λi j hi hj=>?_;obtain rfl:i=0:=by simp at hi;exact hi
 exact hg j hj
def be {wr wr':Bool} {s:Nat} {e:TypeId} {c:α->Nat->PV} {l l':List α} (h:l'=l) (hw:wr'=true->wr=true:=by exactλh=>h):Ic (.arr wr s e l.length (lf c l)) (.arr wr' s e l'.length (lf c l')):=by
 subst h;exact⟨hw,rfl,rfl,rfl,λ_ _ _ _=>Ra⟩
end
section
variable {α:Type}[Inhabited α]
section
variable {l l':List α}
def d6{id:Nat}{x:α}(h:l'=l++[x]):Rg (.v (.one (.ref id (l.length+1)))) (.v (.one (.ref id l'.length))):=by subst h;rw[Uc];exact Ua
def dy{id:Nat}(h:l'=l):Rg (.v (.one (.ref id l.length))) (.v (.one (.ref id l'.length))):=by subst h;exact Ua
def cr {wr wr':Bool} {e:TypeId} {c:α->Nat->PV} {x:α} {g:Nat->Nat->PV} (h:l'=l++[x]) (hg:Fc (g 0 0) (c x 0)) (hw:wr'=true->wr=true:=by exactλh=>h):
 Ic (.arr wr 1 e (l.length+1) (ek l.length (lf c l) g)) (.arr wr' 1 e l'.length (lf c l')) :=
 o7 h (λj hj=>by
  obtain rfl:j=0:=by omega
  exact hg) rfl hw
def j7 {wr wr':Bool} {e:TypeId} {c:α->Nat->PV} {x:α} {g:Nat->Nat->PV} (h:l'=l++[x]) (h0:Fc (g 0 0) (c x 0)) (h1:Fc (g 0 1) (c x 1)) (hw:wr'=true->wr=true:=by exactλh=>h):
 Ic (.arr wr 2 e (l.length+1) (ek l.length (lf c l) g)) (.arr wr' 2 e l'.length (lf c l')) :=
 o7 h (λj hj=>by
  rcases(by omega:j=0\/j=1)with rfl|rfl
  .exact h0
  exact h1) rfl hw
end
end
def gm(s:AS)(i:Nat):List Nat:=(List.range i).filter λk=>s.getLsbD k
def Py {s:AS} {i:Nat} (hi:i<32) (h:bw s (i:Int)=true):gm s (i+1)=gm s i++[i]:=by
 rw[j6 hi]at h;unfold gm;rw[Ak,Ek];simp[h]
def RE {s:AS} {i:Nat} (hi:i<32) (h:bw s (i:Int)=false):gm s (i+1)=gm s i:=by
 rw[j6 hi]at h;unfold gm;rw[Ak,Ek];simp[h]
end
section
def se(b:Nat):Nat:=(List.range 8).countP λi=>b.testBit i
def tx (p:Nat->Bool) (a b:Nat):(List.range (a+b)).countP p=(List.range a).countP p+(List.range b).countP λi=>p (a+i):=by
 rw[List.range_add,List.countP_append,List.countP_map];rfl
def b7a {n k j:Nat} (hj:j<8):(n/2^k%256).testBit j=n.testBit (k+j):=by
 rw[show(256:Nat)=2^8 from rfl,Nat.testBit_mod_two_pow,Nat.testBit_div_two_pow,Nat.add_comm];simp[hj]
def E4 (n:Nat) (hn:n<2^32):(List.range (8+(8+(8+8)))).countP (λi=>n.testBit i)=se (n/2^24)+se (n/2^16%256)+se (n/2^8%256)+se (n%256):=by
 have h:∀k,(List.range 8).countP (λi=>n.testBit (k+i))=se (n/2^k%256):=λk=>by
  unfold se;apply List.countP_congr;intro j hj;rw[b7a (Fe.1 hj)]
 have h3:n/2^24%256=n/2^24:=Gz Za;have h0:=h 0;simp only[Oe,Nat.pow_zero,Nat.div_one]at h0;rw[tx,tx,tx,h0];have e2:=h 8;have e3:=h 16;have e4:=h 24;rw[h3]at e4;simp only[<- Xk]at *;simp only[Nat.reduceAdd]at *;rw[e2,e3,e4];omega
def axt(s:AS):Kd s=se (s.toNat/2^24)+se (s.toNat/2^16%256)+se (s.toNat/2^8%256)+se (s.toNat%256):=E4 s.toNat s.isLt
def JE (b:Nat):se b<=8:=by
 have:=List.countP_le_length (p:=λi=>b.testBit i) (l:=List.range 8);rwa [Jm]at this
def gO (s:AS) (k:Nat) (hk:k<=32):((Hb s).fdiv (2^(min k 32))).toNat=s.toNat/2^k:=by
 rw[yu];show(((s>>>k).toNat:Nat):Int).toNat=_;rw[Qe,BitVec.toNat_ushiftRight,Nat.shiftRight_eq_div_pow]
def YG (s:AS) (k:Nat) (hk:k<=32):(bq .and .u32 ((Hb s).fdiv (2^(min k 32))) 255).toNat=s.toNat/2^k%256:=by
 rw[yu,show(255:Int)=Hb 255 from rfl,jh];show(((s>>>k&&&255).toNat:Nat):Int).toNat=_;rw[Qe,Ns,BitVec.toNat_ushiftRight,Nat.shiftRight_eq_div_pow,show(255:AS).toNat=2^8-1 from rfl,Nat.and_two_pow_sub_one_eq_mod]
def MN (s:AS):(bq .and .u32 (Hb s) 255).toNat=s.toNat%256:=by
 rw[show(255:Int)=Hb 255 from rfl,jh];show(((s&&&255).toNat:Nat):Int).toNat=_;rw[Qe,Ns,show(255:AS).toNat=2^8-1 from rfl,Nat.and_two_pow_sub_one_eq_mod]
def aP (a b:Int):0<=bq .and .u32 a b:=by
 show 0<=IntKind.wrap .u32 _;rw[KS (Sl _) (by have:=(BitVec.ofInt 32 a&&&BitVec.ofInt 32 b).isLt;show((BitVec.ofInt 32 a&&&BitVec.ofInt 32 b).toNat:Int)<_;omega)];exact Sl _
def bfe(s:AS)(k:Nat):0<=(Hb s).fdiv (2^(min k 32)):=by rw[yu];exact OA _
section
variable {X:ByteArray}
def eY (s:AS) (hX:(256:Int)<=X.size):0<=(Hb s).fdiv (2^(min 24 32))/\(Hb s).fdiv (2^(min 24 32))<X.size:=by
 have h1:=bfe s 24;have h2:=gO s 24 Za;have:=s.isLt;exact⟨h1,by omega⟩
def kM (s:AS) (k:Nat) (hk:k<=32) (hX:(256:Int)<=X.size):0<=bq .and .u32 ((Hb s).fdiv (2^(min k 32))) 255/\bq .and .u32 ((Hb s).fdiv (2^(min k 32))) 255<X.size:=by
 have h1:=aP ((Hb s).fdiv (2^(min k 32))) 255;have h2:=YG s k hk;exact⟨h1,by omega⟩
def CX (s:AS) (hX:(256:Int)<=X.size):0<=bq .and .u32 (Hb s) 255/\bq .and .u32 (Hb s) 255<X.size:=by
 have h1:=aP (Hb s) 255;have h2:=MN s;exact⟨h1,by omega⟩
def xI{n:Int}(h0:0<=n)(h1:n<256):IntKind.wrap .u8 n=n:=wo (by simp only[Nl,yw,Un];omega)
def az5{n:Int}(h0:0<=n)(h1:n<256):IntKind.wrap .i64 n=n:=wo (by simp only[Nl,yw,Un];omega)
def H5 {s:AS} {i0 i1 i2 i3:Nat} (hX:∀b,b<256->c5 X b=(se b:Int)) (h0:i0=s.toNat/2^24) (h1:i1=s.toNat/2^16%256) (h2:i2=s.toNat/2^8%256) (h3:i3=s.toNat%256):
 IntKind.wrap .i64 (IntKind.wrap .u8 (IntKind.wrap .u8 (IntKind.wrap .u8 (c5 X i0+c5 X i1)+c5 X i2)+c5 X i3))=(Kd s:Int):=by
 have:=s.isLt;subst h0 h1 h2 h3;rw[hX _ Za,hX _ Za,hX _ Za,hX _ Za];have a0:=JE (s.toNat/2^24);have a1:=JE (s.toNat/2^16%256);have a2:=JE (s.toNat/2^8%256);have a3:=JE (s.toNat%256);rw[axt];generalize se (s.toNat/2^24)=c0 at *;generalize se (s.toNat/2^16%256)=c1 at *;generalize se (s.toNat/2^8%256)=c2 at *;generalize se (s.toNat%256)=c3 at *;rw[xI (n:=c0+c1) Za Za,xI (n:=c0+c1+c2) Za Za,xI (n:=c0+c1+c2+c3) Za Za,az5 (n:=c0+c1+c2+c3) Za Za];omega
def IP (s:AS):Kd s<=32:=by
 have:=List.countP_le_length (p:=λi=>s.getLsbD i) (l:=List.range 32);rwa [Jm]at this
def b2k {s0:AS} (x:List Nat×AS) (h:x.1++am x.2=am s0):x.1.length<=32:=by
 have h1:=Da List.length h;rw[Uc,<- uF s0]at h1;have:=IP s0;omega
def WH {s:AS} (h:s≠0):Hb s-1=Hb (s-1):=by
 have h0:s.toNat≠0:=λe=>h (Qi e);have:=s.isLt
 have e1:(s-1).toNat=s.toNat-1:=by
  rw[BitVec.toNat_sub];show(2^32-1+s.toNat)%2^32=_;omega
 unfold Hb;rw[e1];omega
def zB {s:AS} (h:s≠0):(l3 true .u32 (Hb s-1)).1:=by
 rw[WH h];have h1:=OA (s-1);have h2:=WD (s-1);simp only[l3,Nl,yw,Un];omega
def BT{s:AS}(h:s≠0):bq .and .u32 (Hb s) (Hb s-1)=Hb (s&&&(s-1)):=by rw[WH h,jh]
def kj(a b:Int):Int:=if a<b then -1 else if b<a then 1 else 0
def Ip(a b:AS):Int:=if kj (Kd a) (Kd b)=0 then kj (Hb a) (Hb b)else kj (Kd a) (Kd b)
end
end
section
open Go.Proofs
def Kx:goodFn Ab 57:=Ib func57
def Bw(s0:AS):a6 Ab 57 [pA s0] (a7 [pP (il (am s0))]):=by
 refine Nb (nt:=16) func57 ?_;refine ce ?_;refine d9 3 900 true 1 3 (lf iC []) Zc rfl Ya (.inr rfl) rfl ?_;refine aa (ι:=List Nat×AS) kn km (λx=>⟨[(3,some (.v (.one (.ref 900 x.1.length)))),(0,some (vA x.2))],[(900,some (.arr true 1 3 x.1.length (lf iC x.1)))]⟩) (λx=>x.1++am x.2=am s0) (λx=>x.2.toNat) (([],s0)) (rfl) kk ?_;rintro x hx;have hlen:=b2k x hx;refine Mb ?_;refine Sc ?_ ?_<;>intro h0
 ·
  have hne:x.2≠0:=λe=>h0 (by rw[e];rfl);refine Mb ?_;refine Fb E6 (GX x.2) ?_;refine m9 0 ?_;refine Ed 1 true ?_;refine Eb ?_;refine rq rfl rfl rfl rfl rfl ?_ (hp:=(zB hne));refine Tb ?_;refine⟨(x.1++[j4 x.2],x.2&&&(x.2-1)), ?_, ?_, ?_⟩
  .show (x.1++[j4 x.2])++am (x.2&&&(x.2-1))=am s0
   rw[<- hx,b2o hne,Ug];rfl
  .exact b4b hne
  exact⟨⟨⟨_,rfl,(d6 rfl)⟩,⟨_,rfl,(ed (BT hne))⟩,Aa⟩,⟨⟨_,rfl,(cr rfl Ra)⟩,Aa⟩⟩
 have hz:x.2=0:=dm.1 h0;refine Mb ?_;refine b5 2 rfl rfl rfl ?_;exact Nc rfl rfl rfl (⟨Ob.one (Va (by rw[hz,bW,Mg]at hx;rw[<- hx];rfl)),Aa⟩)
def B0 (s:AS):a6 Ab 207 [pA s] (a7 [pI (Kd s)]):=by
 refine Nb (nt:=21) func207 ?_;refine Wb ?_;refine rq rfl rfl rfl rfl rfl ?_ (hp:=(eY s (by decide +kernel)));refine Tb ?_;refine rq rfl rfl rfl rfl rfl ?_ (hp:=(kM s 16 Za (by decide +kernel)));refine Vr rfl rfl rfl rfl rfl ?_;refine Tb ?_;refine rq rfl rfl rfl rfl rfl ?_ (hp:=(kM s 8 Za (by decide +kernel)));refine Vr rfl rfl rfl rfl rfl ?_;refine Cb ?_;refine rq rfl rfl rfl rfl rfl ?_ (hp:=(CX s (by decide +kernel)));(iterate 2 refine Vr rfl rfl rfl rfl rfl ?_);refine Ef ?_;exact⟨Sb (H5 (by decide +kernel) (gO s 24 Za) (YG s 16 Za) (YG s 8 Za) (MN s)),Aa⟩
def Hy:goodFn Ab 156:=Ib func156
def Qw (s:AS):a6 Ab 156 [pA s] (a7 [pI (Kd s)]):=by
 refine Nb (nt:=5) func156 ?_;refine Jb ?_;refine Fb (Ib func207) (B0 s) ?_;refine Tf ?_;exact Ta
end
def btm(l:List AS)(k:Nat)(r:AS):List AS:=l.take k++r::l.drop k
def b6i {l:List AS} {j:Nat} (h:j<l.length):l.getD j default∈l:=by
 rw[Oc,Hc h];exact De h
def DT (x:AS):∀l:List AS,(qg x l).length<=l.length+1
 | []=>by simp[qg]
 | y::l=>by
  unfold qg;have:=DT x l;split
  .simp
  split
  .simp
  simp only[Zf];omega
def ui(l:List AS):(ord l).length<=l.length:=by
 have:∀(l o:List AS),(l.foldl (λo x=>qg x o) o).length<=o.length+l.length:=by
  intro l
  induction l with
  |nil=>intro o;simp
  | cons x l ih =>
   intro o;have h1:=ih (qg x o);have h2:=DT x o;simp only[Im,Zf];omega
 have h:=this l [];simpa [ord]using h
def jC:Int->Nat->PV:=λn _=>.raw (.int .i64 n)
def Wp(l:List Int):Int:=(l.find? λx=>decide (x≠0)).getD 0
def I2 {l:List Int} {i:Nat} (hi:i<l.length) (hI:∀j,j<i->decide (l.getD j default=0)=true) (h:¬l.getD i default=0):Wp l=l.getD i default:=by
 unfold Wp
 have:l.find? (λx=>decide (x≠0))=some (l.getD i default):=by
  rw[List.find?_eq_some_iff_getElem];refine⟨Fa h,i,hi,by simp[List.getD,hi],λj hj=>?_⟩;have:=Ga (hI j hj);rw[Oc,Hc Za,Xh]at this;simp[this]
 rw[this];rfl
def J1 {l:List Int} (hI:∀j,j<l.length->decide (l.getD j default=0)=true):Wp l=0:=by
 unfold Wp
 have:l.find? (λx=>decide (x≠0))=none:=by
  rw[Oo];intro x hx;obtain⟨j,hj,rfl⟩:=Fg hx;have:=Ga (hI j hj);rw[Oc,Hc hj,Xh]at this;simp[this]
 rw[this];rfl
def be9 (a b:AS):Wp [kj (Kd a) (Kd b),kj (Hb a) (Hb b)]=Ip a b:=by
 unfold Wp Ip;by_cases h:kj (Kd a) (Kd b)=0
 .by_cases h2:kj (Hb a) (Hb b)=0<;>simp[h,h2]
 simp[h]
def b9u {α:Type} [Inhabited α] {cl:Bool} {c:α->Nat->PV} {x y:α} {f:Nat->Nat->PV} (h0:Fc (f 0 0) (c x 0)) (h1:Fc (f 1 0) (c y 0)):Fc (.sl 2 1 cl f) (Ff 1 c [x,y]) :=
 Wa rfl (.inl rfl) (λh=>by cases h) λi j hi hj=>by
  obtain rfl:j=0:=by omega
  rcases(by omega:i=0\/i=1)with rfl|rfl
  .exact h0
  exact h1
def bbm {α:Type} [Inhabited α] {wr wr':Bool} {e:TypeId} {c:α->Nat->PV} {l:List α} {x:α} {g:Nat->Nat->PV} (hg:Fc (g 0 0) (c x 0)) (hw:wr'=true->wr=true:=by exactλh=>h) :
 Ic (.arr wr 1 e (l.length+1) (ek l.length (lf c l) g)) (.arr wr' 1 e (l.length+1) (lf c (l++[x]))):=by
 have h:=cr (wr:=wr) (wr':=wr') (e:=e) (l:=l) (l':=l++[x]) (g:=g) rfl hg hw;rwa [show(l++[x]).length=l.length+1 by simp]at h
def gn {α:Type} [Inhabited α] {wr wr':Bool} {s n m:Nat} {e:TypeId} {c:α->Nat->PV} {l l':List α} (h:l'=l) (hn:n=m) (hw:wr'=true->wr=true:=by exactλh=>h):Ic (.arr wr s e n (lf c l)) (.arr wr' s e m (lf c l')):=by
 subst h hn;exact⟨hw,rfl,rfl,rfl,λ_ _ _ _=>Ra⟩
def b31 {a b:AS}:decide (Ip a b<0)=Oh a b:=by
 rw[Ko,Ia,uh];unfold Ip kj Hb;split<;>(repeat' split)<;>omega
section
open Go.Proofs
def QN (a:Int):a6 Ab 265 [pI a] (a7 [pB false]):=by
 refine Nb (nt:=6) func265 ?_;refine dg ?_;exact Nc rfl rfl rfl (⟨Vb Ec,Aa⟩)
def EO (a:AS):a6 Ab 266 [pA a] (a7 [pB false]):=by
 refine Nb (nt:=6) func266 ?_;refine dg ?_;exact Nc rfl rfl rfl (⟨Vb Ec,Aa⟩)
def Uu{p:Prop}(h:p:=by unfold kj;first|(rw[Ba Za])|(rw[Ca Za,Ba Za])|(rw[Ca Za,Ca Za])):p:=h
def eO (a b:Int):a6 Ab 241 [pI a,pI b] (a7 [pI (kj a b)]):=by
 refine Nb (nt:=20) func241 ?_;refine Jb ?_;refine Fb (Ib func265) (QN _) ?_;refine Eb ?_;refine Fb (Ib func265) (QN _) ?_;refine aN ?_;refine Kb ?_ ?_<;>intro h0
 .refine Kc ?_;exact⟨Sb Uu,Aa⟩
 refine Wb ?_;refine Kb ?_ ?_<;>intro h1
 .refine Kc ?_;exact⟨Sb Uu,Aa⟩
 refine Dd ?_;exact⟨Sb Uu,Aa⟩
def E2 (a b:AS):a6 Ab 242 [pA a,pA b] (a7 [pI (kj (Hb a) (Hb b))]):=by
 refine Nb (nt:=20) func242 ?_;refine Jb ?_;refine Fb (Ib func266) (EO _) ?_;refine Eb ?_;refine Fb (Ib func266) (EO _) ?_;refine aN ?_;refine Kb ?_ ?_<;>intro h0
 .refine Kc ?_;exact⟨Sb Uu,Aa⟩
 refine Wb ?_;refine Kb ?_ ?_<;>intro h1
 .refine Kc ?_;exact⟨Sb Uu,Aa⟩
 refine Dd ?_;exact⟨Sb Uu,Aa⟩
def IX(l:List Int):a6 Ab 240 [pP (Ff 1 jC l)] (a7 [pI (Wp l)]):=by
 refine Nb (nt:=18) func240 ?_;refine cw ?_;refine cj 0 rfl λhn=>?_;refine Jb ?_;refine c6 (ι:=Unit) (ka 3 kn) km (λ_i=>⟨[],[]⟩) (λ_i=>Wp l=0) ?_ ?_
 ·
  refine Jb ?_;refine aa (ι:=Nat) (ka 3 (ka 6 (ka 7 kn))) km (λi=>⟨[(8,some (vI i))],[]⟩) (λi=>i<=l.length/\(∀j,j<i->decide (l.getD j default=0)=true)) (λi=>l.length-i) (0) (⟨Zb _,aw⟩) kk ?_;rintro i ⟨hi,hI⟩;refine Eb ?_;refine Kb ?_ ?_<;>intro h0
  ·
   refine jz ?_;refine Sc ?_ ?_<;>intro h1
   .refine Dd ?_;exact⟨Sb (I2 (i:=i) Za hI h1).symm,Aa⟩
   refine Eb ?_;refine Rb (i+1) kk ?_;exact⟨by show i+1<=_;omega,al hI (Fa h1)⟩
  refine cg ?_;refine⟨(), ?_, ?_⟩
  .exact J1 λj hj=>hI j Za
  exact kk
 rintro _ hj;refine Dd ?_;exact⟨Sb hj.symm,Aa⟩
def b4t (a b:AS):a6 Ab 209 [pA a,pA b] (a7 [pI (Ip a b)]):=by
 refine Nb (nt:=15) func209 ?_;refine Jb ?_;refine Fb Hy (Qw _) ?_;refine qy ?_;refine Fb Hy (Qw _) ?_;refine Fb (Ib func241) (eO _ _) ?_;refine Cb ?_;refine Fb (Ib func242) (E2 _ _) ?_;refine m9 0 ?_;refine rc rfl rfl rfl rfl rfl rfl (Ib func240) (IX [kj (Kd a) (Kd b),kj (Hb a) (Hb b)]) (⟨Ob.one (b9u Ra Ra),Aa⟩) rfl rfl ?_;refine Tf ?_;exact⟨Sb (be9 a b),Aa⟩
end
end Go.Hx

/- A part of the proof: LyTz TzW Cs7 Cs8 V6 Cs9 V7. -/
import Derived.Shelf.Lays7
import Derived.Shelf.Spec.TrailingZeros
import Derived.Test.YtnlcekpflogjkaaGreatDoorProg
import Derived.Test.YtnlcekpflogjkaaGreatDoorTz14
set_option linter.all false
set_option maxRecDepth 100000
section
namespace Go.Proofs
open Go.Shelf
def Tryz.lays28_ren:Go.Shelf.Ren:=⟨fun|28=>223|n=>n,fun|27=>49|3=>3|4=>4|25=>208|53=>292|0=>0|5=>5|n=>n,fun|0=>1|n=>n⟩
theorem Tryz.lays28:Go.Proofs.Lays7.n28 Tryz.prog Tryz.lays28_ren:={
 mixed:=by kernel_rfl
 f28:=Tryz.func223.trans (congrArg some (by kernel_rfl))
 t0:=Tryz.underlying0
 a0:=Tryz.isAgg0
 z0:=Tryz.sizeOf0
 v0:=Tryz.zeroValue0
 i0:=by kernel_rfl
 t3:=Tryz.underlying3
 a3:=Tryz.isAgg3
 z3:=Tryz.sizeOf3
 v3:=Tryz.zeroValue3
 i3:=by kernel_rfl
 t4:=Tryz.underlying4
 a4:=Tryz.isAgg4
 z4:=Tryz.sizeOf4
 v4:=Tryz.zeroValue4
 i4:=by kernel_rfl
 t5:=Tryz.underlying5
 a5:=Tryz.isAgg5
 z5:=Tryz.sizeOf5
 v5:=Tryz.zeroValue5
 i5:=by kernel_rfl
 t25:=Tryz.underlying208
 a25:=Tryz.isAgg208
 z25:=Tryz.sizeOf208
 v25:=Tryz.zeroValue208
 i25:=by kernel_rfl
 t27:=Tryz.underlying49
 a27:=Tryz.isAgg49
 z27:=Tryz.sizeOf49
 v27:=Tryz.zeroValue49
 i27:=by kernel_rfl
 t53:=Tryz.underlying292
 a53:=Tryz.isAgg292
 z53:=Tryz.sizeOf292
 v53:=Tryz.zeroValue292
 i53:=by kernel_rfl
 g0:=by kernel_rfl }
end Go.Proofs
end
namespace Go.Hx
section
open Go.Proofs Go.RowKit
def be1:goodFn bxr 223:=⟨Tryz.f223,Tryz.func223,by kernel_rfl,by kernel_rfl⟩
def bo7:∀j,j<Lib.deBruijn32tab.length->a0c 1 j=some (.int .u8 (Lib.deBruijn32tab.getD j 0)):=fun j hj=>by
 unfold a0c;rw[show xd 1=Lib.deBruijn32tab.map (fun k:Nat=>Value.int .u8 (k:Int)) from rfl,btm,bt0 hj,bt1,bt0 hj];rfl
def cTz(s:AS):a7 bxr 223 [pA s] (ae [pI (gm s)]):=by
 intro w imm us htab him hus
 match us,hus with
 | [u],⟨hu,_⟩ =>
  obtain⟨rfl,_⟩:=hu
  have h:=Any7.bits_TrailingZeros32 Tryz.lays28 s.toNat s.isLt w fun _ j hj=>by
   have hc:=htab 1 j _ (bo7 j hj);unfold ju at hc
   cases hb:imm 1 with
   |none=>rw[hb]at hc;cases hc
   | some ob =>
    rw[hb]at hc;have hw:=him 1 ob hb;cases ob<;>simp at hc;show w.cell? ⟨1,j,none⟩=_;simp[World.cell?,hw,hc]
  refine h.mono ?_;rintro e w' ⟨rfl,rfl⟩;exact⟨_,imm,rfl,⟨rfl,rfl⟩,fun _ _=>rfl,him,Below.refl _ _⟩
 | [],h=>exact h.elim
 |_::_::_,⟨_,h⟩=>exact h.elim
end
section
section
variable {α:Type}[Inhabited α]
def aaa {wr wr':Bool} {s m:Nat} {e:TypeId} {c:α->Nat->PV} {l l':List α} {x:α} {g:Nat->Nat->PV} (h:l'=l++[x]) (hg:∀j,j<s->CoP (g 0 j) (c x j)) (hm:m=1:=by rfl) (hw:wr'=true->wr=true:=by exact fun h=>h) :
 CoO (.arr wr s e (l.length+m) (iw l.length (lf c l) g)) (.arr wr' s e l'.length (lf c l')):=by
 subst h;refine afl [x] hw hm fun i j hi hj=>?_;obtain rfl:i=0:=by simp at hi;exact hi
 exact hg j hj
def az {wr wr':Bool} {s:Nat} {e:TypeId} {c:α->Nat->PV} {l l':List α} (h:l'=l) (hw:wr'=true->wr=true:=by exact fun h=>h):CoO (.arr wr s e l.length (lf c l)) (.arr wr' s e l'.length (lf c l')):=by
 subst h;exact⟨hw,rfl,rfl,rfl,fun _ _ _ _=>CoP.refl _⟩
end
section
variable {α:Type}[Inhabited α]
section
variable {l l':List α}
def bo{id:Nat}{x:α}(h:l'=l++[x]):CoR (.v (.one (.ref id (l.length+1)))) (.v (.one (.ref id l'.length))):=by subst h;rw[bt8];exact CoR.refl _
def be{id:Nat}(h:l'=l):CoR (.v (.one (.ref id l.length))) (.v (.one (.ref id l'.length))):=by subst h;exact CoR.refl _
def bq {wr wr':Bool} {e:TypeId} {c:α->Nat->PV} {x:α} {g:Nat->Nat->PV} (h:l'=l++[x]) (hg:CoP (g 0 0) (c x 0)) (hw:wr'=true->wr=true:=by exact fun h=>h):
 CoO (.arr wr 1 e (l.length+1) (iw l.length (lf c l) g)) (.arr wr' 1 e l'.length (lf c l')) :=
 aaa h (fun j hj=>by
  obtain rfl:j=0:=by omega
  exact hg) rfl hw
def l5 {wr wr':Bool} {e:TypeId} {c:α->Nat->PV} {x:α} {g:Nat->Nat->PV} (h:l'=l++[x]) (h0:CoP (g 0 0) (c x 0)) (h1:CoP (g 0 1) (c x 1)) (hw:wr'=true->wr=true:=by exact fun h=>h):
 CoO (.arr wr 2 e (l.length+1) (iw l.length (lf c l) g)) (.arr wr' 2 e l'.length (lf c l')) :=
 aaa h (fun j hj=>by
  rcases(by omega:j=0\/j=1)with rfl|rfl
  · exact h0
  exact h1) rfl hw
end
end
def bng(s:AS)(i:Nat):List Nat:=(List.range i).filter fun k=>s.getLsbD k
end
section
def so(b:Nat):Nat:=(List.range 8).countP fun i=>b.testBit i
def u7 (p:Nat->Bool) (a b:Nat):(List.range (a+b)).countP p=(List.range a).countP p+(List.range b).countP fun i=>p (a+i):=by
 rw[List.range_add,bwz,List.countP_map];rfl
def b76 {n k j:Nat} (hj:j<8):(n/2^k%256).testBit j=n.testBit (k+j):=by
 rw[show(256:Nat)=2^8 from rfl,Nat.testBit_mod_two_pow,Nat.testBit_div_two_pow,Nat.add_comm];simp[hj]
def bfj (n:Nat) (hn:n<2^32):(List.range (8+(8+(8+8)))).countP (fun i=>n.testBit i)=so (n/2^24)+so (n/2^16%256)+so (n/2^8%256)+so (n%256):=by
 have h:∀k,(List.range 8).countP (fun i=>n.testBit (k+i))=so (n/2^k%256):=fun k=>by
  unfold so;apply List.countP_congr;intro j hj;rw[b76 (btg.1 hj)]
 have h3:n/2^24%256=n/2^24:=bvh bx5;have h0:=h 0;simp only[bu1,Nat.pow_zero,Nat.div_one]at h0;rw[u7,u7,u7,h0];have e2:=h 8;have e3:=h 16;have e4:=h 24;rw[h3]at e4;simp only[<- bv6]at *;simp only[Nat.reduceAdd]at *;rw[e2,e3,e4];omega
def b1b(s:AS):bsz s=so (s.toNat/2^24)+so (s.toNat/2^16%256)+so (s.toNat/2^8%256)+so (s.toNat%256):=bfj s.toNat s.isLt
def a97 (b:Nat):so b<=8:=by
 have:=List.countP_le_length (p:=fun i=>b.testBit i) (l:=List.range 8);rwa [bvz]at this
def b7i (s:AS) (k:Nat) (hk:k<=32):((asI s).fdiv (2^(min k 32))).toNat=s.toNat/2^k:=by
 rw[a0o];show(((s>>>k).toNat:Nat):Int).toNat=_;rw[btc,bvw,bvq]
def avx (s:AS) (k:Nat) (hk:k<=32):(bu .and .u32 ((asI s).fdiv (2^(min k 32))) 255).toNat=s.toNat/2^k%256:=by
 rw[a0o,show(255:Int)=asI 255 from rfl,it];show(((s>>>k&&&255).toNat:Nat):Int).toNat=_;rw[btc,bwe,bvw,bvq,show(255:AS).toNat=2^8-1 from rfl,Nat.and_two_pow_sub_one_eq_mod]
def b8v (s:AS):(bu .and .u32 (asI s) 255).toNat=s.toNat%256:=by
 rw[show(255:Int)=asI 255 from rfl,it];show(((s&&&255).toNat:Nat):Int).toNat=_;rw[btc,bwe,show(255:AS).toNat=2^8-1 from rfl,Nat.and_two_pow_sub_one_eq_mod]
def axb (a b:Int):0<=bu .and .u32 a b:=by
 show 0<=IntKind.wrap .u32 _;rw[apj (bv7 _) (by have:=(BitVec.ofInt 32 a&&&BitVec.ofInt 32 b).isLt;show((BitVec.ofInt 32 a&&&BitVec.ofInt 32 b).toNat:Int)<_;omega)];exact bv7 _
def bey(s:AS)(k:Nat):0<=(asI s).fdiv (2^(min k 32)):=by rw[a0o];exact tj _
section
variable {X:ByteArray}
def bp7 (s:AS) (hX:(256:Int)<=X.size):0<=(asI s).fdiv (2^(min 24 32))/\(asI s).fdiv (2^(min 24 32))<X.size:=by
 have h1:=bey s 24;have h2:=b7i s 24 bx5;have:=s.isLt;exact⟨h1,by omega⟩
def ixM (s:AS) (k:Nat) (hk:k<=32) (hX:(256:Int)<=X.size):0<=bu .and .u32 ((asI s).fdiv (2^(min k 32))) 255/\bu .and .u32 ((asI s).fdiv (2^(min k 32))) 255<X.size:=by
 have h1:=axb ((asI s).fdiv (2^(min k 32))) 255;have h2:=avx s k hk;exact⟨h1,by omega⟩
def ixL (s:AS) (hX:(256:Int)<=X.size):0<=bu .and .u32 (asI s) 255/\bu .and .u32 (asI s) 255<X.size:=by
 have h1:=axb (asI s) 255;have h2:=b8v s;exact⟨h1,by omega⟩
def aif{n:Int}(h0:0<=n)(h1:n<256):IntKind.wrap .u8 n=n:=qx (by simp only[inR,ui,x8];omega)
def b0q{n:Int}(h0:0<=n)(h1:n<256):IntKind.wrap .i64 n=n:=qx (by simp only[inR,ui,x8];omega)
def bfv {s:AS} {i0 i1 i2 i3:Nat} (hX:∀b,b<256->cw X b=(so b:Int)) (h0:i0=s.toNat/2^24) (h1:i1=s.toNat/2^16%256) (h2:i2=s.toNat/2^8%256) (h3:i3=s.toNat%256):
 IntKind.wrap .i64 (IntKind.wrap .u8 (IntKind.wrap .u8 (IntKind.wrap .u8 (cw X i0+cw X i1)+cw X i2)+cw X i3))=(bsz s:Int):=by
 have:=s.isLt;subst h0 h1 h2 h3;rw[hX _ bx5,hX _ bx5,hX _ bx5,hX _ bx5];have a0:=a97 (s.toNat/2^24);have a1:=a97 (s.toNat/2^16%256);have a2:=a97 (s.toNat/2^8%256);have a3:=a97 (s.toNat%256);rw[b1b];generalize so (s.toNat/2^24)=c0 at *;generalize so (s.toNat/2^16%256)=c1 at *;generalize so (s.toNat/2^8%256)=c2 at *;generalize so (s.toNat%256)=c3 at *;rw[aif (n:=c0+c1) bx5 bx5,aif (n:=c0+c1+c2) bx5 bx5,aif (n:=c0+c1+c2+c3) bx5 bx5,b0q (n:=c0+c1+c2+c3) bx5 bx5];omega
def az6 (s:AS):bsz s<=32:=by
 have:=List.countP_le_length (p:=fun i=>s.getLsbD i) (l:=List.range 32);rwa [bvz]at this
def ay2 {s0:AS} (x:List Nat×AS) (h:x.1++ak x.2=ak s0):x.1.length<=32:=by
 have h1:=congrArg List.length h;rw[bt8,<- yf s0]at h1;have:=az6 s0;omega
def aq3 {s:AS} (h:s≠0):asI s-1=asI (s-1):=by
 have h0:s.toNat≠0:=fun e=>h (bu2 e);have:=s.isLt
 have e1:(s-1).toNat=s.toNat-1:=by
  rw[BitVec.toNat_sub];show(2^32-1+s.toNat)%2^32=_;omega
 unfold asI;rw[e1];omega
def x5 {s:AS} (h:s≠0):(kr true .u32 (asI s-1)).1:=by
 rw[aq3 h];have h1:=tj (s-1);have h2:=a6v (s-1);simp only[kr,inR,ui,x8];omega
def ac7{s:AS}(h:s≠0):bu .and .u32 (asI s) (asI s-1)=asI (s&&&(s-1)):=by rw[aq3 h,it]
def gq(a b:Int):Int:=if a<b then -1 else if b<a then 1 else 0
def a4t(a b:AS):Int:=if gq (bsz a) (bsz b)=0 then gq (asI a) (asI b)else gq (bsz a) (bsz b)
end
end
section
open Go.Proofs
def a3z:goodFn bxr 173:=wgx Tryz.func173
def amf(s0:AS):a7 bxr 173 [pA s0] (ae [pP (il (ak s0))]):=by
 refine hpx (nt:=16) Tryz.func173 ?_;refine cr ?_;refine d8 3 900 true 1 3 (lf iC []) bxc rfl (CoP.sl rfl (.inr rfl) (fun h=>h) (fun i j hi _=>absurd hi (bt9 i))) (.inr rfl) rfl ?_;refine am (ι:=List Nat×AS) kn km (fun x=>⟨[(3,some (.v (.one (.ref 900 x.1.length)))),(0,some (vA x.2))],[(900,some (.arr true 1 3 x.1.length (lf iC x.1)))]⟩) (fun x=>x.1++ak x.2=ak s0) (fun x=>x.2.toNat) (([],s0)) (rfl) kk ?_;rintro x hx;have hlen:=ay2 x hx;refine w_6 ?_;refine hcn ?_ ?_<;>intro h0
 ·
  have hne:x.2≠0:=fun e=>h0 (by rw[e];rfl);refine w_6 ?_;refine qcx be1 (cTz x.2) ?_;refine m9 0 ?_;refine r9 1 true ?_;refine w_5 ?_;refine rq rfl rfl rfl rfl rfl ?_ (hp:=(x5 hne));refine w_3 ?_;refine⟨(x.1++[gm x.2],x.2&&&(x.2-1)), ?_, ?_, ?_⟩
  · show (x.1++[gm x.2])++ak (x.2&&&(x.2-1))=ak s0
    rw[<- hx,b02 hne,bu4];rfl
  · exact ao6 hne
  exact⟨⟨⟨_,rfl,(bo rfl)⟩,⟨_,rfl,(df (ac7 hne))⟩,trivial⟩,⟨⟨_,rfl,(bq rfl (CoP.refl _))⟩,trivial⟩⟩
 have hz:x.2=0:=cb.1 h0;refine w_6 ?_;refine bj 2 rfl rfl rfl ?_;exact hx8 rfl rfl rfl (⟨CoC.one (CoP.of_eq (by rw[hz,awn,btq]at hx;rw[<- hx];rfl)),trivial⟩)
def bml (s:AS):a7 bxr 168 [pA s] (ae [pI (bsz s)]):=by
 refine hpx (nt:=21) Tryz.func168 ?_;refine w_8 ?_;refine rq rfl rfl rfl rfl rfl ?_ (hp:=(bp7 s (by decide +kernel)));refine w_3 ?_;refine rq rfl rfl rfl rfl rfl ?_ (hp:=(ixM s 16 bx5 (by decide +kernel)));refine rqw rfl rfl rfl rfl rfl ?_;refine w_3 ?_;refine rq rfl rfl rfl rfl rfl ?_ (hp:=(ixM s 8 bx5 (by decide +kernel)));refine rqw rfl rfl rfl rfl rfl ?_;refine w_2 ?_;refine rq rfl rfl rfl rfl rfl ?_ (hp:=(ixL s (by decide +kernel)));(iterate 2 refine rqw rfl rfl rfl rfl rfl ?_);refine v_3 ?_;exact⟨cci (bfv (by decide +kernel) (b7i s 24 bx5) (avx s 16 bx5) (avx s 8 bx5) (b8v s)),trivial⟩
def a08:goodFn bxr 114:=wgx Tryz.func114
def a9j (s:AS):a7 bxr 114 [pA s] (ae [pI (bsz s)]):=by
 refine hpx (nt:=5) Tryz.func114 ?_;refine w_7 ?_;refine qcx (wgx Tryz.func168) (bml s) ?_;refine v_2 ?_;exact CoL.refl _
end
section
def bsw(l:List AS)(k:Nat)(r:AS):List AS:=l.take k++r::l.drop k
def adg {l:List AS} {j:Nat} (h:j<l.length):l.getD j default∈l:=by
 rw[bt1,bt0 h];exact bti h
def alm (x:AS):∀l:List AS,(py x l).length<=l.length+1
 | []=>by simp[py]
 | y::l=>by
  unfold py;have:=alm x l;split
  · simp
  split
  · simp
  simp only[bud];omega
def pn(l:List AS):(ord l).length<=l.length:=by
 have:∀(l o:List AS),(l.foldl (fun o x=>py x o) o).length<=o.length+l.length:=by
  intro l
  induction l with
  |nil=>intro o;simp
  | cons x l ih =>
   intro o;have h1:=ih (py x o);have h2:=alm x o;simp only[bw1,bud];omega
 have h:=this l [];simpa [ord]using h
def jC:Int->Nat->PV:=fun n _=>.raw (.int .i64 n)
def orF(l:List Int):Int:=(l.find? fun x=>decide (x≠0)).getD 0
def bmv {l:List Int} {i:Nat} (hi:i<l.length) (hI:∀j,j<i->decide (l.getD j default=0)=true) (h:¬l.getD i default=0):orF l=l.getD i default:=by
 unfold orF
 have:l.find? (fun x=>decide (x≠0))=some (l.getD i default):=by
  rw[List.find?_eq_some_iff_getElem];refine⟨decide_eq_true h,i,hi,by simp[List.getD,hi],fun j hj=>?_⟩;have:=of_decide_eq_true (hI j hj);rw[bt1,bt0 bx5,buq]at this;simp[this]
 rw[this];rfl
def bn4 {l:List Int} (hI:∀j,j<l.length->decide (l.getD j default=0)=true):orF l=0:=by
 unfold orF
 have:l.find? (fun x=>decide (x≠0))=none:=by
  rw[bva];intro x hx;obtain⟨j,hj,rfl⟩:=btt hx;have:=of_decide_eq_true (hI j hj);rw[bt1,bt0 hj,buq]at this;simp[this]
 rw[this];rfl
def bec (a b:AS):orF [gq (bsz a) (bsz b),gq (asI a) (asI b)]=a4t a b:=by
 unfold orF a4t;by_cases h:gq (bsz a) (bsz b)=0
 · by_cases h2:gq (asI a) (asI b)=0<;>simp[h,h2]
 simp[h]
def beo {α:Type} [Inhabited α] {cl:Bool} {c:α->Nat->PV} {x y:α} {f:Nat->Nat->PV} (h0:CoP (f 0 0) (c x 0)) (h1:CoP (f 1 0) (c y 0)):CoP (.sl 2 1 cl f) (psl 1 c [x,y]) :=
 CoP.sl rfl (.inl rfl) (fun h=>by cases h) fun i j hi hj=>by
  obtain rfl:j=0:=by omega
  rcases(by omega:i=0\/i=1)with rfl|rfl
  · exact h0
  exact h1
def jn {α:Type} [Inhabited α] {wr wr':Bool} {s n m:Nat} {e:TypeId} {c:α->Nat->PV} {l l':List α} (h:l'=l) (hn:n=m) (hw:wr'=true->wr=true:=by exact fun h=>h):CoO (.arr wr s e n (lf c l)) (.arr wr' s e m (lf c l')):=by
 subst h hn;exact⟨hw,rfl,rfl,rfl,fun _ _ _ _=>CoP.refl _⟩
def b3t {a b:AS}:decide (a4t a b<0)=bef a b:=by
 rw[bv5,decide_eq_true_iff,un];unfold a4t gq asI;split<;>(repeat' split)<;>omega
end
section
open Go.Proofs
def b90 (a:Int):a7 bxr 214 [pI a] (ae [pB false]):=by
 refine hpx (nt:=6) Tryz.func214 ?_;refine gv ?_;exact hx8 rfl rfl rfl (⟨ccb bx8,trivial⟩)
def b8b (a:AS):a7 bxr 252 [pA a] (ae [pB false]):=by
 refine hpx (nt:=6) Tryz.func252 ?_;refine gv ?_;exact hx8 rfl rfl rfl (⟨ccb bx8,trivial⟩)
def ah3:goodFn bxr 155:=wgx Tryz.func155
def bxk{p:Prop}(h:p:=by unfold gq;first|(rw[if_pos bx5])|(rw[if_neg bx5,if_pos bx5])|(rw[if_neg bx5,if_neg bx5])):p:=h
def awr (a b:Int):a7 bxr 155 [pI a,pI b] (ae [pI (gq a b)]):=by
 refine hpx (nt:=20) Tryz.func155 ?_;refine w_7 ?_;refine qcx (wgx Tryz.func214) (b90 _) ?_;refine w_5 ?_;refine qcx (wgx Tryz.func214) (b90 _) ?_;refine b6f ?_;refine hcd ?_ ?_<;>intro h0
 · refine v_4 ?_;exact⟨cci bxk,trivial⟩
 refine w_8 ?_;refine hcd ?_ ?_<;>intro h1
 · refine v_4 ?_;exact⟨cci bxk,trivial⟩
 refine v_5 ?_;exact⟨cci bxk,trivial⟩
def bnt (a b:AS):a7 bxr 222 [pA a,pA b] (ae [pI (gq (asI a) (asI b))]):=by
 refine hpx (nt:=20) Tryz.func222 ?_;refine w_7 ?_;refine qcx (wgx Tryz.func252) (b8b _) ?_;refine w_5 ?_;refine qcx (wgx Tryz.func252) (b8b _) ?_;refine b6f ?_;refine hcd ?_ ?_<;>intro h0
 · refine v_4 ?_;exact⟨cci bxk,trivial⟩
 refine w_8 ?_;refine hcd ?_ ?_<;>intro h1
 · refine v_4 ?_;exact⟨cci bxk,trivial⟩
 refine v_5 ?_;exact⟨cci bxk,trivial⟩
def cOr(l:List Int):a7 bxr 154 [pP (psl 1 jC l)] (ae [pI (orF l)]):=by
 refine hpx (nt:=18) Tryz.func154 ?_;refine dt ?_;refine e9 0 rfl fun hn=>?_;refine w_7 ?_;refine dp (ι:=Unit) (ka 3 kn) km (fun _i=>⟨[],[]⟩) (fun _i=>orF l=0) ?_ ?_
 ·
  refine w_7 ?_;refine am (ι:=Nat) (ka 3 (ka 6 (ka 7 kn))) km (fun i=>⟨[(8,some (vI i))],[]⟩) (fun i=>i<=l.length/\(∀j,j<i->decide (l.getD j default=0)=true)) (fun i=>l.length-i) (0) (⟨bt6 _,d5⟩) kk ?_;rintro i ⟨hi,hI⟩;refine w_5 ?_;refine hcd ?_ ?_<;>intro h0
  ·
   refine jk ?_;refine hcn ?_ ?_<;>intro h1
   · refine v_5 ?_;exact⟨cci (bmv (i:=i) bx5 hI h1).symm,trivial⟩
   refine w_5 ?_;refine lpz (i+1) kk ?_;exact⟨by show i+1<=_;omega,c6 hI (decide_eq_true h1)⟩
  refine ek ?_;refine⟨(), ?_, ?_⟩
  · exact bn4 fun j hj=>hI j bx5
  exact kk
 rintro _ hj;refine v_5 ?_;exact⟨cci hj.symm,trivial⟩
def b5k (a b:AS):a7 bxr 170 [pA a,pA b] (ae [pI (a4t a b)]):=by
 refine hpx (nt:=15) Tryz.func170 ?_;refine w_7 ?_;refine qcx a08 (a9j _) ?_;refine qy ?_;refine qcx a08 (a9j _) ?_;refine qcx ah3 (awr _ _) ?_;refine w_2 ?_;refine qcx (wgx Tryz.func222) (bnt _ _) ?_;refine m9 0 ?_;refine rc rfl rfl rfl rfl rfl rfl (wgx Tryz.func154) (cOr [gq (bsz a) (bsz b),gq (asI a) (asI b)]) (⟨CoC.one (beo (CoP.refl _) (CoP.refl _)),trivial⟩) rfl rfl ?_;refine v_2 ?_;exact⟨cci (bec a b),trivial⟩
end
end Go.Hx

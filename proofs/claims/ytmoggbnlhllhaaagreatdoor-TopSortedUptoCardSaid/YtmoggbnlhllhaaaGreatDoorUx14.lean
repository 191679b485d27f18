/- A part of the proof: LyTz TzW Cs7 Cs8 V6 Cs9 V7. -/
import Derived.Shelf.Lays7
import Derived.Shelf.Spec.TrailingZeros
import Derived.Test.YtmoggbnlhllhaaaGreatDoorProg
import Derived.Test.YtmoggbnlhllhaaaGreatDoorUx13
set_option linter.all false
set_option maxRecDepth 100000
section
namespace Go.Proofs
open Go.Shelf
def Tryz.lays28_ren:Go.Shelf.Ren:=⟨fun|28=>147|n=>n,fun|27=>34|3=>3|4=>4|25=>183|53=>278|0=>0|5=>5|n=>n,fun|0=>0|n=>n⟩
theorem Tryz.lays28:Go.Proofs.Lays7.n28 Tryz.prog Tryz.lays28_ren:={
 mixed:=by kernel_rfl
 f28:=Tryz.func147.trans (congrArg some (by kernel_rfl))
 t0:=Tryz.underlying0
 a0:=Tryz.isAgg0
 z0:=Tryz.sizeOf0
 v0:=Tryz.zeroValue0
 i0:=by kernel_rfl
 t3:=Tryz.underlying3
 a3:=Tryz.isAgg3
 z3:=Tryz.sizeOf3
 v3:=Tryz.zeroValue3
 i3:=by kernel_rfl
 t4:=Tryz.underlying4
 a4:=Tryz.isAgg4
 z4:=Tryz.sizeOf4
 v4:=Tryz.zeroValue4
 i4:=by kernel_rfl
 t5:=Tryz.underlying5
 a5:=Tryz.isAgg5
 z5:=Tryz.sizeOf5
 v5:=Tryz.zeroValue5
 i5:=by kernel_rfl
 t25:=Tryz.underlying183
 a25:=Tryz.isAgg183
 z25:=Tryz.sizeOf183
 v25:=Tryz.zeroValue183
 i25:=by kernel_rfl
 t27:=Tryz.underlying34
 a27:=Tryz.isAgg34
 z27:=Tryz.sizeOf34
 v27:=Tryz.zeroValue34
 i27:=by kernel_rfl
 t53:=Tryz.underlying278
 a53:=Tryz.isAgg278
 z53:=Tryz.sizeOf278
 v53:=Tryz.zeroValue278
 i53:=by kernel_rfl
 g0:=by kernel_rfl }
end Go.Proofs
end
namespace Go.Hx
section
open Go.Proofs Go.RowKit
def b6i:a6 bqh 147:=⟨Tryz.f147,Tryz.func147,by kernel_rfl,by kernel_rfl⟩
def bfv:∀j,j<Lib.deBruijn32tab.length->xv 0 j=some (.int .u8 (Lib.deBruijn32tab.getD j 0)):=fun j hj=>by
 unfold xv;rw[show ud 0=Lib.deBruijn32tab.map (fun k:Nat=>Value.int .u8 (k:Int)) from rfl,bn1,blz hj,bm7,blz hj];rfl
def cTz(s:AS):a7 bqh 147 [pA s] (af [pI (j1 s)]):=by
 intro w imm us htab him hus
 match us,hus with
 | [u],⟨hu,_⟩ =>
  obtain⟨rfl,_⟩:=hu
  have h:=Any7.bits_TrailingZeros32 Tryz.lays28 s.toNat s.isLt w fun _ j hj=>by
   have hc:=htab 0 j _ (bfv j hj);unfold gw at hc
   cases hb:imm 0 with
   |none=>rw[hb]at hc;cases hc
   | some ob =>
    rw[hb]at hc;have hw:=him 0 ob hb;cases ob<;>simp at hc;show w.cell? ⟨0,j,none⟩=_;simp[World.cell?,hw,hc]
  refine h.mono ?_;rintro e w' ⟨rfl,rfl⟩;exact⟨_,imm,rfl,⟨rfl,rfl⟩,fun _ _=>rfl,him,Below.refl _ _⟩
 | [],h=>exact h.elim
 |_::_::_,⟨_,h⟩=>exact h.elim
end
section
section
variable {α:Type}[Inhabited α]
def a7a {wr wr':Bool} {s m:Nat} {e:TypeId} {c:α->Nat->PV} {l l':List α} {x:α} {g:Nat->Nat->PV} (h:l'=l++[x]) (hg:∀j,j<s->CoP (g 0 j) (c x j)) (hm:m=1:=by rfl) (hw:wr'=true->wr=true:=by exact fun h=>h) :
 CoO (.arr wr s e (l.length+m) (f3 l.length (lf c l) g)) (.arr wr' s e l'.length (lf c l')):=by
 subst h;refine a1t [x] hw hm fun i j hi hj=>?_;obtain rfl:i=0:=by simp at hi;exact hi
 exact hg j hj
def bf {wr wr':Bool} {s:Nat} {e:TypeId} {c:α->Nat->PV} {l l':List α} (h:l'=l) (hw:wr'=true->wr=true:=by exact fun h=>h):CoO (.arr wr s e l.length (lf c l)) (.arr wr' s e l'.length (lf c l')):=by
 subst h;exact⟨hw,rfl,rfl,rfl,fun _ _ _ _=>CoP.refl _⟩
end
section
variable {α:Type}[Inhabited α]
section
variable {l l':List α}
def bj{id:Nat}{x:α}(h:l'=l++[x]):CoR (.v (.one (.ref id (l.length+1)))) (.v (.one (.ref id l'.length))):=by subst h;rw[bm2];exact CoR.refl _
def bo{id:Nat}(h:l'=l):CoR (.v (.one (.ref id l.length))) (.v (.one (.ref id l'.length))):=by subst h;exact CoR.refl _
def bm {wr wr':Bool} {e:TypeId} {c:α->Nat->PV} {x:α} {g:Nat->Nat->PV} (h:l'=l++[x]) (hg:CoP (g 0 0) (c x 0)) (hw:wr'=true->wr=true:=by exact fun h=>h):
 CoO (.arr wr 1 e (l.length+1) (f3 l.length (lf c l) g)) (.arr wr' 1 e l'.length (lf c l')) :=
 a7a h (fun j hj=>by
  obtain rfl:j=0:=by omega
  exact hg) rfl hw
def p8 {wr wr':Bool} {e:TypeId} {c:α->Nat->PV} {x:α} {g:Nat->Nat->PV} (h:l'=l++[x]) (h0:CoP (g 0 0) (c x 0)) (h1:CoP (g 0 1) (c x 1)) (hw:wr'=true->wr=true:=by exact fun h=>h):
 CoO (.arr wr 2 e (l.length+1) (f3 l.length (lf c l) g)) (.arr wr' 2 e l'.length (lf c l')) :=
 a7a h (fun j hj=>by
  rcases(by omega:j=0\/j=1)with rfl|rfl
  · exact h0
  exact h1) rfl hw
end
end
def bf9(s:AS)(i:Nat):List Nat:=(List.range i).filter fun k=>s.getLsbD k
end
section
def qg(b:Nat):Nat:=(List.range 8).countP fun i=>b.testBit i
def sa (p:Nat->Bool) (a b:Nat):(List.range (a+b)).countP p=(List.range a).countP p+(List.range b).countP fun i=>p (a+i):=by
 rw[List.range_add,List.countP_append,List.countP_map];rfl
def b0g {n k j:Nat} (hj:j<8):(n/2^k%256).testBit j=n.testBit (k+j):=by
 rw[show(256:Nat)=2^8 from rfl,Nat.testBit_mod_two_pow,Nat.testBit_div_two_pow,Nat.add_comm];simp[hj]
def b9m (n:Nat) (hn:n<2^32):(List.range (8+(8+(8+8)))).countP (fun i=>n.testBit i)=qg (n/2^24)+qg (n/2^16%256)+qg (n/2^8%256)+qg (n%256):=by
 have h:∀k,(List.range 8).countP (fun i=>n.testBit (k+i))=qg (n/2^k%256):=fun k=>by
  unfold qg;apply List.countP_congr;intro j hj;rw[b0g (bmm.1 hj)]
 have h3:n/2^24%256=n/2^24:=bpi bpw;have h0:=h 0;simp only[bn9,Nat.pow_zero,Nat.div_one]at h0;rw[sa,sa,sa,h0];have e2:=h 8;have e3:=h 16;have e4:=h 24;rw[h3]at e4;simp only[<- bo2]at *;simp only[Nat.reduceAdd]at *;rw[e2,e3,e4];omega
def auh(s:AS):bsz s=qg (s.toNat/2^24)+qg (s.toNat/2^16%256)+qg (s.toNat/2^8%256)+qg (s.toNat%256):=b9m s.toNat s.isLt
def a7o (b:Nat):qg b<=8:=by
 have:=List.countP_le_length (p:=fun i=>b.testBit i) (l:=List.range 8);rwa [bpc]at this
def b0o (s:AS) (k:Nat) (hk:k<=32):((asI s).fdiv (2^(min k 32))).toNat=s.toNat/2^k:=by
 rw[adj];show(((s>>>k).toNat:Nat):Int).toNat=_;rw[bmc,boi,boc]
def asc (s:AS) (k:Nat) (hk:k<=32):(cu .and .u32 ((asI s).fdiv (2^(min k 32))) 255).toNat=s.toNat/2^k%256:=by
 rw[adj,show(255:Int)=asI 255 from rfl,yu];show(((s>>>k&&&255).toNat:Nat):Int).toNat=_;rw[bmc,boy,boi,boc,show(255:AS).toNat=2^8-1 from rfl,Nat.and_two_pow_sub_one_eq_mod]
def b0t (s:AS):(cu .and .u32 (asI s) 255).toNat=s.toNat%256:=by
 rw[show(255:Int)=asI 255 from rfl,yu];show(((s&&&255).toNat:Nat):Int).toNat=_;rw[bmc,boy,show(255:AS).toNat=2^8-1 from rfl,Nat.and_two_pow_sub_one_eq_mod]
def asw (a b:Int):0<=cu .and .u32 a b:=by
 show 0<=IntKind.wrap .u32 _;rw[aio (bni _) (by have:=(BitVec.ofInt 32 a&&&BitVec.ofInt 32 b).isLt;show((BitVec.ofInt 32 a&&&BitVec.ofInt 32 b).toNat:Int)<_;omega)];exact bni _
def b3l(s:AS)(k:Nat):0<=(asI s).fdiv (2^(min k 32)):=by rw[adj];exact qo _
section
variable {X:ByteArray}
def bi4 (s:AS) (hX:(256:Int)<=X.size):0<=(asI s).fdiv (2^(min 24 32))/\(asI s).fdiv (2^(min 24 32))<X.size:=by
 have h1:=b3l s 24;have h2:=b0o s 24 bpw;have:=s.isLt;exact⟨h1,by omega⟩
def ixM (s:AS) (k:Nat) (hk:k<=32) (hX:(256:Int)<=X.size):0<=cu .and .u32 ((asI s).fdiv (2^(min k 32))) 255/\cu .and .u32 ((asI s).fdiv (2^(min k 32))) 255<X.size:=by
 have h1:=asw ((asI s).fdiv (2^(min k 32))) 255;have h2:=asc s k hk;exact⟨h1,by omega⟩
def ixL (s:AS) (hX:(256:Int)<=X.size):0<=cu .and .u32 (asI s) 255/\cu .and .u32 (asI s) 255<X.size:=by
 have h1:=asw (asI s) 255;have h2:=b0t s;exact⟨h1,by omega⟩
def aep{n:Int}(h0:0<=n)(h1:n<256):IntKind.wrap .u8 n=n:=rp (by simp only[inR,l8,ml];omega)
def avo{n:Int}(h0:0<=n)(h1:n<256):IntKind.wrap .i64 n=n:=rp (by simp only[inR,l8,ml];omega)
def bas {s:AS} {i0 i1 i2 i3:Nat} (hX:∀b,b<256->ce X b=(qg b:Int)) (h0:i0=s.toNat/2^24) (h1:i1=s.toNat/2^16%256) (h2:i2=s.toNat/2^8%256) (h3:i3=s.toNat%256):
 IntKind.wrap .i64 (IntKind.wrap .u8 (IntKind.wrap .u8 (IntKind.wrap .u8 (ce X i0+ce X i1)+ce X i2)+ce X i3))=(bsz s:Int):=by
 have:=s.isLt;subst h0 h1 h2 h3;rw[hX _ bpw,hX _ bpw,hX _ bpw,hX _ bpw];have a0:=a7o (s.toNat/2^24);have a1:=a7o (s.toNat/2^16%256);have a2:=a7o (s.toNat/2^8%256);have a3:=a7o (s.toNat%256);rw[auh];generalize qg (s.toNat/2^24)=c0 at *;generalize qg (s.toNat/2^16%256)=c1 at *;generalize qg (s.toNat/2^8%256)=c2 at *;generalize qg (s.toNat%256)=c3 at *;rw[aep (n:=c0+c1) bpw bpw,aep (n:=c0+c1+c2) bpw bpw,aep (n:=c0+c1+c2+c3) bpw bpw,avo (n:=c0+c1+c2+c3) bpw bpw];omega
def at4 (s:AS):bsz s<=32:=by
 have:=List.countP_le_length (p:=fun i=>s.getLsbD i) (l:=List.range 32);rwa [bpc]at this
def avw {s0:AS} (x:List Nat×AS) (h:x.1++bc x.2=bc s0):x.1.length<=32:=by
 have h1:=congrArg List.length h;rw[bm2,<- ag3 s0]at h1;have:=at4 s0;omega
def aj6 {s:AS} (h:s≠0):asI s-1=asI (s-1):=by
 have h0:s.toNat≠0:=fun e=>h (bn3 e);have:=s.isLt
 have e1:(s-1).toNat=s.toNat-1:=by
  rw[BitVec.toNat_sub];show(2^32-1+s.toNat)%2^32=_;omega
 unfold asI;rw[e1];omega
def a2k {s:AS} (h:s≠0):(j4 true .u32 (asI s-1)).1:=by
 rw[aj6 h];have h1:=qo (s-1);have h2:=a6m (s-1);simp only[j4,inR,l8,ml];omega
def aji{s:AS}(h:s≠0):cu .and .u32 (asI s) (asI s-1)=asI (s&&&(s-1)):=by rw[aj6 h,yu]
def i7(a b:Int):Int:=if a<b then -1 else if b<a then 1 else 0
def a3q(a b:AS):Int:=if i7 (bsz a) (bsz b)=0 then i7 (asI a) (asI b)else i7 (bsz a) (bsz b)
end
end
section
open Go.Proofs
def ajk:a6 bqh 88:=wgx Tryz.func88
def axy(s0:AS):a7 bqh 88 [pA s0] (af [pP (il (bc s0))]):=by
 refine hpx (nt:=16) Tryz.func88 ?_;refine eu ?_;refine cr 3 900 true 1 3 (lf iC []) bq4 rfl (CoP.sl rfl (.inr rfl) (fun h=>h) (fun i j hi _=>absurd hi (bm6 i))) (.inr rfl) rfl ?_;refine ar (ι:=List Nat×AS) kn km (fun x=>⟨[(3,some (.v (.one (.ref 900 x.1.length)))),(0,some (vA x.2))],[(900,some (.arr true 1 3 x.1.length (lf iC x.1)))]⟩) (fun x=>x.1++bc x.2=bc s0) (fun x=>x.2.toNat) (([],s0)) (rfl) kk ?_;rintro x hx;have hlen:=avw x hx;refine w_6 ?_;refine hcn ?_ ?_<;>intro h0
 ·
  have hne:x.2≠0:=fun e=>h0 (by rw[e];rfl);refine w_6 ?_;refine qcx b6i (cTz x.2) ?_;refine m9 0 ?_;refine rz9 1 true ?_;refine w_5 ?_;refine rq rfl rfl rfl rfl rfl ?_ (hp:=(a2k hne));refine w_3 ?_;refine⟨(x.1++[j1 x.2],x.2&&&(x.2-1)), ?_, ?_, ?_⟩
  · show (x.1++[j1 x.2])++bc (x.2&&&(x.2-1))=bc s0
    rw[<- hx,auy hne,bn6];rfl
  · exact aj9 hne
  exact⟨⟨⟨_,rfl,(bj rfl)⟩,⟨_,rfl,(nq (aji hne))⟩,trivial⟩,⟨⟨_,rfl,(bm rfl (CoP.refl _))⟩,trivial⟩⟩
 have hz:x.2=0:=d7.1 h0;refine w_6 ?_;refine be 2 rfl rfl rfl ?_;exact hx8 rfl rfl rfl (⟨CoC.one (CoP.of_eq (by rw[hz,aqr,bmv]at hx;rw[<- hx];rfl)),trivial⟩)
def b6u:a6 bqh 173:=wgx Tryz.func173
def bg0 (s:AS):a7 bqh 173 [pA s] (af [pI (bsz s)]):=by
 refine hpx (nt:=21) Tryz.func173 ?_;refine w_8 ?_;refine rq rfl rfl rfl rfl rfl ?_ (hp:=(bi4 s (by decide +kernel)));refine w_3 ?_;refine rq rfl rfl rfl rfl rfl ?_ (hp:=(ixM s 16 bpw (by decide +kernel)));refine rqw rfl rfl rfl rfl rfl ?_;refine w_3 ?_;refine rq rfl rfl rfl rfl rfl ?_ (hp:=(ixM s 8 bpw (by decide +kernel)));refine rqw rfl rfl rfl rfl rfl ?_;refine w_2 ?_;refine rq rfl rfl rfl rfl rfl ?_ (hp:=(ixL s (by decide +kernel)));(iterate 2 refine rqw rfl rfl rfl rfl rfl ?_);refine v_3 ?_;exact⟨cci (bas (by decide +kernel) (b0o s 24 bpw) (asc s 16 bpw) (asc s 8 bpw) (b0t s)),trivial⟩
def a0w:a6 bqh 107:=wgx Tryz.func107
def acj (s:AS):a7 bqh 107 [pA s] (af [pI (bsz s)]):=by
 refine hpx (nt:=5) Tryz.func107 ?_;refine w_7 ?_;refine qcx b6u (bg0 s) ?_;refine v_2 ?_;exact CoL.refl _
end
section
def blx(l:List AS)(k:Nat)(r:AS):List AS:=l.take k++r::l.drop k
def ahz (x:AS):∀l:List AS,(o9 x l).length<=l.length+1
 | []=>by simp[o9]
 | y::l=>by
  unfold o9;have:=ahz x l;split
  · simp
  split
  · simp
  simp only[bna];omega
def xx(l:List AS):(ord l).length<=l.length:=by
 have:∀(l o:List AS),(l.foldl (fun o x=>o9 x o) o).length<=o.length+l.length:=by
  intro l
  induction l with
  |nil=>intro o;simp
  | cons x l ih =>
   intro o;have h1:=ih (o9 x o);have h2:=ahz x o;simp only[bnq,bna];omega
 have h:=this l [];simpa [ord]using h
def jC:Int->Nat->PV:=fun n _=>.raw (.int .i64 n)
def orF(l:List Int):Int:=(l.find? fun x=>decide (x≠0)).getD 0
def bep {l:List Int} {i:Nat} (hi:i<l.length) (hI:∀j,j<i->decide (l.getD j default=0)=true) (h:¬l.getD i default=0):orF l=l.getD i default:=by
 unfold orF
 have:l.find? (fun x=>decide (x≠0))=some (l.getD i default):=by
  rw[List.find?_eq_some_iff_getElem];refine⟨decide_eq_true h,i,hi,by simp[List.getD,hi],fun j hj=>?_⟩;have:=of_decide_eq_true (hI j hj);rw[bm7,blz bpw,bnu]at this;simp[this]
 rw[this];rfl
def bdf {l:List Int} (hI:∀j,j<l.length->decide (l.getD j default=0)=true):orF l=0:=by
 unfold orF
 have:l.find? (fun x=>decide (x≠0))=none:=by
  rw[List.find?_eq_none];intro x hx;obtain⟨j,hj,rfl⟩:=bmj hx;have:=of_decide_eq_true (hI j hj);rw[bm7,blz hj,bnu]at this;simp[this]
 rw[this];rfl
def b5m (a b:AS):orF [i7 (bsz a) (bsz b),i7 (asI a) (asI b)]=a3q a b:=by
 unfold orF a3q;by_cases h:i7 (bsz a) (bsz b)=0
 · by_cases h2:i7 (asI a) (asI b)=0<;>simp[h,h2]
 simp[h]
def b5r {α:Type} [Inhabited α] {cl:Bool} {c:α->Nat->PV} {x y:α} {f:Nat->Nat->PV} (h0:CoP (f 0 0) (c x 0)) (h1:CoP (f 1 0) (c y 0)):CoP (.sl 2 1 cl f) (psl 1 c [x,y]) :=
 CoP.sl rfl (.inl rfl) (fun h=>by cases h) fun i j hi hj=>by
  obtain rfl:j=0:=by omega
  rcases(by omega:i=0\/i=1)with rfl|rfl
  · exact h0
  exact h1
def ja {α:Type} [Inhabited α] {wr wr':Bool} {s n m:Nat} {e:TypeId} {c:α->Nat->PV} {l l':List α} (h:l'=l) (hn:n=m) (hw:wr'=true->wr=true:=by exact fun h=>h):CoO (.arr wr s e n (lf c l)) (.arr wr' s e m (lf c l')):=by
 subst h hn;exact⟨hw,rfl,rfl,rfl,fun _ _ _ _=>CoP.refl _⟩
def awl {a b:AS}:decide (a3q a b<0)=bef a b:=by
 rw[bnc,decide_eq_true_iff,sd];unfold a3q i7 asI;split<;>(repeat' split)<;>omega
end
section
open Go.Proofs
def adl:a6 bqh 240:=wgx Tryz.func240
def ar4 (a:Int):a7 bqh 240 [pI a] (af [pB false]):=by
 refine hpx (nt:=6) Tryz.func240 ?_;refine jb ?_;exact hx8 rfl rfl rfl (⟨ccb bpz,trivial⟩)
def aoz:a6 bqh 241:=wgx Tryz.func241
def b0u (a:AS):a7 bqh 241 [pA a] (af [pB false]):=by
 refine hpx (nt:=6) Tryz.func241 ?_;refine jb ?_;exact hx8 rfl rfl rfl (⟨ccb bpz,trivial⟩)
def aoi:a6 bqh 214:=wgx Tryz.func214
def bqb{p:Prop}(h:p:=by unfold i7;first|(rw[if_pos bpw])|(rw[if_neg bpw,if_pos bpw])|(rw[if_neg bpw,if_neg bpw])):p:=h
def b12 (a b:Int):a7 bqh 214 [pI a,pI b] (af [pI (i7 a b)]):=by
 refine hpx (nt:=20) Tryz.func214 ?_;refine w_7 ?_;refine qcx adl (ar4 _) ?_;refine w_5 ?_;refine qcx adl (ar4 _) ?_;refine aya ?_;refine hcd ?_ ?_<;>intro h0
 · refine v_4 ?_;exact⟨cci bqb,trivial⟩
 refine w_8 ?_;refine hcd ?_ ?_<;>intro h1
 · refine v_4 ?_;exact⟨cci bqb,trivial⟩
 refine v_5 ?_;exact⟨cci bqb,trivial⟩
def b62:a6 bqh 215:=wgx Tryz.func215
def bdz (a b:AS):a7 bqh 215 [pA a,pA b] (af [pI (i7 (asI a) (asI b))]):=by
 refine hpx (nt:=20) Tryz.func215 ?_;refine w_7 ?_;refine qcx aoz (b0u _) ?_;refine w_5 ?_;refine qcx aoz (b0u _) ?_;refine aya ?_;refine hcd ?_ ?_<;>intro h0
 · refine v_4 ?_;exact⟨cci bqb,trivial⟩
 refine w_8 ?_;refine hcd ?_ ?_<;>intro h1
 · refine v_4 ?_;exact⟨cci bqb,trivial⟩
 refine v_5 ?_;exact⟨cci bqb,trivial⟩
def aoh:a6 bqh 213:=wgx Tryz.func213
def cOr(l:List Int):a7 bqh 213 [pP (psl 1 jC l)] (af [pI (orF l)]):=by
 refine hpx (nt:=18) Tryz.func213 ?_;refine eq ?_;refine fp 0 rfl fun hn=>?_;refine w_7 ?_;refine dn (ι:=Unit) (ka 3 kn) km (fun _i=>⟨[],[]⟩) (fun _i=>orF l=0) ?_ ?_
 ·
  refine w_7 ?_;refine ar (ι:=Nat) (ka 3 (ka 6 (ka 7 kn))) km (fun i=>⟨[(8,some (vI i))],[]⟩) (fun i=>i<=l.length/\(∀j,j<i->decide (l.getD j default=0)=true)) (fun i=>l.length-i) (0) (⟨bm3 _,e9⟩) kk ?_;rintro i ⟨hi,hI⟩;refine w_5 ?_;refine hcd ?_ ?_<;>intro h0
  ·
   refine jd ?_;refine hcn ?_ ?_<;>intro h1
   · refine v_5 ?_;exact⟨cci (bep (i:=i) bpw hI h1).symm,trivial⟩
   refine w_5 ?_;refine lpz (i+1) kk ?_;exact⟨by show i+1<=_;omega,da hI (decide_eq_true h1)⟩
  refine dz ?_;refine⟨(), ?_, ?_⟩
  · exact bdf fun j hj=>hI j bpw
  exact kk
 rintro _ hj;refine v_5 ?_;exact⟨cci hj.symm,trivial⟩
def axc (a b:AS):a7 bqh 176 [pA a,pA b] (af [pI (a3q a b)]):=by
 refine hpx (nt:=15) Tryz.func176 ?_;refine w_7 ?_;refine qcx a0w (acj _) ?_;refine qy ?_;refine qcx a0w (acj _) ?_;refine qcx aoi (b12 _ _) ?_;refine w_2 ?_;refine qcx b62 (bdz _ _) ?_;refine m9 0 ?_;refine rc rfl rfl rfl rfl rfl rfl aoh (cOr [i7 (bsz a) (bsz b),i7 (asI a) (asI b)]) (⟨CoC.one (b5r (CoP.refl _) (CoP.refl _)),trivial⟩) rfl rfl ?_;refine v_2 ?_;exact⟨cci (b5m a b),trivial⟩
end
end Go.Hx

/- A part of the proof: LyTz TzW Cs7 Cs8 V6 Cs9 V7. -/
import Derived.Shelf.Lays7
import Derived.Shelf.Spec.TrailingZeros
import Derived.Test.YtmoggbnlhllhaaaGreatDoorProg
import Derived.Test.YtmoggbnlhllhaaaGreatDoorTx13
set_option linter.all false
set_option maxRecDepth 100000
section
namespace Go.Proofs
open Go.Shelf
def Tryz.lays28_ren:Go.Shelf.Ren:=⟨fun|28=>147|n=>n,fun|27=>34|3=>3|4=>4|25=>183|53=>278|0=>0|5=>5|n=>n,fun|0=>0|n=>n⟩
theorem Tryz.lays28:Go.Proofs.Lays7.n28 Tryz.prog Tryz.lays28_ren:={
 mixed:=by kernel_rfl
 f28:=Tryz.func147.trans (congrArg some (by kernel_rfl))
 t0:=Tryz.underlying0
 a0:=Tryz.isAgg0
 z0:=Tryz.sizeOf0
 v0:=Tryz.zeroValue0
 i0:=by kernel_rfl
 t3:=Tryz.underlying3
 a3:=Tryz.isAgg3
 z3:=Tryz.sizeOf3
 v3:=Tryz.zeroValue3
 i3:=by kernel_rfl
 t4:=Tryz.underlying4
 a4:=Tryz.isAgg4
 z4:=Tryz.sizeOf4
 v4:=Tryz.zeroValue4
 i4:=by kernel_rfl
 t5:=Tryz.underlying5
 a5:=Tryz.isAgg5
 z5:=Tryz.sizeOf5
 v5:=Tryz.zeroValue5
 i5:=by kernel_rfl
 t25:=Tryz.underlying183
 a25:=Tryz.isAgg183
 z25:=Tryz.sizeOf183
 v25:=Tryz.zeroValue183
 i25:=by kernel_rfl
 t27:=Tryz.underlying34
 a27:=Tryz.isAgg34
 z27:=Tryz.sizeOf34
 v27:=Tryz.zeroValue34
 i27:=by kernel_rfl
 t53:=Tryz.underlying278
 a53:=Tryz.isAgg278
 z53:=Tryz.sizeOf278
 v53:=Tryz.zeroValue278
 i53:=by kernel_rfl
 g0:=by kernel_rfl }
end Go.Proofs
end
namespace Go.Hx
section
open Go.Proofs Go.RowKit
def b4e:a6 bnb 147:=⟨Tryz.f147,Tryz.func147,by kernel_rfl,by kernel_rfl⟩
def bb6:∀j,j<Lib.deBruijn32tab.length->wj 0 j=some (.int .u8 (Lib.deBruijn32tab.getD j 0)):=fun j hj=>by
 unfold wj;rw[show t6 0=Lib.deBruijn32tab.map (fun k:Nat=>Value.int .u8 (k:Int)) from rfl,bjl,bik hj,bir,bik hj];rfl
def cTz(s:AS):aa bnb 147 [pA s] (ag [pI (o5 s)]):=by
 intro w imm us htab him hus
 match us,hus with
 | [u],⟨hu,_⟩ =>
  obtain⟨rfl,_⟩:=hu
  have h:=Any7.bits_TrailingZeros32 Tryz.lays28 s.toNat s.isLt w fun _ j hj=>by
   have hc:=htab 0 j _ (bb6 j hj);unfold gq at hc
   cases hb:imm 0 with
   |none=>rw[hb]at hc;cases hc
   | some ob =>
    rw[hb]at hc;have hw:=him 0 ob hb;cases ob<;>simp at hc;show w.cell? ⟨0,j,none⟩=_;simp[World.cell?,hw,hc]
  refine h.mono ?_;rintro e w' ⟨rfl,rfl⟩;exact⟨_,imm,rfl,⟨rfl,rfl⟩,fun _ _=>rfl,him,Below.refl _ _⟩
 | [],h=>exact h.elim
 |_::_::_,⟨_,h⟩=>exact h.elim
end
section
section
variable {α:Type}[Inhabited α]
def abu {wr wr':Bool} {s m:Nat} {e:TypeId} {c:α->Nat->PV} {l l':List α} {x:α} {g:Nat->Nat->PV} (h:l'=l++[x]) (hg:∀j,j<s->CoP (g 0 j) (c x j)) (hm:m=1:=by rfl) (hw:wr'=true->wr=true:=by exact fun h=>h) :
 CoO (.arr wr s e (l.length+m) (fg l.length (lf c l) g)) (.arr wr' s e l'.length (lf c l')):=by
 subst h;refine aag [x] hw hm fun i j hi hj=>?_;obtain rfl:i=0:=by simp at hi;exact hi
 exact hg j hj
def bm {wr wr':Bool} {s:Nat} {e:TypeId} {c:α->Nat->PV} {l l':List α} (h:l'=l) (hw:wr'=true->wr=true:=by exact fun h=>h):CoO (.arr wr s e l.length (lf c l)) (.arr wr' s e l'.length (lf c l')):=by
 subst h;exact⟨hw,rfl,rfl,rfl,fun _ _ _ _=>CoP.refl _⟩
end
section
variable {α:Type}[Inhabited α]
section
variable {l l':List α}
def bq{id:Nat}{x:α}(h:l'=l++[x]):CoR (.v (.one (.ref id (l.length+1)))) (.v (.one (.ref id l'.length))):=by subst h;rw[biq];exact CoR.refl _
def bz{id:Nat}(h:l'=l):CoR (.v (.one (.ref id l.length))) (.v (.one (.ref id l'.length))):=by subst h;exact CoR.refl _
def bn {wr wr':Bool} {e:TypeId} {c:α->Nat->PV} {x:α} {g:Nat->Nat->PV} (h:l'=l++[x]) (hg:CoP (g 0 0) (c x 0)) (hw:wr'=true->wr=true:=by exact fun h=>h):
 CoO (.arr wr 1 e (l.length+1) (fg l.length (lf c l) g)) (.arr wr' 1 e l'.length (lf c l')) :=
 abu h (fun j hj=>by
  obtain rfl:j=0:=by omega
  exact hg) rfl hw
def jq {wr wr':Bool} {e:TypeId} {c:α->Nat->PV} {x:α} {g:Nat->Nat->PV} (h:l'=l++[x]) (h0:CoP (g 0 0) (c x 0)) (h1:CoP (g 0 1) (c x 1)) (hw:wr'=true->wr=true:=by exact fun h=>h):
 CoO (.arr wr 2 e (l.length+1) (fg l.length (lf c l) g)) (.arr wr' 2 e l'.length (lf c l')) :=
 abu h (fun j hj=>by
  rcases(by omega:j=0\/j=1)with rfl|rfl
  · exact h0
  exact h1) rfl hw
end
end
def bav(s:AS)(i:Nat):List Nat:=(List.range i).filter fun k=>s.getLsbD k
end
section
def oz(b:Nat):Nat:=(List.range 8).countP fun i=>b.testBit i
def qh (p:Nat->Bool) (a b:Nat):(List.range (a+b)).countP p=(List.range a).countP p+(List.range b).countP fun i=>p (a+i):=by
 rw[List.range_add,List.countP_append,List.countP_map];rfl
def avm {n k j:Nat} (hj:j<8):(n/2^k%256).testBit j=n.testBit (k+j):=by
 rw[show(256:Nat)=2^8 from rfl,Nat.testBit_mod_two_pow,Nat.testBit_div_two_pow,Nat.add_comm];simp[hj]
def b9d (n:Nat) (hn:n<2^32):(List.range (8+(8+(8+8)))).countP (fun i=>n.testBit i)=oz (n/2^24)+oz (n/2^16%256)+oz (n/2^8%256)+oz (n%256):=by
 have h:∀k,(List.range 8).countP (fun i=>n.testBit (k+i))=oz (n/2^k%256):=fun k=>by
  unfold oz;apply List.countP_congr;intro j hj;rw[avm (bje.1 hj)]
 have h3:n/2^24%256=n/2^24:=blg bmq;have h0:=h 0;simp only[bjo,Nat.pow_zero,Nat.div_one]at h0;rw[qh,qh,qh,h0];have e2:=h 8;have e3:=h 16;have e4:=h 24;rw[h3]at e4;simp only[<- bkp]at *;simp only[Nat.reduceAdd]at *;rw[e2,e3,e4];omega
def aqm(s:AS):bsz s=oz (s.toNat/2^24)+oz (s.toNat/2^16%256)+oz (s.toNat/2^8%256)+oz (s.toNat%256):=b9d s.toNat s.isLt
def a64 (b:Nat):oz b<=8:=by
 have:=List.countP_le_length (p:=fun i=>b.testBit i) (l:=List.range 8);rwa [blc]at this
def az3 (s:AS) (k:Nat) (hk:k<=32):((asI s).fdiv (2^(min k 32))).toNat=s.toNat/2^k:=by
 rw[agd];show(((s>>>k).toNat:Nat):Int).toNat=_;rw[bit,bl3,bky]
def apr (s:AS) (k:Nat) (hk:k<=32):(d6 .and .u32 ((asI s).fdiv (2^(min k 32))) 255).toNat=s.toNat/2^k%256:=by
 rw[agd,show(255:Int)=asI 255 from rfl,z8];show(((s>>>k&&&255).toNat:Nat):Int).toNat=_;rw[bit,blj,bl3,bky,show(255:AS).toNat=2^8-1 from rfl,bme]
def azl (s:AS):(d6 .and .u32 (asI s) 255).toNat=s.toNat%256:=by
 rw[show(255:Int)=asI 255 from rfl,z8];show(((s&&&255).toNat:Nat):Int).toNat=_;rw[bit,blj,show(255:AS).toNat=2^8-1 from rfl,bme]
def ar7 (a b:Int):0<=d6 .and .u32 a b:=by
 show 0<=IntKind.wrap .u32 _;rw[aim (bjp _) (by have:=(BitVec.ofInt 32 a&&&BitVec.ofInt 32 b).isLt;show((BitVec.ofInt 32 a&&&BitVec.ofInt 32 b).toNat:Int)<_;omega)];exact bjp _
def b3q(s:AS)(k:Nat):0<=(asI s).fdiv (2^(min k 32)):=by rw[agd];exact oi _
section
variable {X:ByteArray}
def bed (s:AS) (hX:(256:Int)<=X.size):0<=(asI s).fdiv (2^(min 24 32))/\(asI s).fdiv (2^(min 24 32))<X.size:=by
 have h1:=b3q s 24;have h2:=az3 s 24 bmq;have:=s.isLt;exact⟨h1,by omega⟩
def ixM (s:AS) (k:Nat) (hk:k<=32) (hX:(256:Int)<=X.size):0<=d6 .and .u32 ((asI s).fdiv (2^(min k 32))) 255/\d6 .and .u32 ((asI s).fdiv (2^(min k 32))) 255<X.size:=by
 have h1:=ar7 ((asI s).fdiv (2^(min k 32))) 255;have h2:=apr s k hk;exact⟨h1,by omega⟩
def ixL (s:AS) (hX:(256:Int)<=X.size):0<=d6 .and .u32 (asI s) 255/\d6 .and .u32 (asI s) 255<X.size:=by
 have h1:=ar7 (asI s) 255;have h2:=azl s;exact⟨h1,by omega⟩
def ac3{n:Int}(h0:0<=n)(h1:n<256):IntKind.wrap .u8 n=n:=qb (by simp only[inR,j9,jv];omega)
def asf{n:Int}(h0:0<=n)(h1:n<256):IntKind.wrap .i64 n=n:=qb (by simp only[inR,j9,jv];omega)
def ba4 {s:AS} {i0 i1 i2 i3:Nat} (hX:∀b,b<256->c5 X b=(oz b:Int)) (h0:i0=s.toNat/2^24) (h1:i1=s.toNat/2^16%256) (h2:i2=s.toNat/2^8%256) (h3:i3=s.toNat%256):
 IntKind.wrap .i64 (IntKind.wrap .u8 (IntKind.wrap .u8 (IntKind.wrap .u8 (c5 X i0+c5 X i1)+c5 X i2)+c5 X i3))=(bsz s:Int):=by
 have:=s.isLt;subst h0 h1 h2 h3;rw[hX _ bmq,hX _ bmq,hX _ bmq,hX _ bmq];have a0:=a64 (s.toNat/2^24);have a1:=a64 (s.toNat/2^16%256);have a2:=a64 (s.toNat/2^8%256);have a3:=a64 (s.toNat%256);rw[aqm];generalize oz (s.toNat/2^24)=c0 at *;generalize oz (s.toNat/2^16%256)=c1 at *;generalize oz (s.toNat/2^8%256)=c2 at *;generalize oz (s.toNat%256)=c3 at *;rw[ac3 (n:=c0+c1) bmq bmq,ac3 (n:=c0+c1+c2) bmq bmq,ac3 (n:=c0+c1+c2+c3) bmq bmq,asf (n:=c0+c1+c2+c3) bmq bmq];omega
def atn (s:AS):bsz s<=32:=by
 have:=List.countP_le_length (p:=fun i=>s.getLsbD i) (l:=List.range 32);rwa [blc]at this
def asg {s0:AS} (x:List Nat×AS) (h:x.1++bc x.2=bc s0):x.1.length<=32:=by
 have h1:=congrArg List.length h;rw[biq,<- aek s0]at h1;have:=atn s0;omega
def akk {s:AS} (h:s≠0):asI s-1=asI (s-1):=by
 have h0:s.toNat≠0:=fun e=>h (bk7 e);have:=s.isLt
 have e1:(s-1).toNat=s.toNat-1:=by
  rw[BitVec.toNat_sub];show(2^32-1+s.toNat)%2^32=_;omega
 unfold asI;rw[e1];omega
def agj {s:AS} (h:s≠0):(j2 true .u32 (asI s-1)).1:=by
 rw[akk h];have h1:=oi (s-1);have h2:=a08 (s-1);simp only[j2,inR,j9,jv];omega
def axl{s:AS}(h:s≠0):d6 .and .u32 (asI s) (asI s-1)=asI (s&&&(s-1)):=by rw[akk h,z8]
def gj(a b:Int):Int:=if a<b then -1 else if b<a then 1 else 0
def a2y(a b:AS):Int:=if gj (bsz a) (bsz b)=0 then gj (asI a) (asI b)else gj (bsz a) (bsz b)
end
end
section
open Go.Proofs
def aij:a6 bnb 88:=wgx Tryz.func88
def axm(s0:AS):aa bnb 88 [pA s0] (ag [pP (il (bc s0))]):=by
 refine hpx (nt:=16) Tryz.func88 ?_;refine db ?_;refine d4 3 900 true 1 3 (lf iC []) bmx rfl (CoP.sl rfl (.inr rfl) (fun h=>h) (fun i j hi _=>absurd hi (bip i))) (.inr rfl) rfl ?_;refine b7 (ι:=List Nat×AS) kn km (fun x=>⟨[(3,some (.v (.one (.ref 900 x.1.length)))),(0,some (vA x.2))],[(900,some (.arr true 1 3 x.1.length (lf iC x.1)))]⟩) (fun x=>x.1++bc x.2=bc s0) (fun x=>x.2.toNat) (([],s0)) (rfl) kk ?_;rintro x hx;have hlen:=asg x hx;refine w_6 ?_;refine hcn ?_ ?_<;>intro h0
 ·
  have hne:x.2≠0:=fun e=>h0 (by rw[e];rfl);refine w_6 ?_;refine qcx b4e (cTz x.2) ?_;refine m9 0 ?_;refine r9 1 true ?_;refine w_5 ?_;refine rq rfl rfl rfl rfl rfl ?_ (hp:=(agj hne));refine w_3 ?_;refine⟨(x.1++[o5 x.2],x.2&&&(x.2-1)), ?_, ?_, ?_⟩
  · show (x.1++[o5 x.2])++bc (x.2&&&(x.2-1))=bc s0
    rw[<- hx,arz hne,bjy];rfl
  · exact agu hne
  exact⟨⟨⟨_,rfl,(bq rfl)⟩,⟨_,rfl,(nk (axl hne))⟩,trivial⟩,⟨⟨_,rfl,(bn rfl (CoP.refl _))⟩,trivial⟩⟩
 have hz:x.2=0:=dq.1 h0;refine w_6 ?_;refine bh 2 rfl rfl rfl ?_;exact hx8 rfl rfl rfl (⟨CoC.one (CoP.of_eq (by rw[hz,apl,bjn]at hx;rw[<- hx];rfl)),trivial⟩)
def b49:a6 bnb 173:=wgx Tryz.func173
def bao (s:AS):aa bnb 173 [pA s] (ag [pI (bsz s)]):=by
 refine hpx (nt:=21) Tryz.func173 ?_;refine w_8 ?_;refine rq rfl rfl rfl rfl rfl ?_ (hp:=(bed s (by decide +kernel)));refine w_3 ?_;refine rq rfl rfl rfl rfl rfl ?_ (hp:=(ixM s 16 bmq (by decide +kernel)));refine rqw rfl rfl rfl rfl rfl ?_;refine w_3 ?_;refine rq rfl rfl rfl rfl rfl ?_ (hp:=(ixM s 8 bmq (by decide +kernel)));refine rqw rfl rfl rfl rfl rfl ?_;refine w_2 ?_;refine rq rfl rfl rfl rfl rfl ?_ (hp:=(ixL s (by decide +kernel)));(iterate 2 refine rqw rfl rfl rfl rfl rfl ?_);refine v_3 ?_;exact⟨cci (ba4 (by decide +kernel) (az3 s 24 bmq) (apr s 16 bmq) (apr s 8 bmq) (azl s)),trivial⟩
def a5t:a6 bnb 107:=wgx Tryz.func107
def afq (s:AS):aa bnb 107 [pA s] (ag [pI (bsz s)]):=by
 refine hpx (nt:=5) Tryz.func107 ?_;refine w_7 ?_;refine qcx b49 (bao s) ?_;refine v_2 ?_;exact CoL.refl _
end
section
def bhw(l:List AS)(k:Nat)(r:AS):List AS:=l.take k++r::l.drop k
def akv (x:AS):∀l:List AS,(n9 x l).length<=l.length+1
 | []=>by simp[n9]
 | y::l=>by
  unfold n9;have:=akv x l;split
  · simp
  split
  · simp
  simp only[bjv];omega
def w4(l:List AS):(ord l).length<=l.length:=by
 have:∀(l o:List AS),(l.foldl (fun o x=>n9 x o) o).length<=o.length+l.length:=by
  intro l
  induction l with
  |nil=>intro o;simp
  | cons x l ih =>
   intro o;have h1:=ih (n9 x o);have h2:=akv x o;simp only[blq,bjv];omega
 have h:=this l [];simpa [ord]using h
def jC:Int->Nat->PV:=fun n _=>.raw (.int .i64 n)
def orF(l:List Int):Int:=(l.find? fun x=>decide (x≠0)).getD 0
def bci {l:List Int} {i:Nat} (hi:i<l.length) (hI:∀j,j<i->decide (l.getD j default=0)=true) (h:¬l.getD i default=0):orF l=l.getD i default:=by
 unfold orF
 have:l.find? (fun x=>decide (x≠0))=some (l.getD i default):=by
  rw[List.find?_eq_some_iff_getElem];refine⟨decide_eq_true h,i,hi,by simp[List.getD,hi],fun j hj=>?_⟩;have:=of_decide_eq_true (hI j hj);rw[bir,bik bmq,bkd]at this;simp[this]
 rw[this];rfl
def bcn {l:List Int} (hI:∀j,j<l.length->decide (l.getD j default=0)=true):orF l=0:=by
 unfold orF
 have:l.find? (fun x=>decide (x≠0))=none:=by
  rw[List.find?_eq_none];intro x hx;obtain⟨j,hj,rfl⟩:=bj7 hx;have:=of_decide_eq_true (hI j hj);rw[bir,bik hj,bkd]at this;simp[this]
 rw[this];rfl
def b01 (a b:AS):orF [gj (bsz a) (bsz b),gj (asI a) (asI b)]=a2y a b:=by
 unfold orF a2y;by_cases h:gj (bsz a) (bsz b)=0
 · by_cases h2:gj (asI a) (asI b)=0<;>simp[h,h2]
 simp[h]
def b3r {α:Type} [Inhabited α] {cl:Bool} {c:α->Nat->PV} {x y:α} {f:Nat->Nat->PV} (h0:CoP (f 0 0) (c x 0)) (h1:CoP (f 1 0) (c y 0)):CoP (.sl 2 1 cl f) (psl 1 c [x,y]) :=
 CoP.sl rfl (.inl rfl) (fun h=>by cases h) fun i j hi hj=>by
  obtain rfl:j=0:=by omega
  rcases(by omega:i=0\/i=1)with rfl|rfl
  · exact h0
  exact h1
def ku {α:Type} [Inhabited α] {wr wr':Bool} {s n m:Nat} {e:TypeId} {c:α->Nat->PV} {l l':List α} (h:l'=l) (hn:n=m) (hw:wr'=true->wr=true:=by exact fun h=>h):CoO (.arr wr s e n (lf c l)) (.arr wr' s e m (lf c l')):=by
 subst h hn;exact⟨hw,rfl,rfl,rfl,fun _ _ _ _=>CoP.refl _⟩
def au7 {a b:AS}:decide (a2y a b<0)=bef a b:=by
 rw[bma,decide_eq_true_iff,re];unfold a2y gj asI;split<;>(repeat' split)<;>omega
end
section
open Go.Proofs
def ang:a6 bnb 240:=wgx Tryz.func240
def azf (a:Int):aa bnb 240 [pI a] (ag [pB false]):=by
 refine hpx (nt:=6) Tryz.func240 ?_;refine ip ?_;exact hx8 rfl rfl rfl (⟨ccb bmu,trivial⟩)
def aml:a6 bnb 241:=wgx Tryz.func241
def azo (a:AS):aa bnb 241 [pA a] (ag [pB false]):=by
 refine hpx (nt:=6) Tryz.func241 ?_;refine ip ?_;exact hx8 rfl rfl rfl (⟨ccb bmu,trivial⟩)
def alp:a6 bnb 214:=wgx Tryz.func214
def bn5{p:Prop}(h:p:=by unfold gj;first|(rw[if_pos bmq])|(rw[if_neg bmq,if_pos bmq])|(rw[if_neg bmq,if_neg bmq])):p:=h
def ayx (a b:Int):aa bnb 214 [pI a,pI b] (ag [pI (gj a b)]):=by
 refine hpx (nt:=20) Tryz.func214 ?_;refine w_7 ?_;refine qcx ang (azf _) ?_;refine w_5 ?_;refine qcx ang (azf _) ?_;refine aw7 ?_;refine hcd ?_ ?_<;>intro h0
 · refine v_4 ?_;exact⟨cci bn5,trivial⟩
 refine w_8 ?_;refine hcd ?_ ?_<;>intro h1
 · refine v_4 ?_;exact⟨cci bn5,trivial⟩
 refine v_5 ?_;exact⟨cci bn5,trivial⟩
def b2k:a6 bnb 215:=wgx Tryz.func215
def bbz (a b:AS):aa bnb 215 [pA a,pA b] (ag [pI (gj (asI a) (asI b))]):=by
 refine hpx (nt:=20) Tryz.func215 ?_;refine w_7 ?_;refine qcx aml (azo _) ?_;refine w_5 ?_;refine qcx aml (azo _) ?_;refine aw7 ?_;refine hcd ?_ ?_<;>intro h0
 · refine v_4 ?_;exact⟨cci bn5,trivial⟩
 refine w_8 ?_;refine hcd ?_ ?_<;>intro h1
 · refine v_4 ?_;exact⟨cci bn5,trivial⟩
 refine v_5 ?_;exact⟨cci bn5,trivial⟩
def amj:a6 bnb 213:=wgx Tryz.func213
def cOr(l:List Int):aa bnb 213 [pP (psl 1 jC l)] (ag [pI (orF l)]):=by
 refine hpx (nt:=18) Tryz.func213 ?_;refine f4 ?_;refine j4 0 rfl fun hn=>?_;refine w_7 ?_;refine dn (ι:=Unit) (ka 3 kn) km (fun _i=>⟨[],[]⟩) (fun _i=>orF l=0) ?_ ?_
 ·
  refine w_7 ?_;refine b7 (ι:=Nat) (ka 3 (ka 6 (ka 7 kn))) km (fun i=>⟨[(8,some (vI i))],[]⟩) (fun i=>i<=l.length/\(∀j,j<i->decide (l.getD j default=0)=true)) (fun i=>l.length-i) (0) (⟨bio _,gt⟩) kk ?_;rintro i ⟨hi,hI⟩;refine w_5 ?_;refine hcd ?_ ?_<;>intro h0
  ·
   refine ic ?_;refine hcn ?_ ?_<;>intro h1
   · refine v_5 ?_;exact⟨cci (bci (i:=i) bmq hI h1).symm,trivial⟩
   refine w_5 ?_;refine lpz (i+1) kk ?_;exact⟨by show i+1<=_;omega,f5 hI (decide_eq_true h1)⟩
  refine eg ?_;refine⟨(), ?_, ?_⟩
  · exact bcn fun j hj=>hI j bmq
  exact kk
 rintro _ hj;refine v_5 ?_;exact⟨cci hj.symm,trivial⟩
def aur (a b:AS):aa bnb 176 [pA a,pA b] (ag [pI (a2y a b)]):=by
 refine hpx (nt:=15) Tryz.func176 ?_;refine w_7 ?_;refine qcx a5t (afq _) ?_;refine qy ?_;refine qcx a5t (afq _) ?_;refine qcx alp (ayx _ _) ?_;refine w_2 ?_;refine qcx b2k (bbz _ _) ?_;refine m9 0 ?_;refine rc rfl rfl rfl rfl rfl rfl amj (cOr [gj (bsz a) (bsz b),gj (asI a) (asI b)]) (⟨CoC.one (b3r (CoP.refl _) (CoP.refl _)),trivial⟩) rfl rfl ?_;refine v_2 ?_;exact⟨cci (b01 a b),trivial⟩
end
end Go.Hx

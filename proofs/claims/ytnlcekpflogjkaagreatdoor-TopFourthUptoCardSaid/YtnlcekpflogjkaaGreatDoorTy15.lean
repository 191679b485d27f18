/- A part of the proof: LyTz TzW Cs7 Cs8 V6 Cs9 V7. -/
import Derived.Shelf.Lays7
import Derived.Shelf.Spec.TrailingZeros
import Derived.Test.YtnlcekpflogjkaaGreatDoorProg
import Derived.Test.YtnlcekpflogjkaaGreatDoorTy14
set_option linter.all false
set_option maxRecDepth 100000
section
namespace Go.Proofs
open Go.Shelf
def Tryz.lays28_ren:Go.Shelf.Ren:=⟨fun|28=>223|n=>n,fun|27=>49|3=>3|4=>4|25=>208|53=>292|0=>0|5=>5|n=>n,fun|0=>1|n=>n⟩
theorem Tryz.lays28:Go.Proofs.Lays7.n28 Tryz.prog Tryz.lays28_ren:={
 mixed:=by kernel_rfl
 f28:=Tryz.func223.trans (congrArg some (by kernel_rfl))
 t0:=Tryz.underlying0
 a0:=Tryz.isAgg0
 z0:=Tryz.sizeOf0
 v0:=Tryz.zeroValue0
 i0:=by kernel_rfl
 t3:=Tryz.underlying3
 a3:=Tryz.isAgg3
 z3:=Tryz.sizeOf3
 v3:=Tryz.zeroValue3
 i3:=by kernel_rfl
 t4:=Tryz.underlying4
 a4:=Tryz.isAgg4
 z4:=Tryz.sizeOf4
 v4:=Tryz.zeroValue4
 i4:=by kernel_rfl
 t5:=Tryz.underlying5
 a5:=Tryz.isAgg5
 z5:=Tryz.sizeOf5
 v5:=Tryz.zeroValue5
 i5:=by kernel_rfl
 t25:=Tryz.underlying208
 a25:=Tryz.isAgg208
 z25:=Tryz.sizeOf208
 v25:=Tryz.zeroValue208
 i25:=by kernel_rfl
 t27:=Tryz.underlying49
 a27:=Tryz.isAgg49
 z27:=Tryz.sizeOf49
 v27:=Tryz.zeroValue49
 i27:=by kernel_rfl
 t53:=Tryz.underlying292
 a53:=Tryz.isAgg292
 z53:=Tryz.sizeOf292
 v53:=Tryz.zeroValue292
 i53:=by kernel_rfl
 g0:=by kernel_rfl }
end Go.Proofs
end
namespace Go.Hx
section
open Go.Proofs Go.RowKit
def bb6:goodFn bxn 223:=⟨Tryz.f223,Tryz.func223,by kernel_rfl,by kernel_rfl⟩
def bms:∀j,j<Lib.deBruijn32tab.length->zd 1 j=some (.int .u8 (Lib.deBruijn32tab.getD j 0)):=fun j hj=>by
 unfold zd;rw[show wa 1=Lib.deBruijn32tab.map (fun k:Nat=>Value.int .u8 (k:Int)) from rfl,btf,bsu hj,bsv,bsu hj];rfl
def cTz(s:AS):a6 bxn 223 [pA s] (ae [pI (qe s)]):=by
 intro w imm us htab him hus
 match us,hus with
 | [u],⟨hu,_⟩ =>
  obtain⟨rfl,_⟩:=hu
  have h:=Any7.bits_TrailingZeros32 Tryz.lays28 s.toNat s.isLt w fun _ j hj=>by
   have hc:=htab 1 j _ (bms j hj);unfold j2 at hc
   cases hb:imm 1 with
   |none=>rw[hb]at hc;cases hc
   | some ob =>
    rw[hb]at hc;have hw:=him 1 ob hb;cases ob<;>simp at hc;show w.cell? ⟨1,j,none⟩=_;simp[World.cell?,hw,hc]
  refine h.mono ?_;rintro e w' ⟨rfl,rfl⟩;exact⟨_,imm,rfl,⟨rfl,rfl⟩,fun _ _=>rfl,him,Below.refl _ _⟩
 | [],h=>exact h.elim
 |_::_::_,⟨_,h⟩=>exact h.elim
end
section
section
variable {α:Type}[Inhabited α]
def vw {wr wr':Bool} {s m:Nat} {e:TypeId} {c:α->Nat->PV} {l l':List α} {x:α} {g:Nat->Nat->PV} (h:l'=l++[x]) (hg:∀j,j<s->CoP (g 0 j) (c x j)) (hm:m=1:=by rfl) (hw:wr'=true->wr=true:=by exact fun h=>h) :
 CoO (.arr wr s e (l.length+m) (ep l.length (lf c l) g)) (.arr wr' s e l'.length (lf c l')):=by
 subst h;refine ae0 [x] hw hm fun i j hi hj=>?_;obtain rfl:i=0:=by simp at hi;exact hi
 exact hg j hj
def b6 {wr wr':Bool} {s:Nat} {e:TypeId} {c:α->Nat->PV} {l l':List α} (h:l'=l) (hw:wr'=true->wr=true:=by exact fun h=>h):CoO (.arr wr s e l.length (lf c l)) (.arr wr' s e l'.length (lf c l')):=by
 subst h;exact⟨hw,rfl,rfl,rfl,fun _ _ _ _=>CoP.refl _⟩
end
section
variable {α:Type}[Inhabited α]
section
variable {l l':List α}
def bq{id:Nat}{x:α}(h:l'=l++[x]):CoR (.v (.one (.ref id (l.length+1)))) (.v (.one (.ref id l'.length))):=by subst h;rw[bsy];exact CoR.refl _
def bm{id:Nat}(h:l'=l):CoR (.v (.one (.ref id l.length))) (.v (.one (.ref id l'.length))):=by subst h;exact CoR.refl _
def bw {wr wr':Bool} {e:TypeId} {c:α->Nat->PV} {x:α} {g:Nat->Nat->PV} (h:l'=l++[x]) (hg:CoP (g 0 0) (c x 0)) (hw:wr'=true->wr=true:=by exact fun h=>h):
 CoO (.arr wr 1 e (l.length+1) (ep l.length (lf c l) g)) (.arr wr' 1 e l'.length (lf c l')) :=
 vw h (fun j hj=>by
  obtain rfl:j=0:=by omega
  exact hg) rfl hw
def ij {wr wr':Bool} {e:TypeId} {c:α->Nat->PV} {x:α} {g:Nat->Nat->PV} (h:l'=l++[x]) (h0:CoP (g 0 0) (c x 0)) (h1:CoP (g 0 1) (c x 1)) (hw:wr'=true->wr=true:=by exact fun h=>h):
 CoO (.arr wr 2 e (l.length+1) (ep l.length (lf c l) g)) (.arr wr' 2 e l'.length (lf c l')) :=
 vw h (fun j hj=>by
  rcases(by omega:j=0\/j=1)with rfl|rfl
  · exact h0
  exact h1) rfl hw
end
end
def bmf(s:AS)(i:Nat):List Nat:=(List.range i).filter fun k=>s.getLsbD k
end
section
def sn(b:Nat):Nat:=(List.range 8).countP fun i=>b.testBit i
def u6 (p:Nat->Bool) (a b:Nat):(List.range (a+b)).countP p=(List.range a).countP p+(List.range b).countP fun i=>p (a+i):=by
 rw[List.range_add,List.countP_append,List.countP_map];rfl
def b4j {n k j:Nat} (hj:j<8):(n/2^k%256).testBit j=n.testBit (k+j):=by
 rw[show(256:Nat)=2^8 from rfl,Nat.testBit_mod_two_pow,Nat.testBit_div_two_pow,Nat.add_comm];simp[hj]
def bgb (n:Nat) (hn:n<2^32):(List.range (8+(8+(8+8)))).countP (fun i=>n.testBit i)=sn (n/2^24)+sn (n/2^16%256)+sn (n/2^8%256)+sn (n%256):=by
 have h:∀k,(List.range 8).countP (fun i=>n.testBit (k+i))=sn (n/2^k%256):=fun k=>by
  unfold sn;apply List.countP_congr;intro j hj;rw[b4j (btj.1 hj)]
 have h3:n/2^24%256=n/2^24:=bwt bww;have h0:=h 0;simp only[btk,Nat.pow_zero,Nat.div_one]at h0;rw[u6,u6,u6,h0];have e2:=h 8;have e3:=h 16;have e4:=h 24;rw[h3]at e4;simp only[<- bv5]at *;simp only[Nat.reduceAdd]at *;rw[e2,e3,e4];omega
def axw(s:AS):bsz s=sn (s.toNat/2^24)+sn (s.toNat/2^16%256)+sn (s.toNat/2^8%256)+sn (s.toNat%256):=bgb s.toNat s.isLt
def a9n (b:Nat):sn b<=8:=by
 have:=List.countP_le_length (p:=fun i=>b.testBit i) (l:=List.range 8);rwa [bwq]at this
def b8o (s:AS) (k:Nat) (hk:k<=32):((asI s).fdiv (2^(min k 32))).toNat=s.toNat/2^k:=by
 rw[a0f];show(((s>>>k).toNat:Nat):Int).toNat=_;rw[bt8,bvq,bvm]
def awa (s:AS) (k:Nat) (hk:k<=32):(ct .and .u32 ((asI s).fdiv (2^(min k 32))) 255).toNat=s.toNat/2^k%256:=by
 rw[a0f,show(255:Int)=asI 255 from rfl,kg];show(((s>>>k&&&255).toNat:Nat):Int).toNat=_;rw[bt8,bwh,bvq,bvm,show(255:AS).toNat=2^8-1 from rfl,Nat.and_two_pow_sub_one_eq_mod]
def b9f (s:AS):(ct .and .u32 (asI s) 255).toNat=s.toNat%256:=by
 rw[show(255:Int)=asI 255 from rfl,kg];show(((s&&&255).toNat:Nat):Int).toNat=_;rw[bt8,bwh,show(255:AS).toNat=2^8-1 from rfl,Nat.and_two_pow_sub_one_eq_mod]
def b28 (a b:Int):0<=ct .and .u32 a b:=by
 show 0<=IntKind.wrap .u32 _;rw[ar5 (bv4 _) (by have:=(BitVec.ofInt 32 a&&&BitVec.ofInt 32 b).isLt;show((BitVec.ofInt 32 a&&&BitVec.ofInt 32 b).toNat:Int)<_;omega)];exact bv4 _
def bab(s:AS)(k:Nat):0<=(asI s).fdiv (2^(min k 32)):=by rw[a0f];exact t6 _
section
variable {X:ByteArray}
def bor (s:AS) (hX:(256:Int)<=X.size):0<=(asI s).fdiv (2^(min 24 32))/\(asI s).fdiv (2^(min 24 32))<X.size:=by
 have h1:=bab s 24;have h2:=b8o s 24 bww;have:=s.isLt;exact⟨h1,by omega⟩
def ixM (s:AS) (k:Nat) (hk:k<=32) (hX:(256:Int)<=X.size):0<=ct .and .u32 ((asI s).fdiv (2^(min k 32))) 255/\ct .and .u32 ((asI s).fdiv (2^(min k 32))) 255<X.size:=by
 have h1:=b28 ((asI s).fdiv (2^(min k 32))) 255;have h2:=awa s k hk;exact⟨h1,by omega⟩
def ixL (s:AS) (hX:(256:Int)<=X.size):0<=ct .and .u32 (asI s) 255/\ct .and .u32 (asI s) 255<X.size:=by
 have h1:=b28 (asI s) 255;have h2:=b9f s;exact⟨h1,by omega⟩
def ail{n:Int}(h0:0<=n)(h1:n<256):IntKind.wrap .u8 n=n:=tz (by simp only[inR,w9,a0r];omega)
def b30{n:Int}(h0:0<=n)(h1:n<256):IntKind.wrap .i64 n=n:=tz (by simp only[inR,w9,a0r];omega)
def bh2 {s:AS} {i0 i1 i2 i3:Nat} (hX:∀b,b<256->ce X b=(sn b:Int)) (h0:i0=s.toNat/2^24) (h1:i1=s.toNat/2^16%256) (h2:i2=s.toNat/2^8%256) (h3:i3=s.toNat%256):
 IntKind.wrap .i64 (IntKind.wrap .u8 (IntKind.wrap .u8 (IntKind.wrap .u8 (ce X i0+ce X i1)+ce X i2)+ce X i3))=(bsz s:Int):=by
 have:=s.isLt;subst h0 h1 h2 h3;rw[hX _ bww,hX _ bww,hX _ bww,hX _ bww];have a0:=a9n (s.toNat/2^24);have a1:=a9n (s.toNat/2^16%256);have a2:=a9n (s.toNat/2^8%256);have a3:=a9n (s.toNat%256);rw[axw];generalize sn (s.toNat/2^24)=c0 at *;generalize sn (s.toNat/2^16%256)=c1 at *;generalize sn (s.toNat/2^8%256)=c2 at *;generalize sn (s.toNat%256)=c3 at *;rw[ail (n:=c0+c1) bww bww,ail (n:=c0+c1+c2) bww bww,ail (n:=c0+c1+c2+c3) bww bww,b30 (n:=c0+c1+c2+c3) bww bww];omega
def am2 (s:AS):bsz s<=32:=by
 have:=List.countP_le_length (p:=fun i=>s.getLsbD i) (l:=List.range 32);rwa [bwq]at this
def b11 {s0:AS} (x:List Nat×AS) (h:x.1++am x.2=am s0):x.1.length<=32:=by
 have h1:=congrArg List.length h;rw[bsy,<- a1s s0]at h1;have:=am2 s0;omega
def aqk {s:AS} (h:s≠0):asI s-1=asI (s-1):=by
 have h0:s.toNat≠0:=fun e=>h (bug e);have:=s.isLt
 have e1:(s-1).toNat=s.toNat-1:=by
  rw[BitVec.toNat_sub];show(2^32-1+s.toNat)%2^32=_;omega
 unfold asI;rw[e1];omega
def an2 {s:AS} (h:s≠0):(k7 true .u32 (asI s-1)).1:=by
 rw[aqk h];have h1:=t6 (s-1);have h2:=a7y (s-1);simp only[k7,inR,w9,a0r];omega
def b80{s:AS}(h:s≠0):ct .and .u32 (asI s) (asI s-1)=asI (s&&&(s-1)):=by rw[aqk h,kg]
def gj(a b:Int):Int:=if a<b then -1 else if b<a then 1 else 0
def a5c(a b:AS):Int:=if gj (bsz a) (bsz b)=0 then gj (asI a) (asI b)else gj (bsz a) (bsz b)
end
end
section
open Go.Proofs
def a3h:goodFn bxn 173:=wgx Tryz.func173
def aob(s0:AS):a6 bxn 173 [pA s0] (ae [pP (il (am s0))]):=by
 refine hpx (nt:=16) Tryz.func173 ?_;refine da ?_;refine d4 3 900 true 1 3 (lf iC []) bx3 rfl (CoP.sl rfl (.inr rfl) (fun h=>h) (fun i j hi _=>absurd hi (bt1 i))) (.inr rfl) rfl ?_;refine ai (ι:=List Nat×AS) kn km (fun x=>⟨[(3,some (.v (.one (.ref 900 x.1.length)))),(0,some (vA x.2))],[(900,some (.arr true 1 3 x.1.length (lf iC x.1)))]⟩) (fun x=>x.1++am x.2=am s0) (fun x=>x.2.toNat) (([],s0)) (rfl) kk ?_;rintro x hx;have hlen:=b11 x hx;refine w_6 ?_;refine hcn ?_ ?_<;>intro h0
 ·
  have hne:x.2≠0:=fun e=>h0 (by rw[e];rfl);refine w_6 ?_;refine qcx bb6 (cTz x.2) ?_;refine m9 0 ?_;refine r9 1 true ?_;refine w_5 ?_;refine rq rfl rfl rfl rfl rfl ?_ (hp:=(an2 hne));refine w_3 ?_;refine⟨(x.1++[qe x.2],x.2&&&(x.2-1)), ?_, ?_, ?_⟩
  · show (x.1++[qe x.2])++am (x.2&&&(x.2-1))=am s0
    rw[<- hx,ayo hne,bts];rfl
  · exact am0 hne
  exact⟨⟨⟨_,rfl,(bq rfl)⟩,⟨_,rfl,(ip (b80 hne))⟩,trivial⟩,⟨⟨_,rfl,(bw rfl (CoP.refl _))⟩,trivial⟩⟩
 have hz:x.2=0:=df.1 h0;refine w_6 ?_;refine bh 2 rfl rfl rfl ?_;exact hx8 rfl rfl rfl (⟨CoC.one (CoP.of_eq (by rw[hz,awm,btu]at hx;rw[<- hx];rfl)),trivial⟩)
def bno (s:AS):a6 bxn 168 [pA s] (ae [pI (bsz s)]):=by
 refine hpx (nt:=21) Tryz.func168 ?_;refine w_8 ?_;refine rq rfl rfl rfl rfl rfl ?_ (hp:=(bor s (by decide +kernel)));refine w_3 ?_;refine rq rfl rfl rfl rfl rfl ?_ (hp:=(ixM s 16 bww (by decide +kernel)));refine rqw rfl rfl rfl rfl rfl ?_;refine w_3 ?_;refine rq rfl rfl rfl rfl rfl ?_ (hp:=(ixM s 8 bww (by decide +kernel)));refine rqw rfl rfl rfl rfl rfl ?_;refine w_2 ?_;refine rq rfl rfl rfl rfl rfl ?_ (hp:=(ixL s (by decide +kernel)));(iterate 2 refine rqw rfl rfl rfl rfl rfl ?_);refine v_3 ?_;exact⟨cci (bh2 (by decide +kernel) (b8o s 24 bww) (awa s 16 bww) (awa s 8 bww) (b9f s)),trivial⟩
def a3y:goodFn bxn 114:=wgx Tryz.func114
def adp (s:AS):a6 bxn 114 [pA s] (ae [pI (bsz s)]):=by
 refine hpx (nt:=5) Tryz.func114 ?_;refine w_7 ?_;refine qcx (wgx Tryz.func168) (bno s) ?_;refine v_2 ?_;exact CoL.refl _
end
section
def brm(l:List AS)(k:Nat)(r:AS):List AS:=l.take k++r::l.drop k
def alr (x:AS):∀l:List AS,(pw x l).length<=l.length+1
 | []=>by simp[pw]
 | y::l=>by
  unfold pw;have:=alr x l;split
  · simp
  split
  · simp
  simp only[bto];omega
def uz(l:List AS):(ord l).length<=l.length:=by
 have:∀(l o:List AS),(l.foldl (fun o x=>pw x o) o).length<=o.length+l.length:=by
  intro l
  induction l with
  |nil=>intro o;simp
  | cons x l ih =>
   intro o;have h1:=ih (pw x o);have h2:=alr x o;simp only[bvl,bto];omega
 have h:=this l [];simpa [ord]using h
def jC:Int->Nat->PV:=fun n _=>.raw (.int .i64 n)
def orF(l:List Int):Int:=(l.find? fun x=>decide (x≠0)).getD 0
def bns {l:List Int} {i:Nat} (hi:i<l.length) (hI:∀j,j<i->decide (l.getD j default=0)=true) (h:¬l.getD i default=0):orF l=l.getD i default:=by
 unfold orF
 have:l.find? (fun x=>decide (x≠0))=some (l.getD i default):=by
  rw[List.find?_eq_some_iff_getElem];refine⟨decide_eq_true h,i,hi,by simp[List.getD,hi],fun j hj=>?_⟩;have:=of_decide_eq_true (hI j hj);rw[bsv,bsu bww,bu9]at this;simp[this]
 rw[this];rfl
def bo7 {l:List Int} (hI:∀j,j<l.length->decide (l.getD j default=0)=true):orF l=0:=by
 unfold orF
 have:l.find? (fun x=>decide (x≠0))=none:=by
  rw[bwn];intro x hx;obtain⟨j,hj,rfl⟩:=btt hx;have:=of_decide_eq_true (hI j hj);rw[bsv,bsu hj,bu9]at this;simp[this]
 rw[this];rfl
def bfl (a b:AS):orF [gj (bsz a) (bsz b),gj (asI a) (asI b)]=a5c a b:=by
 unfold orF a5c;by_cases h:gj (bsz a) (bsz b)=0
 · by_cases h2:gj (asI a) (asI b)=0<;>simp[h,h2]
 simp[h]
def b9k {α:Type} [Inhabited α] {cl:Bool} {c:α->Nat->PV} {x y:α} {f:Nat->Nat->PV} (h0:CoP (f 0 0) (c x 0)) (h1:CoP (f 1 0) (c y 0)):CoP (.sl 2 1 cl f) (psl 1 c [x,y]) :=
 CoP.sl rfl (.inl rfl) (fun h=>by cases h) fun i j hi hj=>by
  obtain rfl:j=0:=by omega
  rcases(by omega:i=0\/i=1)with rfl|rfl
  · exact h0
  exact h1
def jw {α:Type} [Inhabited α] {wr wr':Bool} {s n m:Nat} {e:TypeId} {c:α->Nat->PV} {l l':List α} (h:l'=l) (hn:n=m) (hw:wr'=true->wr=true:=by exact fun h=>h):CoO (.arr wr s e n (lf c l)) (.arr wr' s e m (lf c l')):=by
 subst h hn;exact⟨hw,rfl,rfl,rfl,fun _ _ _ _=>CoP.refl _⟩
def b7z {a b:AS}:decide (a5c a b<0)=bef a b:=by
 rw[bw6,decide_eq_true_iff,ui];unfold a5c gj asI;split<;>(repeat' split)<;>omega
end
section
open Go.Proofs
def b8x (a:Int):a6 bxn 214 [pI a] (ae [pB false]):=by
 refine hpx (nt:=6) Tryz.func214 ?_;refine ig ?_;exact hx8 rfl rfl rfl (⟨ccb bx0,trivial⟩)
def b92 (a:AS):a6 bxn 252 [pA a] (ae [pB false]):=by
 refine hpx (nt:=6) Tryz.func252 ?_;refine ig ?_;exact hx8 rfl rfl rfl (⟨ccb bx0,trivial⟩)
def aiv:goodFn bxn 155:=wgx Tryz.func155
def bxg{p:Prop}(h:p:=by unfold gj;first|(rw[if_pos bww])|(rw[if_neg bww,if_pos bww])|(rw[if_neg bww,if_neg bww])):p:=h
def avi (a b:Int):a6 bxn 155 [pI a,pI b] (ae [pI (gj a b)]):=by
 refine hpx (nt:=20) Tryz.func155 ?_;refine w_7 ?_;refine qcx (wgx Tryz.func214) (b8x _) ?_;refine w_5 ?_;refine qcx (wgx Tryz.func214) (b8x _) ?_;refine b82 ?_;refine hcd ?_ ?_<;>intro h0
 · refine v_4 ?_;exact⟨cci bxg,trivial⟩
 refine w_8 ?_;refine hcd ?_ ?_<;>intro h1
 · refine v_4 ?_;exact⟨cci bxg,trivial⟩
 refine v_5 ?_;exact⟨cci bxg,trivial⟩
def bnz (a b:AS):a6 bxn 222 [pA a,pA b] (ae [pI (gj (asI a) (asI b))]):=by
 refine hpx (nt:=20) Tryz.func222 ?_;refine w_7 ?_;refine qcx (wgx Tryz.func252) (b92 _) ?_;refine w_5 ?_;refine qcx (wgx Tryz.func252) (b92 _) ?_;refine b82 ?_;refine hcd ?_ ?_<;>intro h0
 · refine v_4 ?_;exact⟨cci bxg,trivial⟩
 refine w_8 ?_;refine hcd ?_ ?_<;>intro h1
 · refine v_4 ?_;exact⟨cci bxg,trivial⟩
 refine v_5 ?_;exact⟨cci bxg,trivial⟩
def cOr(l:List Int):a6 bxn 154 [pP (psl 1 jC l)] (ae [pI (orF l)]):=by
 refine hpx (nt:=18) Tryz.func154 ?_;refine d5 ?_;refine cw 0 rfl fun hn=>?_;refine w_7 ?_;refine cg (ι:=Unit) (ka 3 kn) km (fun _i=>⟨[],[]⟩) (fun _i=>orF l=0) ?_ ?_
 ·
  refine w_7 ?_;refine ai (ι:=Nat) (ka 3 (ka 6 (ka 7 kn))) km (fun i=>⟨[(8,some (vI i))],[]⟩) (fun i=>i<=l.length/\(∀j,j<i->decide (l.getD j default=0)=true)) (fun i=>l.length-i) (0) (⟨bsx _,bv⟩) kk ?_;rintro i ⟨hi,hI⟩;refine w_5 ?_;refine hcd ?_ ?_<;>intro h0
  ·
   refine j5 ?_;refine hcn ?_ ?_<;>intro h1
   · refine v_5 ?_;exact⟨cci (bns (i:=i) bww hI h1).symm,trivial⟩
   refine w_5 ?_;refine lpz (i+1) kk ?_;exact⟨by show i+1<=_;omega,bc hI (decide_eq_true h1)⟩
  refine ck ?_;refine⟨(), ?_, ?_⟩
  · exact bo7 fun j hj=>hI j bww
  exact kk
 rintro _ hj;refine v_5 ?_;exact⟨cci hj.symm,trivial⟩
def b4n (a b:AS):a6 bxn 170 [pA a,pA b] (ae [pI (a5c a b)]):=by
 refine hpx (nt:=15) Tryz.func170 ?_;refine w_7 ?_;refine qcx a3y (adp _) ?_;refine qy ?_;refine qcx a3y (adp _) ?_;refine qcx aiv (avi _ _) ?_;refine w_2 ?_;refine qcx (wgx Tryz.func222) (bnz _ _) ?_;refine m9 0 ?_;refine rc rfl rfl rfl rfl rfl rfl (wgx Tryz.func154) (cOr [gj (bsz a) (bsz b),gj (asI a) (asI b)]) (⟨CoC.one (b9k (CoP.refl _) (CoP.refl _)),trivial⟩) rfl rfl ?_;refine v_2 ?_;exact⟨cci (bfl a b),trivial⟩
end
end Go.Hx

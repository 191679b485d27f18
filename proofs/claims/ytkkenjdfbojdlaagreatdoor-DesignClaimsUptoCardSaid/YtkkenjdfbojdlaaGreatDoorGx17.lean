/- A part of the proof: LyTz TzW Cs7 Cs8 V6 Cs9 V7. -/
import Derived.Shelf.Lays7
import Derived.Shelf.Spec.TrailingZeros
import Derived.Test.YtkkenjdfbojdlaaGreatDoorProg
import Derived.Test.YtkkenjdfbojdlaaGreatDoorGx16
set_option linter.all false
set_option maxRecDepth 100000
set_option maxHeartbeats 1000000
section
namespace Go.Proofs
open Go.Shelf
def Tryz.lays28_ren:Go.Shelf.Ren:=⟨fun | 28=>114 | n=>n,fun | 27=>43 | 3=>3 | 4=>4 | 25=>177 | 53=>176 | 0=>0 | 5=>5 | n=>n,fun | 0=>0 | n=>n⟩
theorem Tryz.lays28:Go.Proofs.Lays7.n28 Tryz.prog Tryz.lays28_ren:={
 mixed:=by kernel_rfl
 f28:=Tryz.func114.trans (congrArg some (by kernel_rfl))
 t0:=Tryz.underlying0
 a0:=Tryz.isAgg0
 z0:=Tryz.sizeOf0
 v0:=Tryz.zeroValue0
 i0:=by kernel_rfl
 t3:=Tryz.underlying3
 a3:=Tryz.isAgg3
 z3:=Tryz.sizeOf3
 v3:=Tryz.zeroValue3
 i3:=by kernel_rfl
 t4:=Tryz.underlying4
 a4:=Tryz.isAgg4
 z4:=Tryz.sizeOf4
 v4:=Tryz.zeroValue4
 i4:=by kernel_rfl
 t5:=Tryz.underlying5
 a5:=Tryz.isAgg5
 z5:=Tryz.sizeOf5
 v5:=Tryz.zeroValue5
 i5:=by kernel_rfl
 t25:=Tryz.underlying177
 a25:=Tryz.isAgg177
 z25:=Tryz.sizeOf177
 v25:=Tryz.zeroValue177
 i25:=by kernel_rfl
 t27:=Tryz.underlying43
 a27:=Tryz.isAgg43
 z27:=Tryz.sizeOf43
 v27:=Tryz.zeroValue43
 i27:=by kernel_rfl
 t53:=Tryz.underlying176
 a53:=Tryz.isAgg176
 z53:=Tryz.sizeOf176
 v53:=Tryz.zeroValue176
 i53:=by kernel_rfl
 g0:=by kernel_rfl }
end Go.Proofs
end
namespace Go.Hx
section
open Go.Proofs Go.RowKit
theorem b42:goodFn Tryz.prog 114:=⟨Tryz.f114,Tryz.func114,by kernel_rfl,by kernel_rfl⟩
theorem bex:∀ j,j < Lib.deBruijn32tab.length -> xw 0 j = some (.int .u8 (Lib.deBruijn32tab.getD j 0)):=fun j hj=>by
 unfold xw;rw [show vd 0 = Lib.deBruijn32tab.map (fun k:Nat=>Value.int .u8 (k:Int)) from rfl,bl6,bkj hj,bkk,bkj hj];rfl
theorem cTz (s:AS):a7 Tryz.prog 114 [pA s] (ae [pI (ip s)]):=by
 intro w imm us htab him hus
 match us,hus with
 | [u],⟨hu,_⟩ =>
  obtain ⟨rfl,_⟩:=hu
  have h:=Any7.bits_TrailingZeros32 Tryz.lays28 s.toNat s.isLt w fun _ j hj=>by
   have hc:=htab 0 j _ (bex j hj);unfold jm at hc
   cases hb:imm 0 with
   | none=>rw [hb] at hc;cases hc
   | some ob =>
    rw [hb] at hc;have hw:=him 0 ob hb;cases ob <;> simp at hc;show w.cell? ⟨0,j,none⟩ = _;simp [World.cell?,hw,hc]
  refine h.mono ?_;rintro e w' ⟨rfl,rfl⟩;exact ⟨_,imm,rfl,⟨rfl,rfl⟩,fun _ _=>rfl,him,Below.refl _ _⟩
 | [],h=>exact h.elim
 | _ :: _ :: _,⟨_,h⟩=>exact h.elim
end
section
theorem adt {id n m:Nat} (h:n = m):CoR (.v (.one (.ref id n))) (.v (.one (.ref id m))):=by subst h;exact CoR.refl _
section
variable {α:Type} [Inhabited α]
theorem a7o {wr wr':Bool} {s m:Nat} {e:TypeId} {c:α -> Nat -> PV} {l l':List α} {x:α} {g:Nat -> Nat -> PV} (h:l' = l ++ [x]) (hg:∀ j,j < s -> CoP (g 0 j) (c x j)) (hm:m = 1:=by rfl) (hw:wr' = true -> wr = true:=by exact fun h=>h) :
 CoO (.arr wr s e (l.length + m) (fh l.length (lf c l) g)) (.arr wr' s e l'.length (lf c l')):=by
 subst h;refine aw7 [x] hw hm fun i j hi hj=>?_;obtain rfl:i = 0:=by simp at hi;exact hi
 exact hg j hj
theorem bv {wr wr':Bool} {s:Nat} {e:TypeId} {c:α -> Nat -> PV} {l l':List α} (h:l' = l) (hw:wr' = true -> wr = true:=by exact fun h=>h):CoO (.arr wr s e l.length (lf c l)) (.arr wr' s e l'.length (lf c l')):=by
 subst h;exact ⟨hw,rfl,rfl,rfl,fun _ _ _ _=>CoP.refl _⟩
end
section
variable {α:Type} [Inhabited α]
section
variable {l l':List α}
theorem c7 {id:Nat} {x:α} (h:l' = l ++ [x]):CoR (.v (.one (.ref id (l.length + 1)))) (.v (.one (.ref id l'.length))):=by subst h;rw [bkq];exact CoR.refl _
theorem ca {id:Nat} (h:l' = l):CoR (.v (.one (.ref id l.length))) (.v (.one (.ref id l'.length))):=by subst h;exact CoR.refl _
theorem bz {wr wr':Bool} {e:TypeId} {c:α -> Nat -> PV} {x:α} {g:Nat -> Nat -> PV} (h:l' = l ++ [x]) (hg:CoP (g 0 0) (c x 0)) (hw:wr' = true -> wr = true:=by exact fun h=>h):
 CoO (.arr wr 1 e (l.length + 1) (fh l.length (lf c l) g)) (.arr wr' 1 e l'.length (lf c l')) :=
 a7o h (fun j hj=>by
  obtain rfl:j = 0:=by omega
  exact hg) rfl hw
theorem ow {wr wr':Bool} {e:TypeId} {c:α -> Nat -> PV} {x:α} {g:Nat -> Nat -> PV} (h:l' = l ++ [x]) (h0:CoP (g 0 0) (c x 0)) (h1:CoP (g 0 1) (c x 1)) (hw:wr' = true -> wr = true:=by exact fun h=>h):
 CoO (.arr wr 2 e (l.length + 1) (fh l.length (lf c l) g)) (.arr wr' 2 e l'.length (lf c l')) :=
 a7o h (fun j hj=>by
  rcases (by omega:j = 0 \/ j = 1) with rfl | rfl
  · exact h0
  exact h1) rfl hw
end
end
def f0 (s:AS) (i:Nat):List Nat:=(List.range i).filter fun k=>s.getLsbD k
theorem o0 {s:AS} {i:Nat} (hi:i < 32) (h:dq s (i:Int) = true):f0 s (i + 1) = f0 s i ++ [i]:=by
 rw [ja hi] at h;unfold f0;rw [bmg,blz];simp [h]
theorem su {s:AS} {i:Nat} (hi:i < 32) (h:dq s (i:Int) = false):f0 s (i + 1) = f0 s i:=by
 rw [ja hi] at h;unfold f0;rw [bmg,blz];simp [h]
theorem aur (s:AS) (i:Nat):(f0 s i).length <= i:=by
 unfold f0;have:=bmk (fun k=>s.getLsbD k) (List.range i);rwa [bn2] at this
end
section
def qf (b:Nat):Nat:=(List.range 8).countP fun i=>b.testBit i
theorem s4 (p:Nat -> Bool) (a b:Nat):(List.range (a + b)).countP p = (List.range a).countP p + (List.range b).countP fun i=>p (a + i):=by
 rw [List.range_add,boh,List.countP_map];rfl
theorem az8 {n k j:Nat} (hj:j < 8):(n / 2 ^ k % 256).testBit j = n.testBit (k + j):=by
 rw [show (256:Nat) = 2 ^ 8 from rfl,Nat.testBit_mod_two_pow,Nat.testBit_div_two_pow,Nat.add_comm];simp [hj]
theorem be5 (n:Nat) (hn:n < 2 ^ 32):(List.range (8 + (8 + (8 + 8)))).countP (fun i=>n.testBit i) = qf (n / 2 ^ 24) + qf (n / 2 ^ 16 % 256) + qf (n / 2 ^ 8 % 256) + qf (n % 256):=by
 have h:∀ k,(List.range 8).countP (fun i=>n.testBit (k + i)) = qf (n / 2 ^ k % 256):=fun k=>by
  unfold qf;apply List.countP_congr;intro j hj;rw [az8 (bl0.1 hj)]
 have h3:n / 2 ^ 24 % 256 = n / 2 ^ 24:=bni bos;have h0:=h 0;simp only [blc,Nat.pow_zero,Nat.div_one] at h0;rw [s4,s4,s4,h0];have e2:=h 8;have e3:=h 16;have e4:=h 24;rw [h3] at e4;simp only [<- bmp] at *;simp only [Nat.reduceAdd] at *;rw [e2,e3,e4];omega
theorem asm (s:AS):bsz s = qf (s.toNat / 2 ^ 24) + qf (s.toNat / 2 ^ 16 % 256) + qf (s.toNat / 2 ^ 8 % 256) + qf (s.toNat % 256):=be5 s.toNat s.isLt
theorem a7i (b:Nat):qf b <= 8:=by
 have:=List.countP_le_length (p:=fun i=>b.testBit i) (l:=List.range 8);rwa [bn2] at this
theorem b3m (s:AS) (k:Nat) (hk:k <= 32):((asI s).fdiv (2 ^ (min k 32))).toNat = s.toNat / 2 ^ k:=by
 rw [xe];show (((s >>> k).toNat:Nat):Int).toNat = _;rw [bkw,boa,bo4]
theorem are (s:AS) (k:Nat) (hk:k <= 32):(aw .and .u32 ((asI s).fdiv (2 ^ (min k 32))) 255).toNat = s.toNat / 2 ^ k % 256:=by
 rw [xe,show (255:Int) = asI 255 from rfl,fj];show (((s >>> k &&& 255).toNat:Nat):Int).toNat = _;rw [bkw,bnk,boa,bo4,show (255:AS).toNat = 2 ^ 8 - 1 from rfl,Nat.and_two_pow_sub_one_eq_mod]
theorem b2w (s:AS):(aw .and .u32 (asI s) 255).toNat = s.toNat % 256:=by
 rw [show (255:Int) = asI 255 from rfl,fj];show (((s &&& 255).toNat:Nat):Int).toNat = _;rw [bkw,bnk,show (255:AS).toNat = 2 ^ 8 - 1 from rfl,Nat.and_two_pow_sub_one_eq_mod]
theorem avz (a b:Int):0 <= aw .and .u32 a b:=by
 show 0 <= IntKind.wrap .u32 _;rw [ai1 (bmz _) (by have:=(BitVec.ofInt 32 a &&& BitVec.ofInt 32 b).isLt;show ((BitVec.ofInt 32 a &&& BitVec.ofInt 32 b).toNat:Int) < _;omega)];exact bmz _
theorem b8t (s:AS) (k:Nat):0 <= (asI s).fdiv (2 ^ (min k 32)):=by rw [xe];exact a5t _
section
variable {X:ByteArray}
theorem bi9 (s:AS) (hX:(256:Int) <= X.size):0 <= (asI s).fdiv (2 ^ (min 24 32)) /\ (asI s).fdiv (2 ^ (min 24 32)) < X.size:=by
 have h1:=b8t s 24;have h2:=b3m s 24 bos;have:=s.isLt;exact ⟨h1,by omega⟩
theorem ixM (s:AS) (k:Nat) (hk:k <= 32) (hX:(256:Int) <= X.size):0 <= aw .and .u32 ((asI s).fdiv (2 ^ (min k 32))) 255 /\ aw .and .u32 ((asI s).fdiv (2 ^ (min k 32))) 255 < X.size:=by
 have h1:=avz ((asI s).fdiv (2 ^ (min k 32))) 255;have h2:=are s k hk;exact ⟨h1,by omega⟩
theorem ixL (s:AS) (hX:(256:Int) <= X.size):0 <= aw .and .u32 (asI s) 255 /\ aw .and .u32 (asI s) 255 < X.size:=by
 have h1:=avz (asI s) 255;have h2:=b2w s;exact ⟨h1,by omega⟩
theorem acw {n:Int} (h0:0 <= n) (h1:n < 256):IntKind.wrap .u8 n = n:=vn (by simp only [inR,mb,nb];omega)
theorem ass {n:Int} (h0:0 <= n) (h1:n < 256):IntKind.wrap .i64 n = n:=vn (by simp only [inR,mb,nb];omega)
theorem bb7 {s:AS} {i0 i1 i2 i3:Nat} (hX:∀ b,b < 256 -> kx X b = (qf b:Int)) (h0:i0 = s.toNat / 2 ^ 24) (h1:i1 = s.toNat / 2 ^ 16 % 256) (h2:i2 = s.toNat / 2 ^ 8 % 256) (h3:i3 = s.toNat % 256):
 IntKind.wrap .i64 (IntKind.wrap .u8 (IntKind.wrap .u8 (IntKind.wrap .u8 (kx X i0 + kx X i1) + kx X i2) + kx X i3)) = (bsz s:Int):=by
 have:=s.isLt;subst h0 h1 h2 h3;rw [hX _ bos,hX _ bos,hX _ bos,hX _ bos];have a0:=a7i (s.toNat / 2 ^ 24);have a1:=a7i (s.toNat / 2 ^ 16 % 256);have a2:=a7i (s.toNat / 2 ^ 8 % 256);have a3:=a7i (s.toNat % 256);rw [asm];generalize qf (s.toNat / 2 ^ 24) = c0 at *;generalize qf (s.toNat / 2 ^ 16 % 256) = c1 at *;generalize qf (s.toNat / 2 ^ 8 % 256) = c2 at *;generalize qf (s.toNat % 256) = c3 at *;rw [acw (n:=c0 + c1) bos bos,acw (n:=c0 + c1 + c2) bos bos,acw (n:=c0 + c1 + c2 + c3) bos bos,ass (n:=c0 + c1 + c2 + c3) bos bos];omega
theorem aj8 (s:AS):bsz s <= 32:=by
 have:=List.countP_le_length (p:=fun i=>s.getLsbD i) (l:=List.range 32);rwa [bn2] at this
theorem ax6 {s0:AS} (x:List Nat × AS) (h:x.1 ++ al x.2 = al s0):x.1.length <= 32:=by
 have h1:=congrArg List.length h;rw [bkq,<- sx s0] at h1;have:=aj8 s0;omega
theorem ak0 {s:AS} (h:s ≠ 0):asI s - 1 = asI (s - 1):=by
 have h0:s.toNat ≠ 0:=fun e=>h (bln e);have:=s.isLt
 have e1:(s - 1).toNat = s.toNat - 1:=by
  rw [BitVec.toNat_sub];show (2 ^ 32 - 1 + s.toNat) % 2 ^ 32 = _;omega
 unfold asI;rw [e1];omega
theorem zc {s:AS} (h:s ≠ 0):(gr true .u32 (asI s - 1)).1:=by
 rw [ak0 h];have h1:=a5t (s - 1);have h2:=acr (s - 1);simp only [gr,inR,mb,nb];omega
theorem am7 {s:AS} (h:s ≠ 0):aw .and .u32 (asI s) (asI s - 1) = asI (s &&& (s - 1)):=by rw [ak0 h,fj]
def jv (a b:Int):Int:=if a < b then -1 else if b < a then 1 else 0
def a2u (a b:AS):Int:=if jv (bsz a) (bsz b) = 0 then jv (asI a) (asI b) else jv (bsz a) (bsz b)
end
end
section
open Go.Proofs
theorem b52:goodFn Tryz.prog 218:=wgx Tryz.func218
theorem bff (s:AS):a7 Tryz.prog 218 [pA s] (ae [pP (il (al s))]):=by
 refine hpx (nt:=17) Tryz.func218 ?_;refine oe ?_;refine cj 3 900 true 1 3 (lf iC []) boz rfl (CoP.sl rfl (.inr rfl) (fun h=>h) (fun i j hi _=>absurd hi (bkp i))) (.inr rfl) rfl ?_;refine a6 (ι:=Nat) ⟨[(0,some _)],[]⟩ ⟨⟨c9,trivial⟩,trivial⟩ (fun i=>⟨[(3,some (.v (.one (.ref 900 (f0 s i).length)))),(4,some (vI i))],[(900,some (.arr true 1 3 (f0 s i).length (lf iC (f0 s i))))]⟩) (fun i=>i <= 32) (fun i=>32 - i) (0) (bkl _) ⟨⟨zy,zy,trivial⟩,⟨u9,trivial⟩⟩ ?_;rintro i hi;have hlen:=aur s i;refine w_6 ?_;refine hcd (fun h0=>?_) (fun h0=>?_)
 ·
  refine w_7 ?_;refine qcx vq (a9k s i) ?_;refine aq ?_;refine hcb (fun h1=>?_) (fun h1=>?_)
  ·
   refine w_3 ?_;refine m9 0 ?_;refine r9 1 true ?_;refine w_7 ?_
   first | (refine ⟨i + 1, ?_, ?_, ?_⟩
            · show i + 1 <= _;omega
            · first | omega | (dsimp only;omega)
            exact ⟨⟨⟨_,rfl,(c7 (o0 bos bot))⟩,zy,c9,trivial⟩,⟨⟨_,rfl,(bz (o0 bos bot) (CoP.refl _))⟩,trivial⟩⟩)
         | (refine ⟨i + 1, ?_, ?_, ?_⟩
            · show i + 1 <= _;omega
            · first | omega | (dsimp only;omega)
            exact ⟨⟨⟨_,rfl,(ca (su bos bot))⟩,zy,c9,trivial⟩,⟨⟨_,rfl,(bv (su bos bot))⟩,trivial⟩⟩)
  refine w_6 ?_
  first | (refine ⟨i + 1, ?_, ?_, ?_⟩
           · show i + 1 <= _;omega
           · first | omega | (dsimp only;omega)
           exact ⟨⟨⟨_,rfl,(c7 (o0 bos bot))⟩,zy,c9,trivial⟩,⟨⟨_,rfl,(bz (o0 bos bot) (CoP.refl _))⟩,trivial⟩⟩)
        | (refine ⟨i + 1, ?_, ?_, ?_⟩
           · show i + 1 <= _;omega
           · first | omega | (dsimp only;omega)
           exact ⟨⟨⟨_,rfl,(ca (su bos bot))⟩,zy,c9,trivial⟩,⟨⟨_,rfl,(bv (su bos bot))⟩,trivial⟩⟩)
 obtain rfl:i = 32:=by omega
 refine w_6 ?_;refine av 2 rfl rfl rfl ?_;exact hx8 rfl rfl rfl (⟨CoC.one (CoP.refl _),trivial⟩)
theorem vh:goodFn Tryz.prog 172:=wgx Tryz.func172
theorem yt (s:AS):a7 Tryz.prog 172 [pA s] (ae [pI (bsz s)]):=by
 refine hpx (nt:=6) Tryz.func172 ?_;refine w_7 ?_;refine qcx b52 (bff s) ?_;refine w_3 ?_;exact hx8 rfl rfl rfl (⟨cci (by rw [sx]),trivial⟩)
theorem a2k:goodFn Tryz.prog 55:=wgx Tryz.func55
theorem ad4 (s0:AS):a7 Tryz.prog 55 [pA s0] (ae [pP (il (al s0))]):=by
 refine hpx (nt:=16) Tryz.func55 ?_;refine ce ?_;refine cj 3 900 true 1 3 (lf iC []) boz rfl (CoP.sl rfl (.inr rfl) (fun h=>h) (fun i j hi _=>absurd hi (bkp i))) (.inr rfl) rfl ?_;refine a6 (ι:=List Nat × AS) ⟨[],[]⟩ ⟨trivial,trivial⟩ (fun x=>⟨[(3,some (.v (.one (.ref 900 x.1.length)))),(0,some (vA x.2))],[(900,some (.arr true 1 3 x.1.length (lf iC x.1)))]⟩) (fun x=>x.1 ++ al x.2 = al s0) (fun x=>x.2.toNat) (([],s0)) (rfl) ⟨⟨zy,zy,trivial⟩,⟨u9,trivial⟩⟩ ?_;rintro x hx;have hlen:=ax6 x hx;refine w_6 ?_;refine hcn (fun h0=>?_) (fun h0=>?_)
 ·
  have hne:x.2 ≠ 0:=fun e=>h0 (by rw [e];rfl);refine w_6 ?_;refine qcx b42 (cTz x.2) ?_;refine m9 0 ?_;refine r9 1 true ?_;refine w_5 ?_;refine rq rfl rfl rfl rfl rfl ?_ (hp:=(zc hne));refine w_3 ?_;refine ⟨(x.1 ++ [ip x.2],x.2 &&& (x.2 - 1)), ?_, ?_, ?_⟩
  · show (x.1 ++ [ip x.2]) ++ al (x.2 &&& (x.2 - 1)) = al s0
    rw [<- hx,au0 hne,blw];rfl
  · exact b1z hne
  exact ⟨⟨⟨_,rfl,(c7 rfl)⟩,⟨_,rfl,(bw (am7 hne))⟩,trivial⟩,⟨⟨_,rfl,(bz rfl (CoP.refl _))⟩,trivial⟩⟩
 have hz:x.2 = 0:=cg.1 h0;refine w_6 ?_;refine av 2 rfl rfl rfl ?_;exact hx8 rfl rfl rfl (⟨CoC.one (CoP.of_eq (by rw [hz,ac5,blq] at hx;rw [<- hx];rfl)),trivial⟩)
theorem b6y:goodFn Tryz.prog 213:=wgx Tryz.func213
theorem bgn (s:AS):a7 Tryz.prog 213 [pA s] (ae [pI (bsz s)]):=by
 refine hpx (nt:=21) Tryz.func213 ?_;refine w_8 ?_;refine rq rfl rfl rfl rfl rfl ?_ (hp:=(bi9 s (by decide +kernel)));refine w_3 ?_;refine rq rfl rfl rfl rfl rfl ?_ (hp:=(ixM s 16 bos (by decide +kernel)));refine rqw rfl rfl rfl rfl rfl ?_;refine w_3 ?_;refine rq rfl rfl rfl rfl rfl ?_ (hp:=(ixM s 8 bos (by decide +kernel)));refine rqw rfl rfl rfl rfl rfl ?_;refine w_2 ?_;refine rq rfl rfl rfl rfl rfl ?_ (hp:=(ixL s (by decide +kernel)));(iterate 2 refine rqw rfl rfl rfl rfl rfl ?_);refine w_3 ?_;exact hx8 rfl rfl rfl (⟨cci (bb7 (by decide +kernel) (b3m s 24 bos) (are s 16 bos) (are s 8 bos) (b2w s)),trivial⟩)
theorem ye:goodFn Tryz.prog 168:=wgx Tryz.func168
theorem a74 (s:AS):a7 Tryz.prog 168 [pA s] (ae [pI (bsz s)]):=by
 refine hpx (nt:=5) Tryz.func168 ?_;refine w_7 ?_;refine qcx b6y (bgn s) ?_;refine w_2 ?_;exact hx8 rfl rfl rfl (CoL.refl _)
end
section
def lh (l:List AS) (k:Nat) (r:AS):List AS:=l.take k ++ r :: l.drop k
section
variable {k:Nat} {l:List AS} {r:AS}
theorem lx (h:k <= l.length):(lh l k r).length = l.length + 1:=by simp [lh];omega
theorem b29:lh l l.length r = l ++ [r]:=by simp [lh]
theorem a2w {i:Nat} (h:k <= l.length):(lh l k r)[i]? = if i < k then l[i]? else if i = k then some r else l[i - 1]?:=by
 simp only [lh];by_cases h1:i < k
 · rw [if_pos h1,bmd bp3,blp,if_pos h1]
 rw [if_neg h1,bmb bp3,bku,bmn h];by_cases h2:i = k
 · subst h2;simp
 rw [if_neg h2];obtain ⟨d,rfl⟩:∃ d,i = k + 1 + d:=⟨i - k - 1,by omega⟩;rw [show k + 1 + d - k = d + 1 by omega,List.getElem?_cons_succ,bmy];congr 1;omega
theorem auy (h:k <= l.length):(lh l k r).getD k default = r:=by
 rw [bkk,a2w h,if_neg bos,if_pos rfl];rfl
theorem ago (h0:0 < k) (h:k <= l.length):(lh l k r).getD (k - 1) default = l.getD (k - 1) default:=by
 rw [bkk,a2w h,if_pos bos,bkk]
theorem asz (h0:0 < k) (h:k <= l.length):((lh l k r).set k (l.getD (k - 1) default)).set (k - 1) r = lh l (k - 1) r:=by
 apply bn9;intro i;rw [a2w bos,bon,bon,bmv,lx h,a2w h];by_cases h1:k - 1 = i
 · subst h1
   rw [if_pos rfl,if_pos bos,if_neg bos,if_pos rfl]
 rw [if_neg h1];by_cases h2:k = i
 · subst h2
   rw [if_pos rfl,if_pos bos,if_neg bos,if_neg bos,List.getD,bkj bos];rfl
 rw [if_neg h2];by_cases h3:i < k
 · rw [if_pos h3,if_pos bos]
 rw [if_neg h3,if_neg bos,if_neg bos,if_neg bos]
theorem awv {k' m':Nat} (h0:0 < k) (hk:k <= l.length) (hk':k' = k) (hm':m' = k - 1) {n:Nat} (hn:n = l.length + 1) {e:TypeId}:
 CoO (.arr true 1 e n (er (er (lf sC (lh l k r)) k' 0 [lf sC (lh l k r) m' 0]) m' 0 [lf sC (lh l k r) k' 0])) (.arr true 1 e n (lf sC (lh l (k - 1) r))):=by
 subst hk' hm';rw [<- asz h0 hk];refine ap7 (fun h=>h) (by rw [lx hk];exact hn) (by rw [lx hk];omega) (by rw [lx hk];omega) rfl rfl (fun j hj=>?_) (fun j hj=>?_)
 · obtain rfl:j = 0:=by omega
   exact CoP.of_eq (by show sC ((lh l k' r).getD (k' - 1) default) 0 = _;rw [ago h0 hk])
 obtain rfl:j = 0:=by omega
 exact CoP.of_eq (by show sC ((lh l k' r).getD k' default) 0 = _;rw [auy hk])
theorem at3 {k' m':Nat} {b:Bool} (h0:0 < k) (hk:k <= l.length) (h:bef ((lh l k r).getD k' default) ((lh l k r).getD m' default) = b) (hk':k' = k) (hm':m' = k - 1):bef r (l.getD (k - 1) default) = b:=by
 subst hk' hm';rwa [auy hk,ago h0 hk] at h
theorem aa5 {j:Nat} (h:j < l.length):l.getD j default ∈ l:=by
 rw [bkk,bkj h];exact blh h
theorem agp (hs:qc l) (hr:r ∉ l) (hk:k <= l.length) (h1:∀ j,k <= j -> j < l.length -> bef r (l.getD j default) = true) (h2:k = 0 \/ ¬ bef r (l.getD (k - 1) default) = true):lh l k r = ly r l:=by
 refine qo ?_ (zx hs) fun z=>?_
 · unfold qc lh
   rw [bnr];refine ⟨hs.sublist (List.take_sublist _ _),bls.2 ⟨fun z hz=>?_,hs.sublist (List.drop_sublist _ _)⟩,fun y hy z hz=>?_⟩
   · obtain ⟨j,hj,rfl⟩:=bla hz
     rw [bma] at hj;have:=h1 (k + j) bos bos;rwa [bkk,bkj bos,bli,<- List.getElem_drop] at this
   have hyr:bef y r = true:=by
    obtain ⟨j,hj,rfl⟩:=bla hy;rw [bku] at hj
    rcases h2 with h2 | h2
    · omega
    have hk1:k - 1 < l.length:=by omega
    have hlast:bef (l.getD (k - 1) default) r = true:=by
     rcases a7j (a:=r) (b:=l.getD (k - 1) default) (fun e=>hr (e ▸ aa5 hk1)) with h | h
     · exact absurd h h2
     exact h
    rw [List.getElem_take];by_cases hjk:j = k - 1
    · subst hjk
      rwa [bkk,bkj hk1,bli] at hlast
    refine sg ?_ hlast;rw [bkk,bkj hk1,bli];exact bmm.1 hs j (k - 1) bos hk1 bos
   rcases bkx.1 hz with rfl | hz
   · exact hyr
   have h3:bef r z = true:=by
    obtain ⟨j,hj,rfl⟩:=bla hz;rw [bma] at hj;have:=h1 (k + j) bos bos;rwa [bkk,bkj bos,bli,<- List.getElem_drop] at this
   exact sg hyr h3
 rw [yr];unfold lh;rw [bl4,bkx];constructor
 · rintro (h | h | h)
   · exact .inr (bne h)
   · exact .inl h
   exact .inr (List.mem_of_mem_drop h)
 rintro (h | h)
 · exact .inr (.inl h)
 rw [<- bnz k l,bl4] at h
 rcases h with h | h
 · exact .inl h
 exact .inr (.inr h)
theorem un (hs:qc l) (hr:r ∈ l):ly r l = l:=qo (zx hs) hs fun z=>by
 rw [yr];constructor
 · rintro (rfl | h)
   · exact hr
   exact h
 exact .inr
theorem gt {i:Nat} (hi:i < l.length):ord (l.take (i + 1)) = ly (l.getD i default) (ord (l.take i)):=by
 unfold ord;rw [ay hi,bm0];rfl
theorem ajn (x:AS):∀ l:List AS,(ly x l).length <= l.length + 1
 | []=>by simp [ly]
 | y :: l=>by
  unfold ly;have:=ajn x l;split
  · simp
  split
  · simp
  simp only [blf];omega
theorem ln (l:List AS):(ord l).length <= l.length:=by
 have:∀ (l o:List AS),(l.foldl (fun o x=>ly x o) o).length <= o.length + l.length:=by
  intro l
  induction l with
  | nil=>intro o;simp
  | cons x l ih =>
   intro o;have h1:=ih (ly x o);have h2:=ajn x o;simp only [bmr,blf];omega
 have h:=this l [];simpa [ord] using h
theorem ans {s:AS}:(l.any fun x=>decide (x = s)) = decide (s ∈ l):=by
 rw [bme,bll,decide_eq_true_iff];constructor
 · rintro ⟨x,hx,h⟩
   exact of_decide_eq_true h ▸ hx
 intro h;exact ⟨s,h,decide_eq_true rfl⟩
def jC:Int -> Nat -> PV:=fun n _=>.raw (.int .i64 n)
def orF (l:List Int):Int:=(l.find? fun x=>decide (x ≠ 0)).getD 0
theorem bfp {l:List Int} {i:Nat} (hi:i < l.length) (hI:∀ j,j < i -> decide (l.getD j default = 0) = true) (h:¬ l.getD i default = 0):orF l = l.getD i default:=by
 unfold orF
 have:l.find? (fun x=>decide (x ≠ 0)) = some (l.getD i default):=by
  rw [List.find?_eq_some_iff_getElem];refine ⟨decide_eq_true h,i,hi,by simp [List.getD,hi],fun j hj=>?_⟩;have:=of_decide_eq_true (hI j hj);rw [bkk,bkj bos,bli] at this;simp [this]
 rw [this];rfl
theorem bez {l:List Int} (hI:∀ j,j < l.length -> decide (l.getD j default = 0) = true):orF l = 0:=by
 unfold orF
 have:l.find? (fun x=>decide (x ≠ 0)) = none:=by
  rw [bnx];intro x hx;obtain ⟨j,hj,rfl⟩:=bla hx;have:=of_decide_eq_true (hI j hj);rw [bkk,bkj hj,bli] at this;simp [this]
 rw [this];rfl
theorem b7u (a b:AS):orF [jv (bsz a) (bsz b),jv (asI a) (asI b)] = a2u a b:=by
 unfold orF a2u;by_cases h:jv (bsz a) (bsz b) = 0
 · by_cases h2:jv (asI a) (asI b) = 0 <;> simp [h,h2]
 simp [h]
theorem b4g {α:Type} [Inhabited α] {cl:Bool} {c:α -> Nat -> PV} {x y:α} {f:Nat -> Nat -> PV} (h0:CoP (f 0 0) (c x 0)) (h1:CoP (f 1 0) (c y 0)):CoP (.sl 2 1 cl f) (psl 1 c [x,y]) :=
 CoP.sl rfl (.inl rfl) (fun h=>by cases h) fun i j hi hj=>by
  obtain rfl:j = 0:=by omega
  rcases (by omega:i = 0 \/ i = 1) with rfl | rfl
  · exact h0
  exact h1
theorem bap {a b:AS} (h:¬ (bsz a:Int) = bsz b):decide ((bsz a:Int) < bsz b) = bef a b:=by
 rw [bme,decide_eq_true_iff,my];omega
theorem bd3 {a b:AS} (h:(bsz a:Int) = bsz b):decide (asI a < asI b) = bef a b:=by
 rw [bme,decide_eq_true_iff,my];unfold asI;omega
theorem apz {α:Type} [Inhabited α] {wr wr':Bool} {e:TypeId} {c:α -> Nat -> PV} {l:List α} {x:α} {g:Nat -> Nat -> PV} (hg:CoP (g 0 0) (c x 0)) (hw:wr' = true -> wr = true:=by exact fun h=>h) :
 CoO (.arr wr 1 e (l.length + 1) (fh l.length (lf c l) g)) (.arr wr' 1 e (l.length + 1) (lf c (l ++ [x]))):=by
 have h:=bz (wr:=wr) (wr':=wr') (e:=e) (l:=l) (l':=l ++ [x]) (g:=g) rfl hg hw;rwa [show (l ++ [x]).length = l.length + 1 by simp] at h
theorem f5 {α:Type} [Inhabited α] {wr wr':Bool} {s n m:Nat} {e:TypeId} {c:α -> Nat -> PV} {l l':List α} (h:l' = l) (hn:n = m) (hw:wr' = true -> wr = true:=by exact fun h=>h):CoO (.arr wr s e n (lf c l)) (.arr wr' s e m (lf c l')):=by
 subst h hn;exact ⟨hw,rfl,rfl,rfl,fun _ _ _ _=>CoP.refl _⟩
theorem ayt {a b:AS}:decide (a2u a b < 0) = bef a b:=by
 rw [bme,decide_eq_true_iff,my];unfold a2u jv asI;split <;> (repeat' split) <;> omega
end
end
section
open Go.Proofs
theorem b8k:goodFn Tryz.prog 199:=wgx Tryz.func199
theorem b4j (a b:AS):a7 Tryz.prog 199 [pA a,pA b] (ae [pB (bef a b)]):=by
 refine hpx (nt:=18) Tryz.func199 ?_;refine w_8 ?_;refine qcx vh (yt _) ?_;refine qy ?_;refine qcx vh (yt _) ?_;refine w_2 ?_;refine hcn (fun h0=>?_) (fun h0=>?_)
 · refine w_3 ?_;refine qcx vh (yt _) ?_;refine qy ?_;refine qcx vh (yt _) ?_;refine w_3 ?_;exact hx8 rfl rfl rfl (⟨ccb (bap h0),trivial⟩)
 refine w_8 ?_;exact hx8 rfl rfl rfl (⟨ccb (bd3 h0),trivial⟩)
theorem ae2:goodFn Tryz.prog 198:=wgx Tryz.func198
theorem cIn (l:List AS) (s:AS):a7 Tryz.prog 198 [pP (asl l),pA s] (ae [pB (decide (s ∈ l))]):=by
 refine hpx (nt:=18) Tryz.func198 ?_;refine cq ?_;refine cb 0 rfl fun hn=>?_;refine w_3 ?_;refine bu (ι:=Unit) ⟨[],[]⟩ ⟨trivial,trivial⟩ (fun _i=>⟨[],[]⟩) (fun _i=>decide (s ∈ l) = false) ?_ ?_
 ·
  refine w_5 ?_;refine a6 (ι:=Nat) ⟨[(0,some _),(1,some _)],[]⟩ ⟨⟨c9,c9,trivial⟩,trivial⟩ (fun i=>⟨[(5,some (vI i))],[]⟩) (fun i=>i <= l.length /\ (∀ j,j < i -> decide (l.getD j default = s) = false)) (fun i=>l.length - i) (0) (⟨bkl _,bq⟩) ⟨⟨zy,trivial⟩,trivial⟩ ?_;rintro i ⟨hi,hI⟩;refine w_8 ?_;refine hcd (fun h0=>?_) (fun h0=>?_)
  ·
   refine ef ?_;refine hcd (fun h1=>?_) (fun h1=>?_)
   · refine w_4 ?_;exact hx8 rfl rfl rfl (⟨ccb (by rw [<- ans];exact (ahf (p:=fun x=>decide (x = s)) (i:=i) bos (decide_eq_true (cg.1 h1))).symm),trivial⟩)
   refine w_6 ?_;refine lpz (i + 1) ⟨⟨zy,c9,c9,trivial⟩,trivial⟩ ?_;exact ⟨by show i + 1 <= _;omega,az hI (decide_eq_false fun e=>h1 (congrArg asI e))⟩
  refine dp ?_;refine ⟨(), ?_, ?_⟩
  · rw [<- ans];exact ahc (p:=fun x=>decide (x = s)) fun j hj=>hI j bos
  exact ⟨trivial,trivial⟩
 rintro _ hj;refine w_4 ?_;exact hx8 rfl rfl rfl (⟨ccb hj.symm,trivial⟩)
theorem apo:goodFn Tryz.prog 266:=wgx Tryz.func266
theorem b3s (a:Int):a7 Tryz.prog 266 [pI a] (ae [pB false]):=by
 refine hpx (nt:=6) Tryz.func266 ?_;refine cu ?_;exact hx8 rfl rfl rfl (⟨ccb bow,trivial⟩)
theorem anc:goodFn Tryz.prog 267:=wgx Tryz.func267
theorem b2m (a:AS):a7 Tryz.prog 267 [pA a] (ae [pB false]):=by
 refine hpx (nt:=6) Tryz.func267 ?_;refine cu ?_;exact hx8 rfl rfl rfl (⟨ccb bow,trivial⟩)
theorem aoc:goodFn Tryz.prog 245:=wgx Tryz.func245
theorem bp7 {p:Prop} (h:p:=by unfold jv;first | (rw [if_pos bos]) | (rw [if_neg bos,if_pos bos]) | (rw [if_neg bos,if_neg bos])):p:=h
theorem b3e (a b:Int):a7 Tryz.prog 245 [pI a,pI b] (ae [pI (jv a b)]):=by
 refine hpx (nt:=20) Tryz.func245 ?_;refine w_7 ?_;refine qcx apo (b3s _) ?_;refine w_5 ?_;refine qcx apo (b3s _) ?_;refine w_7 ?_;refine a8 _ rfl (fun e=>by cases e) (fun _=>?_);refine w_6 ?_;refine a8 _ rfl (fun e=>by cases e) (fun _=>?_);refine w_8 ?_;refine hcd (fun h0=>?_) (fun h0=>?_)
 · refine w_4 ?_;exact hx8 rfl rfl rfl (⟨cci bp7,trivial⟩)
 refine w_8 ?_;refine hcd (fun h1=>?_) (fun h1=>?_)
 · refine w_4 ?_;exact hx8 rfl rfl rfl (⟨cci bp7,trivial⟩)
 refine w_5 ?_;exact hx8 rfl rfl rfl (⟨cci bp7,trivial⟩)
theorem b4n:goodFn Tryz.prog 246:=wgx Tryz.func246
theorem bfj (a b:AS):a7 Tryz.prog 246 [pA a,pA b] (ae [pI (jv (asI a) (asI b))]):=by
 refine hpx (nt:=20) Tryz.func246 ?_;refine w_7 ?_;refine qcx anc (b2m _) ?_;refine w_5 ?_;refine qcx anc (b2m _) ?_;refine w_7 ?_;refine a8 _ rfl (fun e=>by cases e) (fun _=>?_);refine w_6 ?_;refine a8 _ rfl (fun e=>by cases e) (fun _=>?_);refine w_8 ?_;refine hcd (fun h0=>?_) (fun h0=>?_)
 · refine w_4 ?_;exact hx8 rfl rfl rfl (⟨cci bp7,trivial⟩)
 refine w_8 ?_;refine hcd (fun h1=>?_) (fun h1=>?_)
 · refine w_4 ?_;exact hx8 rfl rfl rfl (⟨cci bp7,trivial⟩)
 refine w_5 ?_;exact hx8 rfl rfl rfl (⟨cci bp7,trivial⟩)
theorem b9m:goodFn Tryz.prog 244:=wgx Tryz.func244
theorem cOr (l:List Int):a7 Tryz.prog 244 [pP (psl 1 jC l)] (ae [pI (orF l)]):=by
 refine hpx (nt:=18) Tryz.func244 ?_;refine cq ?_;refine cb 0 rfl fun hn=>?_;refine w_7 ?_;refine bu (ι:=Unit) ⟨[(3,some _)],[]⟩ ⟨⟨c9,trivial⟩,trivial⟩ (fun _i=>⟨[],[]⟩) (fun _i=>orF l = 0) ?_ ?_
 ·
  refine w_7 ?_;refine a6 (ι:=Nat) ⟨[(3,some _),(6,some _),(7,some _)],[]⟩ ⟨⟨c9,c9,c9,trivial⟩,trivial⟩ (fun i=>⟨[(8,some (vI i))],[]⟩) (fun i=>i <= l.length /\ (∀ j,j < i -> decide (l.getD j default = 0) = true)) (fun i=>l.length - i) (0) (⟨bkl _,bq⟩) ⟨⟨zy,trivial⟩,trivial⟩ ?_;rintro i ⟨hi,hI⟩;refine w_5 ?_;refine hcd (fun h0=>?_) (fun h0=>?_)
  ·
   refine ku ?_;refine hcn (fun h1=>?_) (fun h1=>?_)
   · refine w_5 ?_;exact hx8 rfl rfl rfl (⟨cci (bfp (i:=i) bos hI h1).symm,trivial⟩)
   refine w_5 ?_;refine lpz (i + 1) ⟨⟨zy,c9,c9,c9,trivial⟩,trivial⟩ ?_;exact ⟨by show i + 1 <= _;omega,az hI (decide_eq_true h1)⟩
  refine dp ?_;refine ⟨(), ?_, ?_⟩
  · exact bez fun j hj=>hI j bos
  exact ⟨⟨c9,trivial⟩,trivial⟩
 rintro _ hj;refine w_5 ?_;exact hx8 rfl rfl rfl (⟨cci hj.symm,trivial⟩)
theorem ayn (a b:AS):a7 Tryz.prog 215 [pA a,pA b] (ae [pI (a2u a b)]):=by
 refine hpx (nt:=15) Tryz.func215 ?_;refine w_7 ?_;refine qcx ye (a74 _) ?_;refine qy ?_;refine qcx ye (a74 _) ?_;refine qcx aoc (b3e _ _) ?_;refine w_2 ?_;refine qcx b4n (bfj _ _) ?_;refine m9 0 ?_;refine rc rfl rfl rfl rfl rfl rfl b9m (cOr [jv (bsz a) (bsz b),jv (asI a) (asI b)]) (⟨CoC.one (b4g (CoP.refl _) (CoP.refl _)),trivial⟩) rfl rfl ?_;refine w_2 ?_;exact hx8 rfl rfl rfl (⟨cci (b7u a b),trivial⟩)
theorem ane:goodFn Tryz.prog 144:=wgx Tryz.func144
theorem ap6 (l:List AS) (hl:l.length <= 8589934592):a7 Tryz.prog 144 [pP (asl l)] (ae [pP (asl (ord l))]):=by
 refine hpx (nt:=61) Tryz.func144 ?_;refine cq ?_;refine cb 0 rfl fun hn=>?_;refine ik ?_;refine cj 3 900 true 1 46 (lf sC []) boz rfl (CoP.sl rfl (.inr rfl) (fun h=>h) (fun i j hi _=>absurd hi (bkp i))) (.inr rfl) rfl ?_;refine a6 (ι:=Nat) ⟨[(0,some _)],[]⟩ ⟨⟨c9,trivial⟩,trivial⟩ (fun i=>⟨[(3,some (.v (.one (.ref 900 (ord (l.take i)).length)))),(4,some (vI i))],[(900,some (.arr true 1 46 (ord (l.take i)).length (lf sC (ord (l.take i)))))]⟩) (fun i=>i <= l.length) (fun i=>l.length - i) (0) (bkl _) ⟨⟨zy,zy,trivial⟩,⟨u9,trivial⟩⟩ ?_;rintro i hi;have hlen:=ln (l.take i);rw [bku] at hlen;refine w_8 ?_;refine hcd (fun h0=>?_) (fun h0=>?_)
 ·
  refine cu ?_;refine qcx ae2 (cIn (ord (l.take i)) (l.getD i default)) ?_;refine aq ?_;refine hcb (fun h1=>?_) (fun h1=>?_)
  ·
   have hin:=a1b h1;refine w_6 ?_
   first | (refine ⟨i + 1, ?_, ?_, ?_⟩
            · show i + 1 <= _;omega
            · first | omega | (dsimp only;omega)
            exact ⟨⟨⟨_,rfl,(ca (by rw [gt bos,un (jb _) hin]))⟩,zy,c9,trivial⟩,⟨⟨_,rfl,(bv (by rw [gt bos,un (jb _) hin]))⟩,trivial⟩⟩)
         | (refine ⟨i + 1, ?_, ?_, ?_⟩
            · show i + 1 <= _;omega
            · first | omega | (dsimp only;omega)
            exact ⟨⟨⟨_,rfl,(adt (by rw [gt bos,<- hfin,lx hk]))⟩,zy,c9,trivial⟩,⟨⟨_,rfl,(f5 (by rw [gt bos,<- hfin]) (by rw [gt bos,<- hfin,lx hk]))⟩,trivial⟩⟩)
  have hin:=a3w h1;refine w_8 ?_;refine m9 0 ?_;refine r9 1 true ?_;refine ce ?_;refine a6 (ι:=Nat) ⟨[(0,some _),(3,some _),(4,some _)],[]⟩ ⟨⟨c9,c9,c9,trivial⟩,trivial⟩ (fun k=>⟨[(5,some (vI k))],[(900,some (.arr true 1 46 ((ord (l.take i)).length + 1) (lf sC (lh (ord (l.take i)) k (l.getD i default)))))]⟩) (fun k=>k <= (ord (l.take i)).length /\ ∀ j,k <= j -> j < (ord (l.take i)).length -> bef (l.getD i default) ((ord (l.take i)).getD j default) = true) (fun k=>k) ((ord (l.take i)).length) (⟨bko _,fun j h1 h2=>by omega⟩) ⟨⟨zy,trivial⟩,⟨⟨_,rfl,(by rw [b29];exact apz (CoP.refl _))⟩,trivial⟩⟩ ?_;rintro k ⟨hk,hK⟩;refine w_6 ?_;refine am rfl rfl (fun r2=>?_) (fun r2=>?_)
  ·
   have h2:=tz1 r2;(iterate 9 refine qy ?_ (hg:=(gtt r2)));refine qcx b8k (b4j _ _) ?_ (hg:=(gtt r2));refine w_3 ?_;refine a8 _ rfl (fun r3=>?_) (fun r3=>?_)
   ·
    have h3:=bp r2 r3;have hb:=at3 bos hk h3 bos bos;refine w_3 ?_;refine aeu (E:=gl) fc wg [0,1,5,6,7,8,9,10,11,12,13,14,15,2,3,4,16,17] ?_;refine bei ?_;refine ⟨k - 1, ?_, ?_, ?_⟩
    · refine ⟨by omega,fun j h1 h2=>?_⟩
      by_cases hj:j = k - 1
      · rw [hj];exact hb
      exact hK j bos h2
    · show k - 1 < k
      omega
    exact ⟨⟨zy,c9,c9,c9,trivial⟩,⟨⟨_,rfl,(awv bos hk bos bos rfl)⟩,trivial⟩⟩
   have h3:=bp r2 r3;have hb:=at3 bos hk h3 bos bos;have hfin:=agp (jb _) hin hk hK (.inr (by rw [hb];decide));refine w_6 ?_
   first | (refine ⟨i + 1, ?_, ?_, ?_⟩
            · show i + 1 <= _;omega
            · first | omega | (dsimp only;omega)
            exact ⟨⟨⟨_,rfl,(ca (by rw [gt bos,un (jb _) hin]))⟩,zy,c9,trivial⟩,⟨⟨_,rfl,(bv (by rw [gt bos,un (jb _) hin]))⟩,trivial⟩⟩)
         | (refine ⟨i + 1, ?_, ?_, ?_⟩
            · show i + 1 <= _;omega
            · first | omega | (dsimp only;omega)
            exact ⟨⟨⟨_,rfl,(adt (by rw [gt bos,<- hfin,lx hk]))⟩,zy,c9,trivial⟩,⟨⟨_,rfl,(f5 (by rw [gt bos,<- hfin]) (by rw [gt bos,<- hfin,lx hk]))⟩,trivial⟩⟩)
  have h2:=tz2 r2;have hfin:=agp (jb _) hin hk hK (.inl bos);(iterate 10 refine k9 (gft r2) ?_);refine rq rfl rfl rfl rfl rfl ?_ (hp:=r2);refine w_2 ?_;refine a8 _ rfl (fun e=>by cases e) (fun _=>?_);refine w_6 ?_
  first | (refine ⟨i + 1, ?_, ?_, ?_⟩
           · show i + 1 <= _;omega
           · first | omega | (dsimp only;omega)
           exact ⟨⟨⟨_,rfl,(ca (by rw [gt bos,un (jb _) hin]))⟩,zy,c9,trivial⟩,⟨⟨_,rfl,(bv (by rw [gt bos,un (jb _) hin]))⟩,trivial⟩⟩)
        | (refine ⟨i + 1, ?_, ?_, ?_⟩
           · show i + 1 <= _;omega
           · first | omega | (dsimp only;omega)
           exact ⟨⟨⟨_,rfl,(adt (by rw [gt bos,<- hfin,lx hk]))⟩,zy,c9,trivial⟩,⟨⟨_,rfl,(f5 (by rw [gt bos,<- hfin]) (by rw [gt bos,<- hfin,lx hk]))⟩,trivial⟩⟩)
 obtain rfl:i = l.length:=by omega
 refine w_6 ?_;refine av 2 rfl rfl rfl ?_;exact hx8 rfl rfl rfl (⟨CoC.one (CoP.of_eq (by rw [bks];rfl)),trivial⟩)
end
end Go.Hx

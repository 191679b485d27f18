/- A part of the proof: LyTz TzW Cs7 Cs8 V6 Cs9 V7. -/
import Derived.Shelf.Lays7
import Derived.Shelf.Spec.TrailingZeros
import Derived.Test.YtkkenjdfbojdlaaGreatDoorProg
import Derived.Test.YtkkenjdfbojdlaaGreatDoorMx16
set_option linter.all false
set_option maxRecDepth 100000
set_option maxHeartbeats 1000000
section
namespace Go.Proofs
open Go.Shelf
def Tryz.lays28_ren:Go.Shelf.Ren:=⟨fun | 28=>114 | n=>n,fun | 27=>43 | 3=>3 | 4=>4 | 25=>177 | 53=>176 | 0=>0 | 5=>5 | n=>n,fun | 0=>0 | n=>n⟩
theorem Tryz.lays28:Go.Proofs.Lays7.n28 Tryz.prog Tryz.lays28_ren:={
 mixed:=by kernel_rfl
 f28:=Tryz.func114.trans (congrArg some (by kernel_rfl))
 t0:=Tryz.underlying0
 a0:=Tryz.isAgg0
 z0:=Tryz.sizeOf0
 v0:=Tryz.zeroValue0
 i0:=by kernel_rfl
 t3:=Tryz.underlying3
 a3:=Tryz.isAgg3
 z3:=Tryz.sizeOf3
 v3:=Tryz.zeroValue3
 i3:=by kernel_rfl
 t4:=Tryz.underlying4
 a4:=Tryz.isAgg4
 z4:=Tryz.sizeOf4
 v4:=Tryz.zeroValue4
 i4:=by kernel_rfl
 t5:=Tryz.underlying5
 a5:=Tryz.isAgg5
 z5:=Tryz.sizeOf5
 v5:=Tryz.zeroValue5
 i5:=by kernel_rfl
 t25:=Tryz.underlying177
 a25:=Tryz.isAgg177
 z25:=Tryz.sizeOf177
 v25:=Tryz.zeroValue177
 i25:=by kernel_rfl
 t27:=Tryz.underlying43
 a27:=Tryz.isAgg43
 z27:=Tryz.sizeOf43
 v27:=Tryz.zeroValue43
 i27:=by kernel_rfl
 t53:=Tryz.underlying176
 a53:=Tryz.isAgg176
 z53:=Tryz.sizeOf176
 v53:=Tryz.zeroValue176
 i53:=by kernel_rfl
 g0:=by kernel_rfl }
end Go.Proofs
end
namespace Go.Hx
section
open Go.Proofs Go.RowKit
def bbh:goodFn btb 114:=⟨Tryz.f114,Tryz.func114,by kernel_rfl,by kernel_rfl⟩
def bj9:∀ j,j < Lib.deBruijn32tab.length -> a0s 0 j = some (.int .u8 (Lib.deBruijn32tab.getD j 0)):=fun j hj=>by
 unfold a0s;rw [show xz 0 = Lib.deBruijn32tab.map (fun k:Nat=>Value.int .u8 (k:Int)) from rfl,boy,bo6 hj,bo7,bo6 hj];rfl
def cTz (s:AS):a7 btb 114 [pA s] (aa [pI (je s)]):=by
 intro w imm us htab him hus
 match us,hus with
 | [u],⟨hu,_⟩ =>
  obtain ⟨rfl,_⟩:=hu
  have h:=Any7.bits_TrailingZeros32 Tryz.lays28 s.toNat s.isLt w fun _ j hj=>by
   have hc:=htab 0 j _ (bj9 j hj);unfold kg at hc
   cases hb:imm 0 with
   | none=>rw [hb] at hc;cases hc
   | some ob =>
    rw [hb] at hc;have hw:=him 0 ob hb;cases ob <;> simp at hc;show w.cell? ⟨0,j,none⟩ = _;simp [World.cell?,hw,hc]
  refine h.mono ?_;rintro e w' ⟨rfl,rfl⟩;exact ⟨_,imm,rfl,⟨rfl,rfl⟩,fun _ _=>rfl,him,Below.refl _ _⟩
 | [],h=>exact h.elim
 | _ :: _ :: _,⟨_,h⟩=>exact h.elim
end
section
def agh {id n m:Nat} (h:n = m):CoR (.v (.one (.ref id n))) (.v (.one (.ref id m))):=by subst h;exact CoR.refl _
section
variable {α:Type} [Inhabited α]
def ahw {wr wr':Bool} {s m:Nat} {e:TypeId} {c:α -> Nat -> PV} {l l':List α} {x:α} {g:Nat -> Nat -> PV} (h:l' = l ++ [x]) (hg:∀ j,j < s -> CoP (g 0 j) (c x j)) (hm:m = 1:=by rfl) (hw:wr' = true -> wr = true:=by exact fun h=>h) :
 CoO (.arr wr s e (l.length + m) (gv l.length (lf c l) g)) (.arr wr' s e l'.length (lf c l')):=by
 subst h;refine ayy [x] hw hm fun i j hi hj=>?_;obtain rfl:i = 0:=by simp at hi;exact hi
 exact hg j hj
def bv {wr wr':Bool} {s:Nat} {e:TypeId} {c:α -> Nat -> PV} {l l':List α} (h:l' = l) (hw:wr' = true -> wr = true:=by exact fun h=>h):CoO (.arr wr s e l.length (lf c l)) (.arr wr' s e l'.length (lf c l')):=by
 subst h;exact ⟨hw,rfl,rfl,rfl,fun _ _ _ _=>CoP.refl _⟩
end
section
variable {α:Type} [Inhabited α]
section
variable {l l':List α}
def c8 {id:Nat} {x:α} (h:l' = l ++ [x]):CoR (.v (.one (.ref id (l.length + 1)))) (.v (.one (.ref id l'.length))):=by subst h;rw [bob];exact CoR.refl _
def ce {id:Nat} (h:l' = l):CoR (.v (.one (.ref id l.length))) (.v (.one (.ref id l'.length))):=by subst h;exact CoR.refl _
def bu {wr wr':Bool} {e:TypeId} {c:α -> Nat -> PV} {x:α} {g:Nat -> Nat -> PV} (h:l' = l ++ [x]) (hg:CoP (g 0 0) (c x 0)) (hw:wr' = true -> wr = true:=by exact fun h=>h):
 CoO (.arr wr 1 e (l.length + 1) (gv l.length (lf c l) g)) (.arr wr' 1 e l'.length (lf c l')) :=
 ahw h (fun j hj=>by
  obtain rfl:j = 0:=by omega
  exact hg) rfl hw
def v6 {wr wr':Bool} {e:TypeId} {c:α -> Nat -> PV} {x:α} {g:Nat -> Nat -> PV} (h:l' = l ++ [x]) (h0:CoP (g 0 0) (c x 0)) (h1:CoP (g 0 1) (c x 1)) (hw:wr' = true -> wr = true:=by exact fun h=>h):
 CoO (.arr wr 2 e (l.length + 1) (gv l.length (lf c l) g)) (.arr wr' 2 e l'.length (lf c l')) :=
 ahw h (fun j hj=>by
  rcases (by omega:j = 0 \/ j = 1) with rfl | rfl
  · exact h0
  exact h1) rfl hw
end
end
def fq (s:AS) (i:Nat):List Nat:=(List.range i).filter fun k=>s.getLsbD k
def qo {s:AS} {i:Nat} (hi:i < 32) (h:bw s (i:Int) = true):fq s (i + 1) = fq s i ++ [i]:=by
 rw [cb hi] at h;unfold fq;rw [bq7,bpr];simp [h]
def vn {s:AS} {i:Nat} (hi:i < 32) (h:bw s (i:Int) = false):fq s (i + 1) = fq s i:=by
 rw [cb hi] at h;unfold fq;rw [bq7,bpr];simp [h]
def azy (s:AS) (i:Nat):(fq s i).length <= i:=by
 unfold fq;have:=bqb (fun k=>s.getLsbD k) (List.range i);rwa [bqm] at this
end
section
def tg (b:Nat):Nat:=(List.range 8).countP fun i=>b.testBit i
def uw (p:Nat -> Bool) (a b:Nat):(List.range (a + b)).countP p = (List.range a).countP p + (List.range b).countP fun i=>p (a + i):=by
 rw [List.range_add,bsd,List.countP_map];rfl
def b28 {n k j:Nat} (hj:j < 8):(n / 2 ^ k % 256).testBit j = n.testBit (k + j):=by
 rw [show (256:Nat) = 2 ^ 8 from rfl,Nat.testBit_mod_two_pow,Nat.testBit_div_two_pow,Nat.add_comm];simp [hj]
def bf3 (n:Nat) (hn:n < 2 ^ 32):(List.range (8 + (8 + (8 + 8)))).countP (fun i=>n.testBit i) = tg (n / 2 ^ 24) + tg (n / 2 ^ 16 % 256) + tg (n / 2 ^ 8 % 256) + tg (n % 256):=by
 have h:∀ k,(List.range 8).countP (fun i=>n.testBit (k + i)) = tg (n / 2 ^ k % 256):=fun k=>by
  unfold tg;apply List.countP_congr;intro j hj;rw [b28 (bor.1 hj)]
 have h3:n / 2 ^ 24 % 256 = n / 2 ^ 24:=br8 bsq;have h0:=h 0;simp only [bpc,Nat.pow_zero,Nat.div_one] at h0;rw [uw,uw,uw,h0];have e2:=h 8;have e3:=h 16;have e4:=h 24;rw [h3] at e4;simp only [<- bqe] at *;simp only [Nat.reduceAdd] at *;rw [e2,e3,e4];omega
def b0y (s:AS):bsz s = tg (s.toNat / 2 ^ 24) + tg (s.toNat / 2 ^ 16 % 256) + tg (s.toNat / 2 ^ 8 % 256) + tg (s.toNat % 256):=bf3 s.toNat s.isLt
def a9p (b:Nat):tg b <= 8:=by
 have:=List.countP_le_length (p:=fun i=>b.testBit i) (l:=List.range 8);rwa [bqm] at this
def b6a (s:AS) (k:Nat) (hk:k <= 32):((asI s).fdiv (2 ^ (min k 32))).toNat = s.toNat / 2 ^ k:=by
 rw [zq];show (((s >>> k).toNat:Nat):Int).toNat = _;rw [bop,bs5,brw]
def av7 (s:AS) (k:Nat) (hk:k <= 32):(ap .and .u32 ((asI s).fdiv (2 ^ (min k 32))) 255).toNat = s.toNat / 2 ^ k % 256:=by
 rw [zq,show (255:Int) = asI 255 from rfl,gk];show (((s >>> k &&& 255).toNat:Nat):Int).toNat = _;rw [bop,bra,bs5,brw,show (255:AS).toNat = 2 ^ 8 - 1 from rfl,Nat.and_two_pow_sub_one_eq_mod]
def b7r (s:AS):(ap .and .u32 (asI s) 255).toNat = s.toNat % 256:=by
 rw [show (255:Int) = asI 255 from rfl,gk];show (((s &&& 255).toNat:Nat):Int).toNat = _;rw [bop,bra,show (255:AS).toNat = 2 ^ 8 - 1 from rfl,Nat.and_two_pow_sub_one_eq_mod]
def b0p (a b:Int):0 <= ap .and .u32 a b:=by
 show 0 <= IntKind.wrap .u32 _;rw [alh (bqk _) (by have:=(BitVec.ofInt 32 a &&& BitVec.ofInt 32 b).isLt;show ((BitVec.ofInt 32 a &&& BitVec.ofInt 32 b).toNat:Int) < _;omega)];exact bqk _
def b87 (s:AS) (k:Nat):0 <= (asI s).fdiv (2 ^ (min k 32)):=by rw [zq];exact a7h _
section
variable {X:ByteArray}
def bll (s:AS) (hX:(256:Int) <= X.size):0 <= (asI s).fdiv (2 ^ (min 24 32)) /\ (asI s).fdiv (2 ^ (min 24 32)) < X.size:=by
 have h1:=b87 s 24;have h2:=b6a s 24 bsq;have:=s.isLt;exact ⟨h1,by omega⟩
def ixM (s:AS) (k:Nat) (hk:k <= 32) (hX:(256:Int) <= X.size):0 <= ap .and .u32 ((asI s).fdiv (2 ^ (min k 32))) 255 /\ ap .and .u32 ((asI s).fdiv (2 ^ (min k 32))) 255 < X.size:=by
 have h1:=b0p ((asI s).fdiv (2 ^ (min k 32))) 255;have h2:=av7 s k hk;exact ⟨h1,by omega⟩
def ixL (s:AS) (hX:(256:Int) <= X.size):0 <= ap .and .u32 (asI s) 255 /\ ap .and .u32 (asI s) 255 < X.size:=by
 have h1:=b0p (asI s) 255;have h2:=b7r s;exact ⟨h1,by omega⟩
def ahz {n:Int} (h0:0 <= n) (h1:n < 256):IntKind.wrap .u8 n = n:=x7 (by simp only [inR,o4,qa];omega)
def ay8 {n:Int} (h0:0 <= n) (h1:n < 256):IntKind.wrap .i64 n = n:=x7 (by simp only [inR,o4,qa];omega)
def bet {s:AS} {i0 i1 i2 i3:Nat} (hX:∀ b,b < 256 -> mj X b = (tg b:Int)) (h0:i0 = s.toNat / 2 ^ 24) (h1:i1 = s.toNat / 2 ^ 16 % 256) (h2:i2 = s.toNat / 2 ^ 8 % 256) (h3:i3 = s.toNat % 256):
 IntKind.wrap .i64 (IntKind.wrap .u8 (IntKind.wrap .u8 (IntKind.wrap .u8 (mj X i0 + mj X i1) + mj X i2) + mj X i3)) = (bsz s:Int):=by
 have:=s.isLt;subst h0 h1 h2 h3;rw [hX _ bsq,hX _ bsq,hX _ bsq,hX _ bsq];have a0:=a9p (s.toNat / 2 ^ 24);have a1:=a9p (s.toNat / 2 ^ 16 % 256);have a2:=a9p (s.toNat / 2 ^ 8 % 256);have a3:=a9p (s.toNat % 256);rw [b0y];generalize tg (s.toNat / 2 ^ 24) = c0 at *;generalize tg (s.toNat / 2 ^ 16 % 256) = c1 at *;generalize tg (s.toNat / 2 ^ 8 % 256) = c2 at *;generalize tg (s.toNat % 256) = c3 at *;rw [ahz (n:=c0 + c1) bsq bsq,ahz (n:=c0 + c1 + c2) bsq bsq,ahz (n:=c0 + c1 + c2 + c3) bsq bsq,ay8 (n:=c0 + c1 + c2 + c3) bsq bsq];omega
def aer (s:AS):bsz s <= 32:=by
 have:=List.countP_le_length (p:=fun i=>s.getLsbD i) (l:=List.range 32);rwa [bqm] at this
def ax1 {s0:AS} (x:List Nat × AS) (h:x.1 ++ al x.2 = al s0):x.1.length <= 32:=by
 have h1:=congrArg List.length h;rw [bob,<- vc s0] at h1;have:=aer s0;omega
def aoh {s:AS} (h:s ≠ 0):asI s - 1 = asI (s - 1):=by
 have h0:s.toNat ≠ 0:=fun e=>h (bp8 e);have:=s.isLt
 have e1:(s - 1).toNat = s.toNat - 1:=by
  rw [BitVec.toNat_sub];show (2 ^ 32 - 1 + s.toNat) % 2 ^ 32 = _;omega
 unfold asI;rw [e1];omega
def a15 {s:AS} (h:s ≠ 0):(iw true .u32 (asI s - 1)).1:=by
 rw [aoh h];have h1:=a7h (s - 1);have h2:=ady (s - 1);simp only [iw,inR,o4,qa];omega
def ans {s:AS} (h:s ≠ 0):ap .and .u32 (asI s) (asI s - 1) = asI (s &&& (s - 1)):=by rw [aoh h,gk]
def lm (a b:Int):Int:=if a < b then -1 else if b < a then 1 else 0
def a5o (a b:AS):Int:=if lm (bsz a) (bsz b) = 0 then lm (asI a) (asI b) else lm (bsz a) (bsz b)
end
end
section
open Go.Proofs
def bku (s:AS):a7 btb 218 [pA s] (aa [pP (il (al s))]):=by
 refine hpx (nt:=17) Tryz.func218 ?_;refine t7 ?_;refine ct 3 900 true 1 3 (lf iC []) bsu rfl (CoP.sl rfl (.inr rfl) (fun h=>h) (fun i j hi _=>absurd hi (bod i))) (.inr rfl) rfl ?_;refine bp (ka 0 kn) km (fun i=>⟨[(3,some (.v (.one (.ref 900 (fq s i).length)))),(4,some (vI i))],[(900,some (.arr true 1 3 (fq s i).length (lf iC (fq s i))))]⟩) 32 kk ?_;rintro i hi;have hlen:=azy s i;refine w_6 ?_;refine hcd (fun h0=>?_) (fun h0=>?_)
 ·
  refine w_7 ?_;refine qcx a0h (agk s i) ?_;refine cu ?_;refine hcb (fun h1=>?_) (fun h1=>?_)
  ·
   refine w_3 ?_;refine m9 0 ?_;refine r9 1 true ?_;refine w_7 ?_
   first | (refine lpz (i + 1) ⟨⟨⟨_, rfl, (c8 (qo bsq bsr))⟩, tt⟩, ⟨⟨_, rfl, (bu (qo bsq bsr) (CoP.refl _))⟩, trivial⟩⟩ ?_; show i + 1 <= _; omega)
         | (refine lpz (i + 1) ⟨⟨⟨_,rfl,(ce (vn bsq bsr))⟩,tt⟩,⟨⟨_,rfl,(bv (vn bsq bsr))⟩,trivial⟩⟩ ?_;show i + 1 <= _;omega)
  refine w_6 ?_
  first | (refine lpz (i + 1) ⟨⟨⟨_, rfl, (c8 (qo bsq bsr))⟩, tt⟩, ⟨⟨_, rfl, (bu (qo bsq bsr) (CoP.refl _))⟩, trivial⟩⟩ ?_; show i + 1 <= _; omega)
        | (refine lpz (i + 1) ⟨⟨⟨_,rfl,(ce (vn bsq bsr))⟩,tt⟩,⟨⟨_,rfl,(bv (vn bsq bsr))⟩,trivial⟩⟩ ?_;show i + 1 <= _;omega)
 obtain rfl:i = 32:=by omega
 refine w_6 ?_;refine b6 2 rfl rfl rfl ?_;exact hx8 rfl rfl rfl (⟨CoC.one (CoP.refl _),trivial⟩)
def xi:goodFn btb 172:=wgx Tryz.func172
def a0x (s:AS):a7 btb 172 [pA s] (aa [pI (bsz s)]):=by
 refine hpx (nt:=6) Tryz.func172 ?_;refine w_7 ?_;refine qcx (wgx Tryz.func218) (bku s) ?_;refine v_3 ?_;exact ⟨cci (by rw [vc]),trivial⟩
def a43:goodFn btb 55:=wgx Tryz.func55
def ag0 (s0:AS):a7 btb 55 [pA s0] (aa [pP (il (al s0))]):=by
 refine hpx (nt:=16) Tryz.func55 ?_;refine d5 ?_;refine ct 3 900 true 1 3 (lf iC []) bsu rfl (CoP.sl rfl (.inr rfl) (fun h=>h) (fun i j hi _=>absurd hi (bod i))) (.inr rfl) rfl ?_;refine ah (ι:=List Nat × AS) kn km (fun x=>⟨[(3,some (.v (.one (.ref 900 x.1.length)))),(0,some (vA x.2))],[(900,some (.arr true 1 3 x.1.length (lf iC x.1)))]⟩) (fun x=>x.1 ++ al x.2 = al s0) (fun x=>x.2.toNat) (([],s0)) (rfl) kk ?_;rintro x hx;have hlen:=ax1 x hx;refine w_6 ?_;refine hcn (fun h0=>?_) (fun h0=>?_)
 ·
  have hne:x.2 ≠ 0:=fun e=>h0 (by rw [e];rfl);refine w_6 ?_;refine qcx bbh (cTz x.2) ?_;refine m9 0 ?_;refine r9 1 true ?_;refine w_5 ?_;refine rq rfl rfl rfl rfl rfl ?_ (hp:=(a15 hne));refine w_3 ?_;refine ⟨(x.1 ++ [je x.2],x.2 &&& (x.2 - 1)), ?_, ?_, ?_⟩
  · show (x.1 ++ [je x.2]) ++ al (x.2 &&& (x.2 - 1)) = al s0
    rw [<- hx,ay5 hne,bpo];rfl
  · exact b45 hne
  exact ⟨⟨⟨_,rfl,(c8 rfl)⟩,⟨_,rfl,(bz (ans hne))⟩,trivial⟩,⟨⟨_,rfl,(bu rfl (CoP.refl _))⟩,trivial⟩⟩
 have hz:x.2 = 0:=ck.1 h0;refine w_6 ?_;refine b6 2 rfl rfl rfl ?_;exact hx8 rfl rfl rfl (⟨CoC.one (CoP.of_eq (by rw [hz,afk,bpd] at hx;rw [<- hx];rfl)),trivial⟩)
def bj0 (s:AS):a7 btb 213 [pA s] (aa [pI (bsz s)]):=by
 refine hpx (nt:=21) Tryz.func213 ?_;refine w_8 ?_;refine rq rfl rfl rfl rfl rfl ?_ (hp:=(bll s (by decide +kernel)));refine w_3 ?_;refine rq rfl rfl rfl rfl rfl ?_ (hp:=(ixM s 16 bsq (by decide +kernel)));refine rqw rfl rfl rfl rfl rfl ?_;refine w_3 ?_;refine rq rfl rfl rfl rfl rfl ?_ (hp:=(ixM s 8 bsq (by decide +kernel)));refine rqw rfl rfl rfl rfl rfl ?_;refine w_2 ?_;refine rq rfl rfl rfl rfl rfl ?_ (hp:=(ixL s (by decide +kernel)));(iterate 2 refine rqw rfl rfl rfl rfl rfl ?_);refine v_3 ?_;exact ⟨cci (bet (by decide +kernel) (b6a s 24 bsq) (av7 s 16 bsq) (av7 s 8 bsq) (b7r s)),trivial⟩
def a0o:goodFn btb 168:=wgx Tryz.func168
def aag (s:AS):a7 btb 168 [pA s] (aa [pI (bsz s)]):=by
 refine hpx (nt:=5) Tryz.func168 ?_;refine w_7 ?_;refine qcx (wgx Tryz.func213) (bj0 s) ?_;refine v_2 ?_;exact CoL.refl _
end
section
def mw (l:List AS) (k:Nat) (r:AS):List AS:=l.take k ++ r :: l.drop k
section
variable {k:Nat} {l:List AS} {r:AS}
def nr (h:k <= l.length):(mw l k r).length = l.length + 1:=by simp [mw];omega
def b5f:mw l l.length r = l ++ [r]:=by simp [mw]
def a6q {i:Nat} (h:k <= l.length):(mw l k r)[i]? = if i < k then l[i]? else if i = k then some r else l[i - 1]?:=by
 simp only [mw];by_cases h1:i < k
 · rw [if_pos h1,bq0 bt3,bpf,if_pos h1]
 rw [if_neg h1,bq3 bt3,boi,bq4 h];by_cases h2:i = k
 · subst h2;simp
 rw [if_neg h2];obtain ⟨d,rfl⟩:∃ d,i = k + 1 + d:=⟨i - k - 1,by omega⟩;rw [show k + 1 + d - k = d + 1 by omega,List.getElem?_cons_succ,bqj];congr 1;omega
def azm (h:k <= l.length):(mw l k r).getD k default = r:=by
 rw [bo7,a6q h,if_neg bsq,if_pos rfl];rfl
def aie (h0:0 < k) (h:k <= l.length):(mw l k r).getD (k - 1) default = l.getD (k - 1) default:=by
 rw [bo7,a6q h,if_pos bsq,bo7]
def axg (h0:0 < k) (h:k <= l.length):((mw l k r).set k (l.getD (k - 1) default)).set (k - 1) r = mw l (k - 1) r:=by
 apply bqw;intro i;rw [a6q bsq,bsm,bsm,bqg,nr h,a6q h];by_cases h1:k - 1 = i
 · subst h1
   rw [if_pos rfl,if_pos bsq,if_neg bsq,if_pos rfl]
 rw [if_neg h1];by_cases h2:k = i
 · subst h2
   rw [if_pos rfl,if_pos bsq,if_neg bsq,if_neg bsq,List.getD,bo6 bsq];rfl
 rw [if_neg h2];by_cases h3:i < k
 · rw [if_pos h3,if_pos bsq]
 rw [if_neg h3,if_neg bsq,if_neg bsq,if_neg bsq]
def ayn {k' m':Nat} (h0:0 < k) (hk:k <= l.length) (hk':k' = k) (hm':m' = k - 1) {n:Nat} (hn:n = l.length + 1) {e:TypeId}:
 CoO (.arr true 1 e n (fj (fj (lf sC (mw l k r)) k' 0 [lf sC (mw l k r) m' 0]) m' 0 [lf sC (mw l k r) k' 0])) (.arr true 1 e n (lf sC (mw l (k - 1) r))):=by
 subst hk' hm';rw [<- axg h0 hk];refine au3 (fun h=>h) (by rw [nr hk];exact hn) (by rw [nr hk];omega) (by rw [nr hk];omega) rfl rfl (fun j hj=>?_) (fun j hj=>?_)
 · obtain rfl:j = 0:=by omega
   exact CoP.of_eq (by show sC ((mw l k' r).getD (k' - 1) default) 0 = _;rw [aie h0 hk])
 obtain rfl:j = 0:=by omega
 exact CoP.of_eq (by show sC ((mw l k' r).getD k' default) 0 = _;rw [azm hk])
def azj {k' m':Nat} {b:Bool} (h0:0 < k) (hk:k <= l.length) (h:bef ((mw l k r).getD k' default) ((mw l k r).getD m' default) = b) (hk':k' = k) (hm':m' = k - 1):bef r (l.getD (k - 1) default) = b:=by
 subst hk' hm';rwa [azm hk,aie h0 hk] at h
def acz {j:Nat} (h:j < l.length):l.getD j default ∈ l:=by
 rw [bo7,bo6 h];exact bp3 h
def ajs (hs:t8 l) (hr:r ∉ l) (hk:k <= l.length) (h1:∀ j,k <= j -> j < l.length -> bef r (l.getD j default) = true) (h2:k = 0 \/ ¬ bef r (l.getD (k - 1) default) = true):mw l k r = o3 r l:=by
 refine tw ?_ (a1z hs) fun z=>?_
 · unfold t8 mw
   rw [brj];refine ⟨hs.sublist (List.take_sublist _ _),bpi.2 ⟨fun z hz=>?_,hs.sublist (List.drop_sublist _ _)⟩,fun y hy z hz=>?_⟩
   · obtain ⟨j,hj,rfl⟩:=bou hz
     rw [bpy] at hj;have:=h1 (k + j) bsq bsq;rwa [bo7,bo6 bsq,bp0,<- brt] at this
   have hyr:bef y r = true:=by
    obtain ⟨j,hj,rfl⟩:=bou hy;rw [boi] at hj
    rcases h2 with h2 | h2
    · omega
    have hk1:k - 1 < l.length:=by omega
    have hlast:bef (l.getD (k - 1) default) r = true:=by
     rcases aan (a:=r) (b:=l.getD (k - 1) default) (fun e=>hr (e ▸ acz hk1)) with h | h
     · exact absurd h h2
     exact h
    rw [List.getElem_take];by_cases hjk:j = k - 1
    · subst hjk
      rwa [bo7,bo6 hk1,bp0] at hlast
    refine vb ?_ hlast;rw [bo7,bo6 hk1,bp0];exact bqd.1 hs j (k - 1) bsq hk1 bsq
   rcases bok.1 hz with rfl | hz
   · exact hyr
   have h3:bef r z = true:=by
    obtain ⟨j,hj,rfl⟩:=bou hz;rw [bpy] at hj;have:=h1 (k + j) bsq bsq;rwa [bo7,bo6 bsq,bp0,<- brt] at this
   exact vb hyr h3
 rw [a1m];unfold mw;rw [boj,bok];constructor
 · rintro (h | h | h)
   · exact .inr (bq8 h)
   · exact .inl h
   exact .inr (bru h)
 rintro (h | h)
 · exact .inr (.inl h)
 rw [<- brd k l,boj] at h
 rcases h with h | h
 · exact .inl h
 exact .inr (.inr h)
def xr (hs:t8 l) (hr:r ∈ l):o3 r l = l:=tw (a1z hs) hs fun z=>by
 rw [a1m];constructor
 · rintro (rfl | h)
   · exact hr
   exact h
 exact .inr
def j1 {i:Nat} (hi:i < l.length):ord (l.take (i + 1)) = o3 (l.getD i default) (ord (l.take i)):=by
 unfold ord;rw [aw hi,bpk];rfl
def am4 (x:AS):∀ l:List AS,(o3 x l).length <= l.length + 1
 | []=>by simp [o3]
 | y :: l=>by
  unfold o3;have:=am4 x l;split
  · simp
  split
  · simp
  simp only [bov];omega
def n3 (l:List AS):(ord l).length <= l.length:=by
 have:∀ (l o:List AS),(l.foldl (fun o x=>o3 x o) o).length <= o.length + l.length:=by
  intro l
  induction l with
  | nil=>intro o;simp
  | cons x l ih =>
   intro o;have h1:=ih (o3 x o);have h2:=am4 x o;simp only [bq6,bov];omega
 have h:=this l [];simpa [ord] using h
def at2 {s:AS}:(l.any fun x=>decide (x = s)) = decide (s ∈ l):=by
 rw [bqf,bp4,decide_eq_true_iff];constructor
 · rintro ⟨x,hx,h⟩
   exact of_decide_eq_true h ▸ hx
 intro h;exact ⟨s,h,decide_eq_true rfl⟩
def jC:Int -> Nat -> PV:=fun n _=>.raw (.int .i64 n)
def orF (l:List Int):Int:=(l.find? fun x=>decide (x ≠ 0)).getD 0
def bkf {l:List Int} {i:Nat} (hi:i < l.length) (hI:∀ j,j < i -> decide (l.getD j default = 0) = true) (h:¬ l.getD i default = 0):orF l = l.getD i default:=by
 unfold orF
 have:l.find? (fun x=>decide (x ≠ 0)) = some (l.getD i default):=by
  rw [List.find?_eq_some_iff_getElem];refine ⟨decide_eq_true h,i,hi,by simp [List.getD,hi],fun j hj=>?_⟩;have:=of_decide_eq_true (hI j hj);rw [bo7,bo6 bsq,bp0] at this;simp [this]
 rw [this];rfl
def bkd {l:List Int} (hI:∀ j,j < l.length -> decide (l.getD j default = 0) = true):orF l = 0:=by
 unfold orF
 have:l.find? (fun x=>decide (x ≠ 0)) = none:=by
  rw [br2];intro x hx;obtain ⟨j,hj,rfl⟩:=bou hx;have:=of_decide_eq_true (hI j hj);rw [bo7,bo6 hj,bp0] at this;simp [this]
 rw [this];rfl
def bcg (a b:AS):orF [lm (bsz a) (bsz b),lm (asI a) (asI b)] = a5o a b:=by
 unfold orF a5o;by_cases h:lm (bsz a) (bsz b) = 0
 · by_cases h2:lm (asI a) (asI b) = 0 <;> simp [h,h2]
 simp [h]
def b9o {α:Type} [Inhabited α] {cl:Bool} {c:α -> Nat -> PV} {x y:α} {f:Nat -> Nat -> PV} (h0:CoP (f 0 0) (c x 0)) (h1:CoP (f 1 0) (c y 0)):CoP (.sl 2 1 cl f) (psl 1 c [x,y]) :=
 CoP.sl rfl (.inl rfl) (fun h=>by cases h) fun i j hi hj=>by
  obtain rfl:j = 0:=by omega
  rcases (by omega:i = 0 \/ i = 1) with rfl | rfl
  · exact h0
  exact h1
def bfy {a b:AS} (h:¬ (bsz a:Int) = bsz b):decide ((bsz a:Int) < bsz b) = bef a b:=by
 rw [bqf,decide_eq_true_iff,p8];omega
def bgk {a b:AS} (h:(bsz a:Int) = bsz b):decide (asI a < asI b) = bef a b:=by
 rw [bqf,decide_eq_true_iff,p8];unfold asI;omega
def atm {α:Type} [Inhabited α] {wr wr':Bool} {e:TypeId} {c:α -> Nat -> PV} {l:List α} {x:α} {g:Nat -> Nat -> PV} (hg:CoP (g 0 0) (c x 0)) (hw:wr' = true -> wr = true:=by exact fun h=>h) :
 CoO (.arr wr 1 e (l.length + 1) (gv l.length (lf c l) g)) (.arr wr' 1 e (l.length + 1) (lf c (l ++ [x]))):=by
 have h:=bu (wr:=wr) (wr':=wr') (e:=e) (l:=l) (l':=l ++ [x]) (g:=g) rfl hg hw;rwa [show (l ++ [x]).length = l.length + 1 by simp] at h
def fw {α:Type} [Inhabited α] {wr wr':Bool} {s n m:Nat} {e:TypeId} {c:α -> Nat -> PV} {l l':List α} (h:l' = l) (hn:n = m) (hw:wr' = true -> wr = true:=by exact fun h=>h):CoO (.arr wr s e n (lf c l)) (.arr wr' s e m (lf c l')):=by
 subst h hn;exact ⟨hw,rfl,rfl,rfl,fun _ _ _ _=>CoP.refl _⟩
def b2v {a b:AS}:decide (a5o a b < 0) = bef a b:=by
 rw [bqf,decide_eq_true_iff,p8];unfold a5o lm asI;split <;> (repeat' split) <;> omega
end
end
section
open Go.Proofs
def bb1 (a b:AS):a7 btb 199 [pA a,pA b] (aa [pB (bef a b)]):=by
 refine hpx (nt:=18) Tryz.func199 ?_;refine w_8 ?_;refine qcx xi (a0x _) ?_;refine qy ?_;refine qcx xi (a0x _) ?_;refine w_2 ?_;refine hcn (fun h0=>?_) (fun h0=>?_)
 · refine w_3 ?_;refine qcx xi (a0x _) ?_;refine qy ?_;refine qcx xi (a0x _) ?_;refine v_3 ?_;exact ⟨ccb (bfy h0),trivial⟩
 refine v_8 ?_;exact ⟨ccb (bgk h0),trivial⟩
def aht:goodFn btb 198:=wgx Tryz.func198
def cIn (l:List AS) (s:AS):a7 btb 198 [pP (asl l),pA s] (aa [pB (decide (s ∈ l))]):=by
 refine hpx (nt:=18) Tryz.func198 ?_;refine cw ?_;refine cq 0 rfl fun hn=>?_;refine w_3 ?_;refine ep (ι:=Unit) kn km (fun _i=>⟨[],[]⟩) (fun _i=>decide (s ∈ l) = false) ?_ ?_
 ·
  refine w_5 ?_;refine ah (ι:=Nat) (ka 0 (ka 1 kn)) km (fun i=>⟨[(5,some (vI i))],[]⟩) (fun i=>i <= l.length /\ (∀ j,j < i -> decide (l.getD j default = s) = false)) (fun i=>l.length - i) (0) (⟨boe _,c5⟩) kk ?_;rintro i ⟨hi,hI⟩;refine w_8 ?_;refine hcd (fun h0=>?_) (fun h0=>?_)
  ·
   refine i6 ?_;refine hcd (fun h1=>?_) (fun h1=>?_)
   · refine v_4 ?_;exact ⟨ccb (by rw [<- at2];exact (ak7 (p:=fun x=>decide (x = s)) (i:=i) bsq (decide_eq_true (ck.1 h1))).symm),trivial⟩
   refine w_6 ?_;refine lpz (i + 1) kk ?_;exact ⟨by show i + 1 <= _;omega,b7 hI (decide_eq_false fun e=>h1 (congrArg asI e))⟩
  refine dy ?_;refine ⟨(), ?_, ?_⟩
  · rw [<- at2];exact ako (p:=fun x=>decide (x = s)) fun j hj=>hI j bsq
  exact ⟨trivial,trivial⟩
 rintro _ hj;refine v_4 ?_;exact ⟨ccb hj.symm,trivial⟩
def b71 (a:Int):a7 btb 266 [pI a] (aa [pB false]):=by
 refine hpx (nt:=6) Tryz.func266 ?_;refine dl ?_;exact hx8 rfl rfl rfl (⟨ccb bst,trivial⟩)
def b6d (a:AS):a7 btb 267 [pA a] (aa [pB false]):=by
 refine hpx (nt:=6) Tryz.func267 ?_;refine dl ?_;exact hx8 rfl rfl rfl (⟨ccb bst,trivial⟩)
def bt7 {p:Prop} (h:p:=by unfold lm;first | (rw [if_pos bsq]) | (rw [if_neg bsq,if_pos bsq]) | (rw [if_neg bsq,if_neg bsq])):p:=h
def b73 (a b:Int):a7 btb 245 [pI a,pI b] (aa [pI (lm a b)]):=by
 refine hpx (nt:=20) Tryz.func245 ?_;refine w_7 ?_;refine qcx (wgx Tryz.func266) (b71 _) ?_;refine w_5 ?_;refine qcx (wgx Tryz.func266) (b71 _) ?_;refine bfe ?_;refine hcd (fun h0=>?_) (fun h0=>?_)
 · refine v_4 ?_;exact ⟨cci bt7,trivial⟩
 refine w_8 ?_;refine hcd (fun h1=>?_) (fun h1=>?_)
 · refine v_4 ?_;exact ⟨cci bt7,trivial⟩
 refine v_5 ?_;exact ⟨cci bt7,trivial⟩
def bjh (a b:AS):a7 btb 246 [pA a,pA b] (aa [pI (lm (asI a) (asI b))]):=by
 refine hpx (nt:=20) Tryz.func246 ?_;refine w_7 ?_;refine qcx (wgx Tryz.func267) (b6d _) ?_;refine w_5 ?_;refine qcx (wgx Tryz.func267) (b6d _) ?_;refine bfe ?_;refine hcd (fun h0=>?_) (fun h0=>?_)
 · refine v_4 ?_;exact ⟨cci bt7,trivial⟩
 refine w_8 ?_;refine hcd (fun h1=>?_) (fun h1=>?_)
 · refine v_4 ?_;exact ⟨cci bt7,trivial⟩
 refine v_5 ?_;exact ⟨cci bt7,trivial⟩
def cOr (l:List Int):a7 btb 244 [pP (psl 1 jC l)] (aa [pI (orF l)]):=by
 refine hpx (nt:=18) Tryz.func244 ?_;refine cw ?_;refine cq 0 rfl fun hn=>?_;refine w_7 ?_;refine ep (ι:=Unit) (ka 3 kn) km (fun _i=>⟨[],[]⟩) (fun _i=>orF l = 0) ?_ ?_
 ·
  refine w_7 ?_;refine ah (ι:=Nat) (ka 3 (ka 6 (ka 7 kn))) km (fun i=>⟨[(8,some (vI i))],[]⟩) (fun i=>i <= l.length /\ (∀ j,j < i -> decide (l.getD j default = 0) = true)) (fun i=>l.length - i) (0) (⟨boe _,c5⟩) kk ?_;rintro i ⟨hi,hI⟩;refine w_5 ?_;refine hcd (fun h0=>?_) (fun h0=>?_)
  ·
   refine o8 ?_;refine hcn (fun h1=>?_) (fun h1=>?_)
   · refine v_5 ?_;exact ⟨cci (bkf (i:=i) bsq hI h1).symm,trivial⟩
   refine w_5 ?_;refine lpz (i + 1) kk ?_;exact ⟨by show i + 1 <= _;omega,b7 hI (decide_eq_true h1)⟩
  refine dy ?_;refine ⟨(), ?_, ?_⟩
  · exact bkd fun j hj=>hI j bsq
  exact kk
 rintro _ hj;refine v_5 ?_;exact ⟨cci hj.symm,trivial⟩
def b3t (a b:AS):a7 btb 215 [pA a,pA b] (aa [pI (a5o a b)]):=by
 refine hpx (nt:=15) Tryz.func215 ?_;refine w_7 ?_;refine qcx a0o (aag _) ?_;refine qy ?_;refine qcx a0o (aag _) ?_;refine qcx (wgx Tryz.func245) (b73 _ _) ?_;refine w_2 ?_;refine qcx (wgx Tryz.func246) (bjh _ _) ?_;refine m9 0 ?_;refine rc rfl rfl rfl rfl rfl rfl (wgx Tryz.func244) (cOr [lm (bsz a) (bsz b),lm (asI a) (asI b)]) (⟨CoC.one (b9o (CoP.refl _) (CoP.refl _)),trivial⟩) rfl rfl ?_;refine v_2 ?_;exact ⟨cci (bcg a b),trivial⟩
def arb (l:List AS) (hl:l.length <= 8589934592):a7 btb 144 [pP (asl l)] (aa [pP (asl (ord l))]):=by
 refine hpx (nt:=61) Tryz.func144 ?_;refine cw ?_;refine cq 0 rfl fun hn=>?_;refine kw ?_;refine ct 3 900 true 1 46 (lf sC []) bsu rfl (CoP.sl rfl (.inr rfl) (fun h=>h) (fun i j hi _=>absurd hi (bod i))) (.inr rfl) rfl ?_;refine bp (ka 0 kn) km (fun i=>⟨[(3,some (.v (.one (.ref 900 (ord (l.take i)).length)))),(4,some (vI i))],[(900,some (.arr true 1 46 (ord (l.take i)).length (lf sC (ord (l.take i)))))]⟩) l.length kk ?_;rintro i hi;have hlen:=n3 (l.take i);rw [boi] at hlen;refine w_8 ?_;refine hcd (fun h0=>?_) (fun h0=>?_)
 ·
  refine dl ?_;refine qcx aht (cIn (ord (l.take i)) (l.getD i default)) ?_;refine cu ?_;refine hcb (fun h1=>?_) (fun h1=>?_)
  ·
   have hin:=a2v h1;refine w_6 ?_
   first | (refine lpz (i + 1) ⟨⟨⟨_, rfl, (ce (by rw [j1 bsq, xr (ja _) hin]))⟩, tt⟩, ⟨⟨_, rfl, (bv (by rw [j1 bsq, xr (ja _) hin]))⟩, trivial⟩⟩ ?_; show i + 1 <= _; omega)
         | (refine lpz (i + 1) ⟨⟨⟨_,rfl,(agh (by rw [j1 bsq,<- hfin,nr hk]))⟩,tt⟩,⟨⟨_,rfl,(fw (by rw [j1 bsq,<- hfin]) (by rw [j1 bsq,<- hfin,nr hk]))⟩,trivial⟩⟩ ?_;show i + 1 <= _;omega)
  have hin:=a4x h1;refine w_8 ?_;refine m9 0 ?_;refine r9 1 true ?_;refine d5 ?_;refine ah (ι:=Nat) (ka 0 (ka 3 (ka 4 kn))) km (fun k=>⟨[(5,some (vI k))],[(900,some (.arr true 1 46 ((ord (l.take i)).length + 1) (lf sC (mw (ord (l.take i)) k (l.getD i default)))))]⟩) (fun k=>k <= (ord (l.take i)).length /\ ∀ j,k <= j -> j < (ord (l.take i)).length -> bef (l.getD i default) ((ord (l.take i)).getD j default) = true) (fun k=>k) ((ord (l.take i)).length) (⟨bo9 _,fun j h1 h2=>by omega⟩) ⟨tt,⟨⟨_,rfl,(by rw [b5f];exact atm (CoP.refl _))⟩,trivial⟩⟩ ?_;rintro k ⟨hk,hK⟩;refine w_6 ?_;refine ai rfl rfl (fun r2=>?_) (fun r2=>?_)
  ·
   have h2:=tz1 r2;(iterate 9 refine qy ?_ (hg:=(gtt r2)));refine qcx (wgx Tryz.func199) (bb1 _ _) ?_ (hg:=(gtt r2));refine w_3 ?_;refine am _ rfl (fun r3=>?_) (fun r3=>?_)
   ·
    have h3:=bq r2 r3;have hb:=azj bsq hk h3 bsq bsq;refine w_3 ?_;refine agp (E:=fy) fb zg [0,1,5,6,7,8,9,10,11,12,13,14,15,2,3,4,16,17] ?_;refine bgd ?_;refine ⟨k - 1, ?_, ?_, ?_⟩
    · refine ⟨by omega,fun j h1 h2=>?_⟩
      by_cases hj:j = k - 1
      · rw [hj];exact hb
      exact hK j bsq h2
    · show k - 1 < k
      omega
    exact ⟨tt,⟨⟨_,rfl,(ayn bsq hk bsq bsq rfl)⟩,trivial⟩⟩
   have h3:=bq r2 r3;have hb:=azj bsq hk h3 bsq bsq;have hfin:=ajs (ja _) hin hk hK (.inr (by rw [hb];decide));refine w_6 ?_
   first | (refine lpz (i + 1) ⟨⟨⟨_, rfl, (ce (by rw [j1 bsq, xr (ja _) hin]))⟩, tt⟩, ⟨⟨_, rfl, (bv (by rw [j1 bsq, xr (ja _) hin]))⟩, trivial⟩⟩ ?_; show i + 1 <= _; omega)
         | (refine lpz (i + 1) ⟨⟨⟨_,rfl,(agh (by rw [j1 bsq,<- hfin,nr hk]))⟩,tt⟩,⟨⟨_,rfl,(fw (by rw [j1 bsq,<- hfin]) (by rw [j1 bsq,<- hfin,nr hk]))⟩,trivial⟩⟩ ?_;show i + 1 <= _;omega)
  have h2:=tz2 r2;have hfin:=ajs (ja _) hin hk hK (.inl bsq);(iterate 10 refine k9 (gft r2) ?_);refine d5 ?_
  first | (refine lpz (i + 1) ⟨⟨⟨_, rfl, (ce (by rw [j1 bsq, xr (ja _) hin]))⟩, tt⟩, ⟨⟨_, rfl, (bv (by rw [j1 bsq, xr (ja _) hin]))⟩, trivial⟩⟩ ?_; show i + 1 <= _; omega)
        | (refine lpz (i + 1) ⟨⟨⟨_,rfl,(agh (by rw [j1 bsq,<- hfin,nr hk]))⟩,tt⟩,⟨⟨_,rfl,(fw (by rw [j1 bsq,<- hfin]) (by rw [j1 bsq,<- hfin,nr hk]))⟩,trivial⟩⟩ ?_;show i + 1 <= _;omega)
 obtain rfl:i = l.length:=by omega
 refine w_6 ?_;refine b6 2 rfl rfl rfl ?_;exact hx8 rfl rfl rfl (⟨CoC.one (CoP.of_eq (by rw [bog];rfl)),trivial⟩)
end
end Go.Hx

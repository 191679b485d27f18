/- A part of the proof: LyTz TzW Cs7 Cs8 V6 Cs9 V7. -/
import Derived.Shelf.Lays7
import Derived.Shelf.Spec.TrailingZeros
import Derived.Test.YtkkenjdfbojdlaaGreatDoorProg
import Derived.Test.YtkkenjdfbojdlaaGreatDoorKx15
set_option linter.all false
set_option maxRecDepth 100000
set_option maxHeartbeats 1000000
section
namespace Go.Proofs
open Go.Shelf
def Tryz.lays28_ren:Go.Shelf.Ren:=⟨fun | 28=>114 | n=>n,fun | 27=>43 | 3=>3 | 4=>4 | 25=>177 | 53=>176 | 0=>0 | 5=>5 | n=>n,fun | 0=>0 | n=>n⟩
theorem Tryz.lays28:Go.Proofs.Lays7.n28 Tryz.prog Tryz.lays28_ren:={
 mixed:=by kernel_rfl
 f28:=Tryz.func114.trans (congrArg some (by kernel_rfl))
 t0:=Tryz.underlying0
 a0:=Tryz.isAgg0
 z0:=Tryz.sizeOf0
 v0:=Tryz.zeroValue0
 i0:=by kernel_rfl
 t3:=Tryz.underlying3
 a3:=Tryz.isAgg3
 z3:=Tryz.sizeOf3
 v3:=Tryz.zeroValue3
 i3:=by kernel_rfl
 t4:=Tryz.underlying4
 a4:=Tryz.isAgg4
 z4:=Tryz.sizeOf4
 v4:=Tryz.zeroValue4
 i4:=by kernel_rfl
 t5:=Tryz.underlying5
 a5:=Tryz.isAgg5
 z5:=Tryz.sizeOf5
 v5:=Tryz.zeroValue5
 i5:=by kernel_rfl
 t25:=Tryz.underlying177
 a25:=Tryz.isAgg177
 z25:=Tryz.sizeOf177
 v25:=Tryz.zeroValue177
 i25:=by kernel_rfl
 t27:=Tryz.underlying43
 a27:=Tryz.isAgg43
 z27:=Tryz.sizeOf43
 v27:=Tryz.zeroValue43
 i27:=by kernel_rfl
 t53:=Tryz.underlying176
 a53:=Tryz.isAgg176
 z53:=Tryz.sizeOf176
 v53:=Tryz.zeroValue176
 i53:=by kernel_rfl
 g0:=by kernel_rfl }
end Go.Proofs
end
namespace Go.Hx
section
open Go.Proofs Go.RowKit
def b59:goodFn br6 114:=⟨Tryz.f114,Tryz.func114,by kernel_rfl,by kernel_rfl⟩
def bhu:∀ j,j < Lib.deBruijn32tab.length -> yy 0 j = some (.int .u8 (Lib.deBruijn32tab.getD j 0)):=fun j hj=>by
 unfold yy;rw [show w9 0 = Lib.deBruijn32tab.map (fun k:Nat=>Value.int .u8 (k:Int)) from rfl,bn0,bma hj,bmb,bma hj];rfl
def cTz (s:AS):a6 br6 114 [pA s] (a8 [pI (j4 s)]):=by
 intro w imm us htab him hus
 match us,hus with
 | [u],⟨hu,_⟩ =>
  obtain ⟨rfl,_⟩:=hu
  have h:=Any7.bits_TrailingZeros32 Tryz.lays28 s.toNat s.isLt w fun _ j hj=>by
   have hc:=htab 0 j _ (bhu j hj);unfold jp at hc
   cases hb:imm 0 with
   | none=>rw [hb] at hc;cases hc
   | some ob =>
    rw [hb] at hc;have hw:=him 0 ob hb;cases ob <;> simp at hc;show w.cell? ⟨0,j,none⟩ = _;simp [World.cell?,hw,hc]
  refine h.mono ?_;rintro e w' ⟨rfl,rfl⟩;exact ⟨_,imm,rfl,⟨rfl,rfl⟩,fun _ _=>rfl,him,Below.refl _ _⟩
 | [],h=>exact h.elim
 | _ :: _ :: _,⟨_,h⟩=>exact h.elim
end
section
def aga {id n m:Nat} (h:n = m):CoR (.v (.one (.ref id n))) (.v (.one (.ref id m))):=by subst h;exact CoR.refl _
section
variable {α:Type} [Inhabited α]
def a95 {wr wr':Bool} {s m:Nat} {e:TypeId} {c:α -> Nat -> PV} {l l':List α} {x:α} {g:Nat -> Nat -> PV} (h:l' = l ++ [x]) (hg:∀ j,j < s -> CoP (g 0 j) (c x j)) (hm:m = 1:=by rfl) (hw:wr' = true -> wr = true:=by exact fun h=>h) :
 CoO (.arr wr s e (l.length + m) (eq l.length (lf c l) g)) (.arr wr' s e l'.length (lf c l')):=by
 subst h;refine ayt [x] hw hm fun i j hi hj=>?_;obtain rfl:i = 0:=by simp at hi;exact hi
 exact hg j hj
def b8 {wr wr':Bool} {s:Nat} {e:TypeId} {c:α -> Nat -> PV} {l l':List α} (h:l' = l) (hw:wr' = true -> wr = true:=by exact fun h=>h):CoO (.arr wr s e l.length (lf c l)) (.arr wr' s e l'.length (lf c l')):=by
 subst h;exact ⟨hw,rfl,rfl,rfl,fun _ _ _ _=>CoP.refl _⟩
end
section
variable {α:Type} [Inhabited α]
section
variable {l l':List α}
def bg {id:Nat} {x:α} (h:l' = l ++ [x]):CoR (.v (.one (.ref id (l.length + 1)))) (.v (.one (.ref id l'.length))):=by subst h;rw [bmg];exact CoR.refl _
def bi {id:Nat} (h:l' = l):CoR (.v (.one (.ref id l.length))) (.v (.one (.ref id l'.length))):=by subst h;exact CoR.refl _
def bh {wr wr':Bool} {e:TypeId} {c:α -> Nat -> PV} {x:α} {g:Nat -> Nat -> PV} (h:l' = l ++ [x]) (hg:CoP (g 0 0) (c x 0)) (hw:wr' = true -> wr = true:=by exact fun h=>h):
 CoO (.arr wr 1 e (l.length + 1) (eq l.length (lf c l) g)) (.arr wr' 1 e l'.length (lf c l')) :=
 a95 h (fun j hj=>by
  obtain rfl:j = 0:=by omega
  exact hg) rfl hw
def jh {wr wr':Bool} {e:TypeId} {c:α -> Nat -> PV} {x:α} {g:Nat -> Nat -> PV} (h:l' = l ++ [x]) (h0:CoP (g 0 0) (c x 0)) (h1:CoP (g 0 1) (c x 1)) (hw:wr' = true -> wr = true:=by exact fun h=>h):
 CoO (.arr wr 2 e (l.length + 1) (eq l.length (lf c l) g)) (.arr wr' 2 e l'.length (lf c l')) :=
 a95 h (fun j hj=>by
  rcases (by omega:j = 0 \/ j = 1) with rfl | rfl
  · exact h0
  exact h1) rfl hw
end
end
def eu (s:AS) (i:Nat):List Nat:=(List.range i).filter fun k=>s.getLsbD k
def ni {s:AS} {i:Nat} (hi:i < 32) (h:d6 s (i:Int) = true):eu s (i + 1) = eu s i ++ [i]:=by
 rw [gk hi] at h;unfold eu;rw [bo0,bnc];simp [h]
def rj {s:AS} {i:Nat} (hi:i < 32) (h:d6 s (i:Int) = false):eu s (i + 1) = eu s i:=by
 rw [gk hi] at h;unfold eu;rw [bo0,bnc];simp [h]
def ahp (s:AS) (i:Nat):(eu s i).length <= i:=by
 unfold eu;have:=bo2 (fun k=>s.getLsbD k) (List.range i);rwa [boq] at this
end
section
def s4 (b:Nat):Nat:=(List.range 8).countP fun i=>b.testBit i
def t8 (p:Nat -> Bool) (a b:Nat):(List.range (a + b)).countP p = (List.range a).countP p + (List.range b).countP fun i=>p (a + i):=by
 rw [List.range_add,bq8,List.countP_map];rfl
def b16 {n k j:Nat} (hj:j < 8):(n / 2 ^ k % 256).testBit j = n.testBit (k + j):=by
 rw [show (256:Nat) = 2 ^ 8 from rfl,Nat.testBit_mod_two_pow,Nat.testBit_div_two_pow,Nat.add_comm];simp [hj]
def bcm (n:Nat) (hn:n < 2 ^ 32):(List.range (8 + (8 + (8 + 8)))).countP (fun i=>n.testBit i) = s4 (n / 2 ^ 24) + s4 (n / 2 ^ 16 % 256) + s4 (n / 2 ^ 8 % 256) + s4 (n % 256):=by
 have h:∀ k,(List.range 8).countP (fun i=>n.testBit (k + i)) = s4 (n / 2 ^ k % 256):=fun k=>by
  unfold s4;apply List.countP_congr;intro j hj;rw [b16 (bmq.1 hj)]
 have h3:n / 2 ^ 24 % 256 = n / 2 ^ 24:=bp6 bqi;have h0:=h 0;simp only [bna,Nat.pow_zero,Nat.div_one] at h0;rw [t8,t8,t8,h0];have e2:=h 8;have e3:=h 16;have e4:=h 24;rw [h3] at e4;simp only [<- boe] at *;simp only [Nat.reduceAdd] at *;rw [e2,e3,e4];omega
def avd (s:AS):bsz s = s4 (s.toNat / 2 ^ 24) + s4 (s.toNat / 2 ^ 16 % 256) + s4 (s.toNat / 2 ^ 8 % 256) + s4 (s.toNat % 256):=bcm s.toNat s.isLt
def a8o (b:Nat):s4 b <= 8:=by
 have:=List.countP_le_length (p:=fun i=>b.testBit i) (l:=List.range 8);rwa [boq] at this
def b4s (s:AS) (k:Nat) (hk:k <= 32):((asI s).fdiv (2 ^ (min k 32))).toNat = s.toNat / 2 ^ k:=by
 rw [yf];show (((s >>> k).toNat:Nat):Int).toNat = _;rw [bmn,bq0,bpw]
def auf (s:AS) (k:Nat) (hk:k <= 32):(ay .and .u32 ((asI s).fdiv (2 ^ (min k 32))) 255).toNat = s.toNat / 2 ^ k % 256:=by
 rw [yf,show (255:Int) = asI 255 from rfl,fj];show (((s >>> k &&& 255).toNat:Nat):Int).toNat = _;rw [bmn,bp8,bq0,bpw,show (255:AS).toNat = 2 ^ 8 - 1 from rfl,Nat.and_two_pow_sub_one_eq_mod]
def b4g (s:AS):(ay .and .u32 (asI s) 255).toNat = s.toNat % 256:=by
 rw [show (255:Int) = asI 255 from rfl,fj];show (((s &&& 255).toNat:Nat):Int).toNat = _;rw [bmn,bp8,show (255:AS).toNat = 2 ^ 8 - 1 from rfl,Nat.and_two_pow_sub_one_eq_mod]
def ay5 (a b:Int):0 <= ay .and .u32 a b:=by
 show 0 <= IntKind.wrap .u32 _;rw [aoq (bom _) (by have:=(BitVec.ofInt 32 a &&& BitVec.ofInt 32 b).isLt;show ((BitVec.ofInt 32 a &&& BitVec.ofInt 32 b).toNat:Int) < _;omega)];exact bom _
def bay (s:AS) (k:Nat):0 <= (asI s).fdiv (2 ^ (min k 32)):=by rw [yf];exact a6w _
section
variable {X:ByteArray}
def bjv (s:AS) (hX:(256:Int) <= X.size):0 <= (asI s).fdiv (2 ^ (min 24 32)) /\ (asI s).fdiv (2 ^ (min 24 32)) < X.size:=by
 have h1:=bay s 24;have h2:=b4s s 24 bqi;have:=s.isLt;exact ⟨h1,by omega⟩
def ixM (s:AS) (k:Nat) (hk:k <= 32) (hX:(256:Int) <= X.size):0 <= ay .and .u32 ((asI s).fdiv (2 ^ (min k 32))) 255 /\ ay .and .u32 ((asI s).fdiv (2 ^ (min k 32))) 255 < X.size:=by
 have h1:=ay5 ((asI s).fdiv (2 ^ (min k 32))) 255;have h2:=auf s k hk;exact ⟨h1,by omega⟩
def ixL (s:AS) (hX:(256:Int) <= X.size):0 <= ay .and .u32 (asI s) 255 /\ ay .and .u32 (asI s) 255 < X.size:=by
 have h1:=ay5 (asI s) 255;have h2:=b4g s;exact ⟨h1,by omega⟩
def afk {n:Int} (h0:0 <= n) (h1:n < 256):IntKind.wrap .u8 n = n:=wd (by simp only [inR,mo,o7];omega)
def aye {n:Int} (h0:0 <= n) (h1:n < 256):IntKind.wrap .i64 n = n:=wd (by simp only [inR,mo,o7];omega)
def bgp {s:AS} {i0 i1 i2 i3:Nat} (hX:∀ b,b < 256 -> ld X b = (s4 b:Int)) (h0:i0 = s.toNat / 2 ^ 24) (h1:i1 = s.toNat / 2 ^ 16 % 256) (h2:i2 = s.toNat / 2 ^ 8 % 256) (h3:i3 = s.toNat % 256):
 IntKind.wrap .i64 (IntKind.wrap .u8 (IntKind.wrap .u8 (IntKind.wrap .u8 (ld X i0 + ld X i1) + ld X i2) + ld X i3)) = (bsz s:Int):=by
 have:=s.isLt;subst h0 h1 h2 h3;rw [hX _ bqi,hX _ bqi,hX _ bqi,hX _ bqi];have a0:=a8o (s.toNat / 2 ^ 24);have a1:=a8o (s.toNat / 2 ^ 16 % 256);have a2:=a8o (s.toNat / 2 ^ 8 % 256);have a3:=a8o (s.toNat % 256);rw [avd];generalize s4 (s.toNat / 2 ^ 24) = c0 at *;generalize s4 (s.toNat / 2 ^ 16 % 256) = c1 at *;generalize s4 (s.toNat / 2 ^ 8 % 256) = c2 at *;generalize s4 (s.toNat % 256) = c3 at *;rw [afk (n:=c0 + c1) bqi bqi,afk (n:=c0 + c1 + c2) bqi bqi,afk (n:=c0 + c1 + c2 + c3) bqi bqi,aye (n:=c0 + c1 + c2 + c3) bqi bqi];omega
def anw (s:AS):bsz s <= 32:=by
 have:=List.countP_le_length (p:=fun i=>s.getLsbD i) (l:=List.range 32);rwa [boq] at this
def az5 {s0:AS} (x:List Nat × AS) (h:x.1 ++ aj x.2 = aj s0):x.1.length <= 32:=by
 have h1:=congrArg List.length h;rw [bmg,<- tn s0] at h1;have:=anw s0;omega
def anc {s:AS} (h:s ≠ 0):asI s - 1 = asI (s - 1):=by
 have h0:s.toNat ≠ 0:=fun e=>h (bng e);have:=s.isLt
 have e1:(s - 1).toNat = s.toNat - 1:=by
  rw [BitVec.toNat_sub];show (2 ^ 32 - 1 + s.toNat) % 2 ^ 32 = _;omega
 unfold asI;rw [e1];omega
def a0p {s:AS} (h:s ≠ 0):(ij true .u32 (asI s - 1)).1:=by
 rw [anc h];have h1:=a6w (s - 1);have h2:=ae8 (s - 1);simp only [ij,inR,mo,o7];omega
def an7 {s:AS} (h:s ≠ 0):ay .and .u32 (asI s) (asI s - 1) = asI (s &&& (s - 1)):=by rw [anc h,fj]
def kw (a b:Int):Int:=if a < b then -1 else if b < a then 1 else 0
def a49 (a b:AS):Int:=if kw (bsz a) (bsz b) = 0 then kw (asI a) (asI b) else kw (bsz a) (bsz b)
end
end
section
open Go.Proofs
def bik (s:AS):a6 br6 218 [pA s] (a8 [pP (il (aj s))]):=by
 refine hpx (nt:=17) Tryz.func218 ?_;refine p9 ?_;refine bw 3 900 true 1 3 (lf iC []) bqo rfl (CoP.sl rfl (.inr rfl) (fun h=>h) (fun i j hi _=>absurd hi (bmf i))) (.inr rfl) rfl ?_;refine b5 (ka 0 kn) km (fun i=>⟨[(3,some (.v (.one (.ref 900 (eu s i).length)))),(4,some (vI i))],[(900,some (.arr true 1 3 (eu s i).length (lf iC (eu s i))))]⟩) 32 kk ?_;rintro i hi;have hlen:=ahp s i;refine w_6 ?_;refine hcd (fun h0=>?_) (fun h0=>?_)
 ·
  refine w_7 ?_;refine qcx ov (a1z s i) ?_;refine bz ?_;refine hcb (fun h1=>?_) (fun h1=>?_)
  ·
   refine w_3 ?_;refine m9 0 ?_;refine r9 1 true ?_;refine w_7 ?_
   first | (refine ⟨i + 1, ?_, ?_, ?_⟩
            · show i + 1 <= _;omega
            · first | omega | (dsimp only;omega)
            exact ⟨⟨⟨_,rfl,(bg (ni bqi bqj))⟩,tt⟩,⟨⟨_,rfl,(bh (ni bqi bqj) (CoP.refl _))⟩,trivial⟩⟩)
         | (refine ⟨i + 1, ?_, ?_, ?_⟩
            · show i + 1 <= _;omega
            · first | omega | (dsimp only;omega)
            exact ⟨⟨⟨_,rfl,(bi (rj bqi bqj))⟩,tt⟩,⟨⟨_,rfl,(b8 (rj bqi bqj))⟩,trivial⟩⟩)
  refine w_6 ?_
  first | (refine ⟨i + 1, ?_, ?_, ?_⟩
           · show i + 1 <= _;omega
           · first | omega | (dsimp only;omega)
           exact ⟨⟨⟨_,rfl,(bg (ni bqi bqj))⟩,tt⟩,⟨⟨_,rfl,(bh (ni bqi bqj) (CoP.refl _))⟩,trivial⟩⟩)
        | (refine ⟨i + 1, ?_, ?_, ?_⟩
           · show i + 1 <= _;omega
           · first | omega | (dsimp only;omega)
           exact ⟨⟨⟨_,rfl,(bi (rj bqi bqj))⟩,tt⟩,⟨⟨_,rfl,(b8 (rj bqi bqj))⟩,trivial⟩⟩)
 obtain rfl:i = 32:=by omega
 refine w_6 ?_;refine al 2 rfl rfl rfl ?_;exact hx8 rfl rfl rfl (⟨CoC.one (CoP.refl _),trivial⟩)
def vz:goodFn br6 172:=wgx Tryz.func172
def a0l (s:AS):a6 br6 172 [pA s] (a8 [pI (bsz s)]):=by
 refine hpx (nt:=6) Tryz.func172 ?_;refine w_7 ?_;refine qcx (wgx Tryz.func218) (bik s) ?_;refine v_3 ?_;exact ⟨cci (by rw [tn]),trivial⟩
def a35:goodFn br6 55:=wgx Tryz.func55
def afx (s0:AS):a6 br6 55 [pA s0] (a8 [pP (il (aj s0))]):=by
 refine hpx (nt:=16) Tryz.func55 ?_;refine c5 ?_;refine bw 3 900 true 1 3 (lf iC []) bqo rfl (CoP.sl rfl (.inr rfl) (fun h=>h) (fun i j hi _=>absurd hi (bmf i))) (.inr rfl) rfl ?_;refine ae (ι:=List Nat × AS) kn km (fun x=>⟨[(3,some (.v (.one (.ref 900 x.1.length)))),(0,some (vA x.2))],[(900,some (.arr true 1 3 x.1.length (lf iC x.1)))]⟩) (fun x=>x.1 ++ aj x.2 = aj s0) (fun x=>x.2.toNat) (([],s0)) (rfl) kk ?_;rintro x hx;have hlen:=az5 x hx;refine w_6 ?_;refine hcn (fun h0=>?_) (fun h0=>?_)
 ·
  have hne:x.2 ≠ 0:=fun e=>h0 (by rw [e];rfl);refine w_6 ?_;refine qcx b59 (cTz x.2) ?_;refine m9 0 ?_;refine r9 1 true ?_;refine w_5 ?_;refine rq rfl rfl rfl rfl rfl ?_ (hp:=(a0p hne));refine w_3 ?_;refine ⟨(x.1 ++ [j4 x.2],x.2 &&& (x.2 - 1)), ?_, ?_, ?_⟩
  · show (x.1 ++ [j4 x.2]) ++ aj (x.2 &&& (x.2 - 1)) = aj s0
    rw [<- hx,ax7 hne,bnm];rfl
  · exact b2j hne
  exact ⟨⟨⟨_,rfl,(bg rfl)⟩,⟨_,rfl,(bj (an7 hne))⟩,trivial⟩,⟨⟨_,rfl,(bh rfl (CoP.refl _))⟩,trivial⟩⟩
 have hz:x.2 = 0:=c6.1 h0;refine w_6 ?_;refine al 2 rfl rfl rfl ?_;exact hx8 rfl rfl rfl (⟨CoC.one (CoP.of_eq (by rw [hz,adx,bn9] at hx;rw [<- hx];rfl)),trivial⟩)
def bhr (s:AS):a6 br6 213 [pA s] (a8 [pI (bsz s)]):=by
 refine hpx (nt:=21) Tryz.func213 ?_;refine w_8 ?_;refine rq rfl rfl rfl rfl rfl ?_ (hp:=(bjv s (by decide +kernel)));refine w_3 ?_;refine rq rfl rfl rfl rfl rfl ?_ (hp:=(ixM s 16 bqi (by decide +kernel)));refine rqw rfl rfl rfl rfl rfl ?_;refine w_3 ?_;refine rq rfl rfl rfl rfl rfl ?_ (hp:=(ixM s 8 bqi (by decide +kernel)));refine rqw rfl rfl rfl rfl rfl ?_;refine w_2 ?_;refine rq rfl rfl rfl rfl rfl ?_ (hp:=(ixL s (by decide +kernel)));(iterate 2 refine rqw rfl rfl rfl rfl rfl ?_);refine v_3 ?_;exact ⟨cci (bgp (by decide +kernel) (b4s s 24 bqi) (auf s 16 bqi) (auf s 8 bqi) (b4g s)),trivial⟩
def za:goodFn br6 168:=wgx Tryz.func168
def a9b (s:AS):a6 br6 168 [pA s] (a8 [pI (bsz s)]):=by
 refine hpx (nt:=5) Tryz.func168 ?_;refine w_7 ?_;refine qcx (wgx Tryz.func213) (bhr s) ?_;refine v_2 ?_;exact CoL.refl _
end
section
def m7 (l:List AS) (k:Nat) (r:AS):List AS:=l.take k ++ r :: l.drop k
section
variable {k:Nat} {l:List AS} {r:AS}
def mq (h:k <= l.length):(m7 l k r).length = l.length + 1:=by simp [m7];omega
def azy:m7 l l.length r = l ++ [r]:=by simp [m7]
def a51 {i:Nat} (h:k <= l.length):(m7 l k r)[i]? = if i < k then l[i]? else if i = k then some r else l[i - 1]?:=by
 simp only [m7];by_cases h1:i < k
 · rw [if_pos h1,bns bqt,bmy,if_pos h1]
 rw [if_neg h1,bnr bqt,bmk,bo5 h];by_cases h2:i = k
 · subst h2;simp
 rw [if_neg h2];obtain ⟨d,rfl⟩:∃ d,i = k + 1 + d:=⟨i - k - 1,by omega⟩;rw [show k + 1 + d - k = d + 1 by omega,List.getElem?_cons_succ,boj];congr 1;omega
def avv (h:k <= l.length):(m7 l k r).getD k default = r:=by
 rw [bmb,a51 h,if_neg bqi,if_pos rfl];rfl
def ahw (h0:0 < k) (h:k <= l.length):(m7 l k r).getD (k - 1) default = l.getD (k - 1) default:=by
 rw [bmb,a51 h,if_pos bqi,bmb]
def avq (h0:0 < k) (h:k <= l.length):((m7 l k r).set k (l.getD (k - 1) default)).set (k - 1) r = m7 l (k - 1) r:=by
 apply bop;intro i;rw [a51 bqi,bqd,bqd,bol,mq h,a51 h];by_cases h1:k - 1 = i
 · subst h1
   rw [if_pos rfl,if_pos bqi,if_neg bqi,if_pos rfl]
 rw [if_neg h1];by_cases h2:k = i
 · subst h2
   rw [if_pos rfl,if_pos bqi,if_neg bqi,if_neg bqi,List.getD,bma bqi];rfl
 rw [if_neg h2];by_cases h3:i < k
 · rw [if_pos h3,if_pos bqi]
 rw [if_neg h3,if_neg bqi,if_neg bqi,if_neg bqi]
def axk {k' m':Nat} (h0:0 < k) (hk:k <= l.length) (hk':k' = k) (hm':m' = k - 1) {n:Nat} (hn:n = l.length + 1) {e:TypeId}:
 CoO (.arr true 1 e n (ez (ez (lf sC (m7 l k r)) k' 0 [lf sC (m7 l k r) m' 0]) m' 0 [lf sC (m7 l k r) k' 0])) (.arr true 1 e n (lf sC (m7 l (k - 1) r))):=by
 subst hk' hm';rw [<- avq h0 hk];refine apv (fun h=>h) (by rw [mq hk];exact hn) (by rw [mq hk];omega) (by rw [mq hk];omega) rfl rfl (fun j hj=>?_) (fun j hj=>?_)
 · obtain rfl:j = 0:=by omega
   exact CoP.of_eq (by show sC ((m7 l k' r).getD (k' - 1) default) 0 = _;rw [ahw h0 hk])
 obtain rfl:j = 0:=by omega
 exact CoP.of_eq (by show sC ((m7 l k' r).getD k' default) 0 = _;rw [avv hk])
def avo {k' m':Nat} {b:Bool} (h0:0 < k) (hk:k <= l.length) (h:bef ((m7 l k r).getD k' default) ((m7 l k r).getD m' default) = b) (hk':k' = k) (hm':m' = k - 1):bef r (l.getD (k - 1) default) = b:=by
 subst hk' hm';rwa [avv hk,ahw h0 hk] at h
def abd {j:Nat} (h:j < l.length):l.getD j default ∈ l:=by
 rw [bmb,bma h];exact bmz h
def aie (hs:ru l) (hr:r ∉ l) (hk:k <= l.length) (h1:∀ j,k <= j -> j < l.length -> bef r (l.getD j default) = true) (h2:k = 0 \/ ¬ bef r (l.getD (k - 1) default) = true):m7 l k r = mj r l:=by
 refine s8 ?_ (a0t hs) fun z=>?_
 · unfold ru m7
   rw [bpf];refine ⟨hs.sublist (List.take_sublist _ _),bnk.2 ⟨fun z hz=>?_,hs.sublist (List.drop_sublist _ _)⟩,fun y hy z hz=>?_⟩
   · obtain ⟨j,hj,rfl⟩:=bn1 hz
     rw [bnv] at hj;have:=h1 (k + j) bqi bqi;rwa [bmb,bma bqi,bn6,<- List.getElem_drop] at this
   have hyr:bef y r = true:=by
    obtain ⟨j,hj,rfl⟩:=bn1 hy;rw [bmk] at hj
    rcases h2 with h2 | h2
    · omega
    have hk1:k - 1 < l.length:=by omega
    have hlast:bef (l.getD (k - 1) default) r = true:=by
     rcases a8t (a:=r) (b:=l.getD (k - 1) default) (fun e=>hr (e ▸ abd hk1)) with h | h
     · exact absurd h h2
     exact h
    rw [List.getElem_take];by_cases hjk:j = k - 1
    · subst hjk
      rwa [bmb,bma hk1,bn6] at hlast
    refine ui ?_ hlast;rw [bmb,bma hk1,bn6];exact bod.1 hs j (k - 1) bqi hk1 bqi
   rcases bmp.1 hz with rfl | hz
   · exact hyr
   have h3:bef r z = true:=by
    obtain ⟨j,hj,rfl⟩:=bn1 hz;rw [bnv] at hj;have:=h1 (k + j) bqi bqi;rwa [bmb,bma bqi,bn6,<- List.getElem_drop] at this
   exact ui hyr h3
 rw [a0o];unfold m7;rw [bmu,bmp];constructor
 · rintro (h | h | h)
   · exact .inr (bov h)
   · exact .inl h
   exact .inr (bpv h)
 rintro (h | h)
 · exact .inr (.inl h)
 rw [<- bpq k l,bmu] at h
 rcases h with h | h
 · exact .inl h
 exact .inr (.inr h)
def vw (hs:ru l) (hr:r ∈ l):mj r l = l:=s8 (a0t hs) hs fun z=>by
 rw [a0o];constructor
 · rintro (rfl | h)
   · exact hr
   exact h
 exact .inr
def ik {i:Nat} (hi:i < l.length):ord (l.take (i + 1)) = mj (l.getD i default) (ord (l.take i)):=by
 unfold ord;rw [am hi,bnn];rfl
def ao6 (x:AS):∀ l:List AS,(mj x l).length <= l.length + 1
 | []=>by simp [mj]
 | y :: l=>by
  unfold mj;have:=ao6 x l;split
  · simp
  split
  · simp
  simp only [bn7];omega
def jw (l:List AS):(ord l).length <= l.length:=by
 have:∀ (l o:List AS),(l.foldl (fun o x=>mj x o) o).length <= o.length + l.length:=by
  intro l
  induction l with
  | nil=>intro o;simp
  | cons x l ih =>
   intro o;have h1:=ih (mj x o);have h2:=ao6 x o;simp only [bo9,bn7];omega
 have h:=this l [];simpa [ord] using h
def aqn {s:AS}:(l.any fun x=>decide (x = s)) = decide (s ∈ l):=by
 rw [bo8,bne,decide_eq_true_iff];constructor
 · rintro ⟨x,hx,h⟩
   exact of_decide_eq_true h ▸ hx
 intro h;exact ⟨s,h,decide_eq_true rfl⟩
def jC:Int -> Nat -> PV:=fun n _=>.raw (.int .i64 n)
def orF (l:List Int):Int:=(l.find? fun x=>decide (x ≠ 0)).getD 0
def bhi {l:List Int} {i:Nat} (hi:i < l.length) (hI:∀ j,j < i -> decide (l.getD j default = 0) = true) (h:¬ l.getD i default = 0):orF l = l.getD i default:=by
 unfold orF
 have:l.find? (fun x=>decide (x ≠ 0)) = some (l.getD i default):=by
  rw [List.find?_eq_some_iff_getElem];refine ⟨decide_eq_true h,i,hi,by simp [List.getD,hi],fun j hj=>?_⟩;have:=of_decide_eq_true (hI j hj);rw [bmb,bma bqi,bn6] at this;simp [this]
 rw [this];rfl
def bie {l:List Int} (hI:∀ j,j < l.length -> decide (l.getD j default = 0) = true):orF l = 0:=by
 unfold orF
 have:l.find? (fun x=>decide (x ≠ 0)) = none:=by
  rw [bpb];intro x hx;obtain ⟨j,hj,rfl⟩:=bn1 hx;have:=of_decide_eq_true (hI j hj);rw [bmb,bma hj,bn6] at this;simp [this]
 rw [this];rfl
def b9j (a b:AS):orF [kw (bsz a) (bsz b),kw (asI a) (asI b)] = a49 a b:=by
 unfold orF a49;by_cases h:kw (bsz a) (bsz b) = 0
 · by_cases h2:kw (asI a) (asI b) = 0 <;> simp [h,h2]
 simp [h]
def bah {α:Type} [Inhabited α] {cl:Bool} {c:α -> Nat -> PV} {x y:α} {f:Nat -> Nat -> PV} (h0:CoP (f 0 0) (c x 0)) (h1:CoP (f 1 0) (c y 0)):CoP (.sl 2 1 cl f) (psl 1 c [x,y]) :=
 CoP.sl rfl (.inl rfl) (fun h=>by cases h) fun i j hi hj=>by
  obtain rfl:j = 0:=by omega
  rcases (by omega:i = 0 \/ i = 1) with rfl | rfl
  · exact h0
  exact h1
def bej {a b:AS} (h:¬ (bsz a:Int) = bsz b):decide ((bsz a:Int) < bsz b) = bef a b:=by
 rw [bo8,decide_eq_true_iff,nn];omega
def bfr {a b:AS} (h:(bsz a:Int) = bsz b):decide (asI a < asI b) = bef a b:=by
 rw [bo8,decide_eq_true_iff,nn];unfold asI;omega
def ar2 {α:Type} [Inhabited α] {wr wr':Bool} {e:TypeId} {c:α -> Nat -> PV} {l:List α} {x:α} {g:Nat -> Nat -> PV} (hg:CoP (g 0 0) (c x 0)) (hw:wr' = true -> wr = true:=by exact fun h=>h) :
 CoO (.arr wr 1 e (l.length + 1) (eq l.length (lf c l) g)) (.arr wr' 1 e (l.length + 1) (lf c (l ++ [x]))):=by
 have h:=bh (wr:=wr) (wr':=wr') (e:=e) (l:=l) (l':=l ++ [x]) (g:=g) rfl hg hw;rwa [show (l ++ [x]).length = l.length + 1 by simp] at h
def dg {α:Type} [Inhabited α] {wr wr':Bool} {s n m:Nat} {e:TypeId} {c:α -> Nat -> PV} {l l':List α} (h:l' = l) (hn:n = m) (hw:wr' = true -> wr = true:=by exact fun h=>h):CoO (.arr wr s e n (lf c l)) (.arr wr' s e m (lf c l')):=by
 subst h hn;exact ⟨hw,rfl,rfl,rfl,fun _ _ _ _=>CoP.refl _⟩
def b18 {a b:AS}:decide (a49 a b < 0) = bef a b:=by
 rw [bo8,decide_eq_true_iff,nn];unfold a49 kw asI;split <;> (repeat' split) <;> omega
end
end
section
open Go.Proofs
def b7y (a b:AS):a6 br6 199 [pA a,pA b] (a8 [pB (bef a b)]):=by
 refine hpx (nt:=18) Tryz.func199 ?_;refine w_8 ?_;refine qcx vz (a0l _) ?_;refine qy ?_;refine qcx vz (a0l _) ?_;refine w_2 ?_;refine hcn (fun h0=>?_) (fun h0=>?_)
 · refine w_3 ?_;refine qcx vz (a0l _) ?_;refine qy ?_;refine qcx vz (a0l _) ?_;refine v_3 ?_;exact ⟨ccb (bej h0),trivial⟩
 refine v_8 ?_;exact ⟨ccb (bfr h0),trivial⟩
def aek:goodFn br6 198:=wgx Tryz.func198
def cIn (l:List AS) (s:AS):a6 br6 198 [pP (asl l),pA s] (a8 [pB (decide (s ∈ l))]):=by
 refine hpx (nt:=18) Tryz.func198 ?_;refine cb ?_;refine c8 0 rfl fun hn=>?_;refine w_3 ?_;refine dm (ι:=Unit) kn km (fun _i=>⟨[],[]⟩) (fun _i=>decide (s ∈ l) = false) ?_ ?_
 ·
  refine w_5 ?_;refine ae (ι:=Nat) (ka 0 (ka 1 kn)) km (fun i=>⟨[(5,some (vI i))],[]⟩) (fun i=>i <= l.length /\ (∀ j,j < i -> decide (l.getD j default = s) = false)) (fun i=>l.length - i) (0) (⟨bmh _,bq⟩) kk ?_;rintro i ⟨hi,hI⟩;refine w_8 ?_;refine hcd (fun h0=>?_) (fun h0=>?_)
  ·
   refine dy ?_;refine hcd (fun h1=>?_) (fun h1=>?_)
   · refine v_4 ?_;exact ⟨ccb (by rw [<- aqn];exact (aj8 (p:=fun x=>decide (x = s)) (i:=i) bqi (decide_eq_true (c6.1 h1))).symm),trivial⟩
   refine w_6 ?_;refine lpz (i + 1) kk ?_;exact ⟨by show i + 1 <= _;omega,aw hI (decide_eq_false fun e=>h1 (congrArg asI e))⟩
  refine da ?_;refine ⟨(), ?_, ?_⟩
  · rw [<- aqn];exact ait (p:=fun x=>decide (x = s)) fun j hj=>hI j bqi
  exact ⟨trivial,trivial⟩
 rintro _ hj;refine v_4 ?_;exact ⟨ccb hj.symm,trivial⟩
def b4v (a:Int):a6 br6 266 [pI a] (a8 [pB false]):=by
 refine hpx (nt:=6) Tryz.func266 ?_;refine cq ?_;exact hx8 rfl rfl rfl (⟨ccb bqm,trivial⟩)
def b43 (a:AS):a6 br6 267 [pA a] (a8 [pB false]):=by
 refine hpx (nt:=6) Tryz.func267 ?_;refine cq ?_;exact hx8 rfl rfl rfl (⟨ccb bqm,trivial⟩)
def br0 {p:Prop} (h:p:=by unfold kw;first | (rw [if_pos bqi]) | (rw [if_neg bqi,if_pos bqi]) | (rw [if_neg bqi,if_neg bqi])):p:=h
def b4n (a b:Int):a6 br6 245 [pI a,pI b] (a8 [pI (kw a b)]):=by
 refine hpx (nt:=20) Tryz.func245 ?_;refine w_7 ?_;refine qcx (wgx Tryz.func266) (b4v _) ?_;refine w_5 ?_;refine qcx (wgx Tryz.func266) (b4v _) ?_;refine b00 ?_;refine hcd (fun h0=>?_) (fun h0=>?_)
 · refine v_4 ?_;exact ⟨cci br0,trivial⟩
 refine w_8 ?_;refine hcd (fun h1=>?_) (fun h1=>?_)
 · refine v_4 ?_;exact ⟨cci br0,trivial⟩
 refine v_5 ?_;exact ⟨cci br0,trivial⟩
def bj1 (a b:AS):a6 br6 246 [pA a,pA b] (a8 [pI (kw (asI a) (asI b))]):=by
 refine hpx (nt:=20) Tryz.func246 ?_;refine w_7 ?_;refine qcx (wgx Tryz.func267) (b43 _) ?_;refine w_5 ?_;refine qcx (wgx Tryz.func267) (b43 _) ?_;refine b00 ?_;refine hcd (fun h0=>?_) (fun h0=>?_)
 · refine v_4 ?_;exact ⟨cci br0,trivial⟩
 refine w_8 ?_;refine hcd (fun h1=>?_) (fun h1=>?_)
 · refine v_4 ?_;exact ⟨cci br0,trivial⟩
 refine v_5 ?_;exact ⟨cci br0,trivial⟩
def cOr (l:List Int):a6 br6 244 [pP (psl 1 jC l)] (a8 [pI (orF l)]):=by
 refine hpx (nt:=18) Tryz.func244 ?_;refine cb ?_;refine c8 0 rfl fun hn=>?_;refine w_7 ?_;refine dm (ι:=Unit) (ka 3 kn) km (fun _i=>⟨[],[]⟩) (fun _i=>orF l = 0) ?_ ?_
 ·
  refine w_7 ?_;refine ae (ι:=Nat) (ka 3 (ka 6 (ka 7 kn))) km (fun i=>⟨[(8,some (vI i))],[]⟩) (fun i=>i <= l.length /\ (∀ j,j < i -> decide (l.getD j default = 0) = true)) (fun i=>l.length - i) (0) (⟨bmh _,bq⟩) kk ?_;rintro i ⟨hi,hI⟩;refine w_5 ?_;refine hcd (fun h0=>?_) (fun h0=>?_)
  ·
   refine ml ?_;refine hcn (fun h1=>?_) (fun h1=>?_)
   · refine v_5 ?_;exact ⟨cci (bhi (i:=i) bqi hI h1).symm,trivial⟩
   refine w_5 ?_;refine lpz (i + 1) kk ?_;exact ⟨by show i + 1 <= _;omega,aw hI (decide_eq_true h1)⟩
  refine da ?_;refine ⟨(), ?_, ?_⟩
  · exact bie fun j hj=>hI j bqi
  exact kk
 rintro _ hj;refine v_5 ?_;exact ⟨cci hj.symm,trivial⟩
def b3l (a b:AS):a6 br6 215 [pA a,pA b] (a8 [pI (a49 a b)]):=by
 refine hpx (nt:=15) Tryz.func215 ?_;refine w_7 ?_;refine qcx za (a9b _) ?_;refine qy ?_;refine qcx za (a9b _) ?_;refine qcx (wgx Tryz.func245) (b4n _ _) ?_;refine w_2 ?_;refine qcx (wgx Tryz.func246) (bj1 _ _) ?_;refine m9 0 ?_;refine rc rfl rfl rfl rfl rfl rfl (wgx Tryz.func244) (cOr [kw (bsz a) (bsz b),kw (asI a) (asI b)]) (⟨CoC.one (bah (CoP.refl _) (CoP.refl _)),trivial⟩) rfl rfl ?_;refine v_2 ?_;exact ⟨cci (b9j a b),trivial⟩
def a7z:goodFn br6 144:=wgx Tryz.func144
def bqy {p:Prop} (h:p:=by rw [bmi];rfl):p:=h
def a94 (l:List AS) (hl:l.length <= 8589934592):a6 br6 144 [pP (asl l)] (a8 [pP (asl (ord l))]):=by
 refine hpx (nt:=61) Tryz.func144 ?_;refine cb ?_;refine c8 0 rfl fun hn=>?_;refine ja ?_;refine bw 3 900 true 1 46 (lf sC []) bqo rfl (CoP.sl rfl (.inr rfl) (fun h=>h) (fun i j hi _=>absurd hi (bmf i))) (.inr rfl) rfl ?_;refine b5 (ka 0 kn) km (fun i=>⟨[(3,some (.v (.one (.ref 900 (ord (l.take i)).length)))),(4,some (vI i))],[(900,some (.arr true 1 46 (ord (l.take i)).length (lf sC (ord (l.take i)))))]⟩) l.length kk ?_;rintro i hi;have hlen:=jw (l.take i);rw [bmk] at hlen;refine w_8 ?_;refine hcd (fun h0=>?_) (fun h0=>?_)
 ·
  refine cq ?_;refine qcx aek (cIn (ord (l.take i)) (l.getD i default)) ?_;refine bz ?_;refine hcb (fun h1=>?_) (fun h1=>?_)
  ·
   have hin:=a0i h1;refine w_6 ?_
   first | (refine ⟨i + 1, ?_, ?_, ?_⟩
            · show i + 1 <= _;omega
            · first | omega | (dsimp only;omega)
            exact ⟨⟨⟨_,rfl,(bi (by rw [ik bqi,vw (jj _) hin]))⟩,tt⟩,⟨⟨_,rfl,(b8 (by rw [ik bqi,vw (jj _) hin]))⟩,trivial⟩⟩)
         | (refine ⟨i + 1, ?_, ?_, ?_⟩
            · show i + 1 <= _;omega
            · first | omega | (dsimp only;omega)
            exact ⟨⟨⟨_,rfl,(aga (by rw [ik bqi,<- hfin,mq hk]))⟩,tt⟩,⟨⟨_,rfl,(dg (by rw [ik bqi,<- hfin]) (by rw [ik bqi,<- hfin,mq hk]))⟩,trivial⟩⟩)
  have hin:=a1w h1;refine w_8 ?_;refine m9 0 ?_;refine r9 1 true ?_;refine c5 ?_;refine ae (ι:=Nat) (ka 0 (ka 3 (ka 4 kn))) km (fun k=>⟨[(5,some (vI k))],[(900,some (.arr true 1 46 ((ord (l.take i)).length + 1) (lf sC (m7 (ord (l.take i)) k (l.getD i default)))))]⟩) (fun k=>k <= (ord (l.take i)).length /\ ∀ j,k <= j -> j < (ord (l.take i)).length -> bef (l.getD i default) ((ord (l.take i)).getD j default) = true) (fun k=>k) ((ord (l.take i)).length) (⟨bmd _,fun j h1 h2=>by omega⟩) ⟨tt,⟨⟨_,rfl,(by rw [azy];exact ar2 (CoP.refl _))⟩,trivial⟩⟩ ?_;rintro k ⟨hk,hK⟩;refine w_6 ?_;refine ah rfl rfl (fun r2=>?_) (fun r2=>?_)
  ·
   have h2:=tz1 r2;(iterate 9 refine qy ?_ (hg:=(gtt r2)));refine qcx (wgx Tryz.func199) (b7y _ _) ?_ (hg:=(gtt r2));refine w_3 ?_;refine ak _ rfl (fun r3=>?_) (fun r3=>?_)
   ·
    have h3:=br r2 r3;have hb:=avo bqi hk h3 bqi bqi;refine w_3 ?_;refine af6 (E:=gr) fm xh [0,1,5,6,7,8,9,10,11,12,13,14,15,2,3,4,16,17] ?_;refine bfp ?_;refine ⟨k - 1, ?_, ?_, ?_⟩
    · refine ⟨by omega,fun j h1 h2=>?_⟩
      by_cases hj:j = k - 1
      · rw [hj];exact hb
      exact hK j bqi h2
    · show k - 1 < k
      omega
    exact ⟨tt,⟨⟨_,rfl,(axk bqi hk bqi bqi rfl)⟩,trivial⟩⟩
   have h3:=br r2 r3;have hb:=avo bqi hk h3 bqi bqi;have hfin:=aie (jj _) hin hk hK (.inr (by rw [hb];decide));refine w_6 ?_
   first | (refine ⟨i + 1, ?_, ?_, ?_⟩
            · show i + 1 <= _;omega
            · first | omega | (dsimp only;omega)
            exact ⟨⟨⟨_,rfl,(bi (by rw [ik bqi,vw (jj _) hin]))⟩,tt⟩,⟨⟨_,rfl,(b8 (by rw [ik bqi,vw (jj _) hin]))⟩,trivial⟩⟩)
         | (refine ⟨i + 1, ?_, ?_, ?_⟩
            · show i + 1 <= _;omega
            · first | omega | (dsimp only;omega)
            exact ⟨⟨⟨_,rfl,(aga (by rw [ik bqi,<- hfin,mq hk]))⟩,tt⟩,⟨⟨_,rfl,(dg (by rw [ik bqi,<- hfin]) (by rw [ik bqi,<- hfin,mq hk]))⟩,trivial⟩⟩)
  have h2:=tz2 r2;have hfin:=aie (jj _) hin hk hK (.inl bqi);(iterate 10 refine k9 (gft r2) ?_);refine rq rfl rfl rfl rfl rfl ?_ (hp:=r2);refine w_9 ?_
  first | (refine ⟨i + 1, ?_, ?_, ?_⟩
           · show i + 1 <= _;omega
           · first | omega | (dsimp only;omega)
           exact ⟨⟨⟨_,rfl,(bi (by rw [ik bqi,vw (jj _) hin]))⟩,tt⟩,⟨⟨_,rfl,(b8 (by rw [ik bqi,vw (jj _) hin]))⟩,trivial⟩⟩)
        | (refine ⟨i + 1, ?_, ?_, ?_⟩
           · show i + 1 <= _;omega
           · first | omega | (dsimp only;omega)
           exact ⟨⟨⟨_,rfl,(aga (by rw [ik bqi,<- hfin,mq hk]))⟩,tt⟩,⟨⟨_,rfl,(dg (by rw [ik bqi,<- hfin]) (by rw [ik bqi,<- hfin,mq hk]))⟩,trivial⟩⟩)
 obtain rfl:i = l.length:=by omega
 refine w_6 ?_;refine al 2 rfl rfl rfl ?_;exact hx8 rfl rfl rfl (⟨CoC.one (CoP.of_eq bqy),trivial⟩)
end
end Go.Hx

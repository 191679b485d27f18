/- A part of the proof: LyTz TzW Cs7 Cs8 V6 Cs9 V7. -/
import Derived.Shelf.Lays7
import Derived.Shelf.Spec.TrailingZeros
import Derived.Test.YtkkenjdfbojdlaaGreatDoorProg
import Derived.Test.YtkkenjdfbojdlaaGreatDoorJx15
set_option linter.all false
set_option maxRecDepth 100000
set_option maxHeartbeats 1000000
section
namespace Go.Proofs
open Go.Shelf
def Tryz.lays28_ren:Go.Shelf.Ren:=⟨fun | 28=>114 | n=>n,fun | 27=>43 | 3=>3 | 4=>4 | 25=>177 | 53=>176 | 0=>0 | 5=>5 | n=>n,fun | 0=>0 | n=>n⟩
theorem Tryz.lays28:Go.Proofs.Lays7.n28 Tryz.prog Tryz.lays28_ren:={
 mixed:=by kernel_rfl
 f28:=Tryz.func114.trans (congrArg some (by kernel_rfl))
 t0:=Tryz.underlying0
 a0:=Tryz.isAgg0
 z0:=Tryz.sizeOf0
 v0:=Tryz.zeroValue0
 i0:=by kernel_rfl
 t3:=Tryz.underlying3
 a3:=Tryz.isAgg3
 z3:=Tryz.sizeOf3
 v3:=Tryz.zeroValue3
 i3:=by kernel_rfl
 t4:=Tryz.underlying4
 a4:=Tryz.isAgg4
 z4:=Tryz.sizeOf4
 v4:=Tryz.zeroValue4
 i4:=by kernel_rfl
 t5:=Tryz.underlying5
 a5:=Tryz.isAgg5
 z5:=Tryz.sizeOf5
 v5:=Tryz.zeroValue5
 i5:=by kernel_rfl
 t25:=Tryz.underlying177
 a25:=Tryz.isAgg177
 z25:=Tryz.sizeOf177
 v25:=Tryz.zeroValue177
 i25:=by kernel_rfl
 t27:=Tryz.underlying43
 a27:=Tryz.isAgg43
 z27:=Tryz.sizeOf43
 v27:=Tryz.zeroValue43
 i27:=by kernel_rfl
 t53:=Tryz.underlying176
 a53:=Tryz.isAgg176
 z53:=Tryz.sizeOf176
 v53:=Tryz.zeroValue176
 i53:=by kernel_rfl
 g0:=by kernel_rfl }
end Go.Proofs
end
namespace Go.Hx
section
open Go.Proofs Go.RowKit
def b6g:goodFn bo6 114:=⟨Tryz.f114,Tryz.func114,by kernel_rfl,by kernel_rfl⟩
def bey:∀ j,j < Lib.deBruijn32tab.length -> y8 0 j = some (.int .u8 (Lib.deBruijn32tab.getD j 0)):=fun j hj=>by
 unfold y8;rw [show up 0 = Lib.deBruijn32tab.map (fun k:Nat=>Value.int .u8 (k:Int)) from rfl,bjz,bjc hj,bjd,bjc hj];rfl
def cTz (s:AS):a6 bo6 114 [pA s] (a7 [pI (i6 s)]):=by
 intro w imm us htab him hus
 match us,hus with
 | [u],⟨hu,_⟩ =>
  obtain ⟨rfl,_⟩:=hu
  have h:=Any7.bits_TrailingZeros32 Tryz.lays28 s.toNat s.isLt w fun _ j hj=>by
   have hc:=htab 0 j _ (bey j hj);unfold je at hc
   cases hb:imm 0 with
   | none=>rw [hb] at hc;cases hc
   | some ob =>
    rw [hb] at hc;have hw:=him 0 ob hb;cases ob <;> simp at hc;show w.cell? ⟨0,j,none⟩ = _;simp [World.cell?,hw,hc]
  refine h.mono ?_;rintro e w' ⟨rfl,rfl⟩;exact ⟨_,imm,rfl,⟨rfl,rfl⟩,fun _ _=>rfl,him,Below.refl _ _⟩
 | [],h=>exact h.elim
 | _ :: _ :: _,⟨_,h⟩=>exact h.elim
end
section
def aeg {id n m:Nat} (h:n = m):CoR (.v (.one (.ref id n))) (.v (.one (.ref id m))):=by subst h;exact CoR.refl _
section
variable {α:Type} [Inhabited α]
def a83 {wr wr':Bool} {s m:Nat} {e:TypeId} {c:α -> Nat -> PV} {l l':List α} {x:α} {g:Nat -> Nat -> PV} (h:l' = l ++ [x]) (hg:∀ j,j < s -> CoP (g 0 j) (c x j)) (hm:m = 1:=by rfl) (hw:wr' = true -> wr = true:=by exact fun h=>h) :
 CoO (.arr wr s e (l.length + m) (fe l.length (lf c l) g)) (.arr wr' s e l'.length (lf c l')):=by
 subst h;refine awm [x] hw hm fun i j hi hj=>?_;obtain rfl:i = 0:=by simp at hi;exact hi
 exact hg j hj
def bq {wr wr':Bool} {s:Nat} {e:TypeId} {c:α -> Nat -> PV} {l l':List α} (h:l' = l) (hw:wr' = true -> wr = true:=by exact fun h=>h):CoO (.arr wr s e l.length (lf c l)) (.arr wr' s e l'.length (lf c l')):=by
 subst h;exact ⟨hw,rfl,rfl,rfl,fun _ _ _ _=>CoP.refl _⟩
end
section
variable {α:Type} [Inhabited α]
section
variable {l l':List α}
def bv {id:Nat} {x:α} (h:l' = l ++ [x]):CoR (.v (.one (.ref id (l.length + 1)))) (.v (.one (.ref id l'.length))):=by subst h;rw [bjj];exact CoR.refl _
def bz {id:Nat} (h:l' = l):CoR (.v (.one (.ref id l.length))) (.v (.one (.ref id l'.length))):=by subst h;exact CoR.refl _
def bt {wr wr':Bool} {e:TypeId} {c:α -> Nat -> PV} {x:α} {g:Nat -> Nat -> PV} (h:l' = l ++ [x]) (hg:CoP (g 0 0) (c x 0)) (hw:wr' = true -> wr = true:=by exact fun h=>h):
 CoO (.arr wr 1 e (l.length + 1) (fe l.length (lf c l) g)) (.arr wr' 1 e l'.length (lf c l')) :=
 a83 h (fun j hj=>by
  obtain rfl:j = 0:=by omega
  exact hg) rfl hw
def p9 {wr wr':Bool} {e:TypeId} {c:α -> Nat -> PV} {x:α} {g:Nat -> Nat -> PV} (h:l' = l ++ [x]) (h0:CoP (g 0 0) (c x 0)) (h1:CoP (g 0 1) (c x 1)) (hw:wr' = true -> wr = true:=by exact fun h=>h):
 CoO (.arr wr 2 e (l.length + 1) (fe l.length (lf c l) g)) (.arr wr' 2 e l'.length (lf c l')) :=
 a83 h (fun j hj=>by
  rcases (by omega:j = 0 \/ j = 1) with rfl | rfl
  · exact h0
  exact h1) rfl hw
end
end
def eq (s:AS) (i:Nat):List Nat:=(List.range i).filter fun k=>s.getLsbD k
def nv {s:AS} {i:Nat} (hi:i < 32) (h:dl s (i:Int) = true):eq s (i + 1) = eq s i ++ [i]:=by
 rw [j1 hi] at h;unfold eq;rw [bl4,bkq];simp [h]
def t7 {s:AS} {i:Nat} (hi:i < 32) (h:dl s (i:Int) = false):eq s (i + 1) = eq s i:=by
 rw [j1 hi] at h;unfold eq;rw [bl4,bkq];simp [h]
def at5 (s:AS) (i:Nat):(eq s i).length <= i:=by
 unfold eq;have:=bl8 (fun k=>s.getLsbD k) (List.range i);rwa [blu] at this
end
section
def qb (b:Nat):Nat:=(List.range 8).countP fun i=>b.testBit i
def sg (p:Nat -> Bool) (a b:Nat):(List.range (a + b)).countP p = (List.range a).countP p + (List.range b).countP fun i=>p (a + i):=by
 rw [List.range_add,bn9,List.countP_map];rfl
def b0a {n k j:Nat} (hj:j < 8):(n / 2 ^ k % 256).testBit j = n.testBit (k + j):=by
 rw [show (256:Nat) = 2 ^ 8 from rfl,Nat.testBit_mod_two_pow,Nat.testBit_div_two_pow,Nat.add_comm];simp [hj]
def b9r (n:Nat) (hn:n < 2 ^ 32):(List.range (8 + (8 + (8 + 8)))).countP (fun i=>n.testBit i) = qb (n / 2 ^ 24) + qb (n / 2 ^ 16 % 256) + qb (n / 2 ^ 8 % 256) + qb (n % 256):=by
 have h:∀ k,(List.range 8).countP (fun i=>n.testBit (k + i)) = qb (n / 2 ^ k % 256):=fun k=>by
  unfold qb;apply List.countP_congr;intro j hj;rw [b0a (bjs.1 hj)]
 have h3:n / 2 ^ 24 % 256 = n / 2 ^ 24:=bma bnl;have h0:=h 0;simp only [bk6,Nat.pow_zero,Nat.div_one] at h0;rw [sg,sg,sg,h0];have e2:=h 8;have e3:=h 16;have e4:=h 24;rw [h3] at e4;simp only [<- blf] at *;simp only [Nat.reduceAdd] at *;rw [e2,e3,e4];omega
def av8 (s:AS):bsz s = qb (s.toNat / 2 ^ 24) + qb (s.toNat / 2 ^ 16 % 256) + qb (s.toNat / 2 ^ 8 % 256) + qb (s.toNat % 256):=b9r s.toNat s.isLt
def a7y (b:Nat):qb b <= 8:=by
 have:=List.countP_le_length (p:=fun i=>b.testBit i) (l:=List.range 8);rwa [blu] at this
def b1z (s:AS) (k:Nat) (hk:k <= 32):((asI s).fdiv (2 ^ (min k 32))).toNat = s.toNat / 2 ^ k:=by
 rw [xc];show (((s >>> k).toNat:Nat):Int).toNat = _;rw [bjo,bn2,bmw]
def arb (s:AS) (k:Nat) (hk:k <= 32):(al .and .u32 ((asI s).fdiv (2 ^ (min k 32))) 255).toNat = s.toNat / 2 ^ k % 256:=by
 rw [xc,show (255:Int) = asI 255 from rfl,fc];show (((s >>> k &&& 255).toNat:Nat):Int).toNat = _;rw [bjo,bmc,bn2,bmw,show (255:AS).toNat = 2 ^ 8 - 1 from rfl,Nat.and_two_pow_sub_one_eq_mod]
def b25 (s:AS):(al .and .u32 (asI s) 255).toNat = s.toNat % 256:=by
 rw [show (255:Int) = asI 255 from rfl,fc];show (((s &&& 255).toNat:Nat):Int).toNat = _;rw [bjo,bmc,show (255:AS).toNat = 2 ^ 8 - 1 from rfl,Nat.and_two_pow_sub_one_eq_mod]
def atr (a b:Int):0 <= al .and .u32 a b:=by
 show 0 <= IntKind.wrap .u32 _;rw [am6 (blq _) (by have:=(BitVec.ofInt 32 a &&& BitVec.ofInt 32 b).isLt;show ((BitVec.ofInt 32 a &&& BitVec.ofInt 32 b).toNat:Int) < _;omega)];exact blq _
def b4p (s:AS) (k:Nat):0 <= (asI s).fdiv (2 ^ (min k 32)):=by rw [xc];exact a5x _
section
variable {X:ByteArray}
def bhr (s:AS) (hX:(256:Int) <= X.size):0 <= (asI s).fdiv (2 ^ (min 24 32)) /\ (asI s).fdiv (2 ^ (min 24 32)) < X.size:=by
 have h1:=b4p s 24;have h2:=b1z s 24 bnl;have:=s.isLt;exact ⟨h1,by omega⟩
def ixM (s:AS) (k:Nat) (hk:k <= 32) (hX:(256:Int) <= X.size):0 <= al .and .u32 ((asI s).fdiv (2 ^ (min k 32))) 255 /\ al .and .u32 ((asI s).fdiv (2 ^ (min k 32))) 255 < X.size:=by
 have h1:=atr ((asI s).fdiv (2 ^ (min k 32))) 255;have h2:=arb s k hk;exact ⟨h1,by omega⟩
def ixL (s:AS) (hX:(256:Int) <= X.size):0 <= al .and .u32 (asI s) 255 /\ al .and .u32 (asI s) 255 < X.size:=by
 have h1:=atr (asI s) 255;have h2:=b25 s;exact ⟨h1,by omega⟩
def adl {n:Int} (h0:0 <= n) (h1:n < 256):IntKind.wrap .u8 n = n:=vt (by simp only [inR,m8,n9];omega)
def aur {n:Int} (h0:0 <= n) (h1:n < 256):IntKind.wrap .i64 n = n:=vt (by simp only [inR,m8,n9];omega)
def bb5 {s:AS} {i0 i1 i2 i3:Nat} (hX:∀ b,b < 256 -> kw X b = (qb b:Int)) (h0:i0 = s.toNat / 2 ^ 24) (h1:i1 = s.toNat / 2 ^ 16 % 256) (h2:i2 = s.toNat / 2 ^ 8 % 256) (h3:i3 = s.toNat % 256):
 IntKind.wrap .i64 (IntKind.wrap .u8 (IntKind.wrap .u8 (IntKind.wrap .u8 (kw X i0 + kw X i1) + kw X i2) + kw X i3)) = (bsz s:Int):=by
 have:=s.isLt;subst h0 h1 h2 h3;rw [hX _ bnl,hX _ bnl,hX _ bnl,hX _ bnl];have a0:=a7y (s.toNat / 2 ^ 24);have a1:=a7y (s.toNat / 2 ^ 16 % 256);have a2:=a7y (s.toNat / 2 ^ 8 % 256);have a3:=a7y (s.toNat % 256);rw [av8];generalize qb (s.toNat / 2 ^ 24) = c0 at *;generalize qb (s.toNat / 2 ^ 16 % 256) = c1 at *;generalize qb (s.toNat / 2 ^ 8 % 256) = c2 at *;generalize qb (s.toNat % 256) = c3 at *;rw [adl (n:=c0 + c1) bnl bnl,adl (n:=c0 + c1 + c2) bnl bnl,adl (n:=c0 + c1 + c2 + c3) bnl bnl,aur (n:=c0 + c1 + c2 + c3) bnl bnl];omega
def ai1 (s:AS):bsz s <= 32:=by
 have:=List.countP_le_length (p:=fun i=>s.getLsbD i) (l:=List.range 32);rwa [blu] at this
def atg {s0:AS} (x:List Nat × AS) (h:x.1 ++ aj x.2 = aj s0):x.1.length <= 32:=by
 have h1:=congrArg List.length h;rw [bjj,<- ss s0] at h1;have:=ai1 s0;omega
def amt {s:AS} (h:s ≠ 0):asI s - 1 = asI (s - 1):=by
 have h0:s.toNat ≠ 0:=fun e=>h (bka e);have:=s.isLt
 have e1:(s - 1).toNat = s.toNat - 1:=by
  rw [BitVec.toNat_sub];show (2 ^ 32 - 1 + s.toNat) % 2 ^ 32 = _;omega
 unfold asI;rw [e1];omega
def yz {s:AS} (h:s ≠ 0):(gn true .u32 (asI s - 1)).1:=by
 rw [amt h];have h1:=a5x (s - 1);have h2:=acz (s - 1);simp only [gn,inR,m8,n9];omega
def alv {s:AS} (h:s ≠ 0):al .and .u32 (asI s) (asI s - 1) = asI (s &&& (s - 1)):=by rw [amt h,fc]
def jq (a b:Int):Int:=if a < b then -1 else if b < a then 1 else 0
def a2r (a b:AS):Int:=if jq (bsz a) (bsz b) = 0 then jq (asI a) (asI b) else jq (bsz a) (bsz b)
end
end
section
open Go.Proofs
def bdw (s:AS):a6 bo6 218 [pA s] (a7 [pP (il (aj s))]):=by
 refine hpx (nt:=17) Tryz.func218 ?_;refine nx ?_;refine cb 3 900 true 1 3 (lf iC []) bns rfl (CoP.sl rfl (.inr rfl) (fun h=>h) (fun i j hi _=>absurd hi (bjh i))) (.inr rfl) rfl ?_;refine bg (ka 0 kn) km (fun i=>⟨[(3,some (.v (.one (.ref 900 (eq s i).length)))),(4,some (vI i))],[(900,some (.arr true 1 3 (eq s i).length (lf iC (eq s i))))]⟩) 32 kk ?_;rintro i hi;have hlen:=at5 s i;refine w_6 ?_;refine hcd (fun h0=>?_) (fun h0=>?_)
 ·
  refine w_7 ?_;refine qcx v7 (aa2 s i) ?_;refine c5 ?_;refine hcb (fun h1=>?_) (fun h1=>?_)
  ·
   refine w_3 ?_;refine m9 0 ?_;refine r9 1 true ?_;refine w_7 ?_
   first | (refine ⟨i + 1, ?_, ?_, ?_⟩
            · show i + 1 <= _;omega
            · first | omega | (dsimp only;omega)
            exact ⟨⟨⟨_,rfl,(bv (nv bnl bnm))⟩,tt⟩,⟨⟨_,rfl,(bt (nv bnl bnm) (CoP.refl _))⟩,trivial⟩⟩)
         | (refine ⟨i + 1, ?_, ?_, ?_⟩
            · show i + 1 <= _;omega
            · first | omega | (dsimp only;omega)
            exact ⟨⟨⟨_,rfl,(bz (t7 bnl bnm))⟩,tt⟩,⟨⟨_,rfl,(bq (t7 bnl bnm))⟩,trivial⟩⟩)
  refine w_6 ?_
  first | (refine ⟨i + 1, ?_, ?_, ?_⟩
           · show i + 1 <= _;omega
           · first | omega | (dsimp only;omega)
           exact ⟨⟨⟨_,rfl,(bv (nv bnl bnm))⟩,tt⟩,⟨⟨_,rfl,(bt (nv bnl bnm) (CoP.refl _))⟩,trivial⟩⟩)
        | (refine ⟨i + 1, ?_, ?_, ?_⟩
           · show i + 1 <= _;omega
           · first | omega | (dsimp only;omega)
           exact ⟨⟨⟨_,rfl,(bz (t7 bnl bnm))⟩,tt⟩,⟨⟨_,rfl,(bq (t7 bnl bnm))⟩,trivial⟩⟩)
 obtain rfl:i = 32:=by omega
 refine w_6 ?_;refine aq 2 rfl rfl rfl ?_;exact hx8 rfl rfl rfl (⟨CoC.one (CoP.refl _),trivial⟩)
def vn:goodFn bo6 172:=wgx Tryz.func172
def yn (s:AS):a6 bo6 172 [pA s] (a7 [pI (bsz s)]):=by
 refine hpx (nt:=6) Tryz.func172 ?_;refine w_7 ?_;refine qcx (wgx Tryz.func218) (bdw s) ?_;refine v_3 ?_;exact ⟨cci (by rw [ss]),trivial⟩
def a1z:goodFn bo6 55:=wgx Tryz.func55
def aes (s0:AS):a6 bo6 55 [pA s0] (a7 [pP (il (aj s0))]):=by
 refine hpx (nt:=16) Tryz.func55 ?_;refine c7 ?_;refine cb 3 900 true 1 3 (lf iC []) bns rfl (CoP.sl rfl (.inr rfl) (fun h=>h) (fun i j hi _=>absurd hi (bjh i))) (.inr rfl) rfl ?_;refine ae (ι:=List Nat × AS) kn km (fun x=>⟨[(3,some (.v (.one (.ref 900 x.1.length)))),(0,some (vA x.2))],[(900,some (.arr true 1 3 x.1.length (lf iC x.1)))]⟩) (fun x=>x.1 ++ aj x.2 = aj s0) (fun x=>x.2.toNat) (([],s0)) (rfl) kk ?_;rintro x hx;have hlen:=atg x hx;refine w_6 ?_;refine hcn (fun h0=>?_) (fun h0=>?_)
 ·
  have hne:x.2 ≠ 0:=fun e=>h0 (by rw [e];rfl);refine w_6 ?_;refine qcx b6g (cTz x.2) ?_;refine m9 0 ?_;refine r9 1 true ?_;refine w_5 ?_;refine rq rfl rfl rfl rfl rfl ?_ (hp:=(yz hne));refine w_3 ?_;refine ⟨(x.1 ++ [i6 x.2],x.2 &&& (x.2 - 1)), ?_, ?_, ?_⟩
  · show (x.1 ++ [i6 x.2]) ++ aj (x.2 &&& (x.2 - 1)) = aj s0
    rw [<- hx,avl hne,bkn];rfl
  · exact b0m hne
  exact ⟨⟨⟨_,rfl,(bv rfl)⟩,⟨_,rfl,(br (alv hne))⟩,trivial⟩,⟨⟨_,rfl,(bt rfl (CoP.refl _))⟩,trivial⟩⟩
 have hz:x.2 = 0:=c8.1 h0;refine w_6 ?_;refine aq 2 rfl rfl rfl ?_;exact hx8 rfl rfl rfl (⟨CoC.one (CoP.of_eq (by rw [hz,acr,bkd] at hx;rw [<- hx];rfl)),trivial⟩)
def bf3 (s:AS):a6 bo6 213 [pA s] (a7 [pI (bsz s)]):=by
 refine hpx (nt:=21) Tryz.func213 ?_;refine w_8 ?_;refine rq rfl rfl rfl rfl rfl ?_ (hp:=(bhr s (by decide +kernel)));refine w_3 ?_;refine rq rfl rfl rfl rfl rfl ?_ (hp:=(ixM s 16 bnl (by decide +kernel)));refine rqw rfl rfl rfl rfl rfl ?_;refine w_3 ?_;refine rq rfl rfl rfl rfl rfl ?_ (hp:=(ixM s 8 bnl (by decide +kernel)));refine rqw rfl rfl rfl rfl rfl ?_;refine w_2 ?_;refine rq rfl rfl rfl rfl rfl ?_ (hp:=(ixL s (by decide +kernel)));(iterate 2 refine rqw rfl rfl rfl rfl rfl ?_);refine v_3 ?_;exact ⟨cci (bb5 (by decide +kernel) (b1z s 24 bnl) (arb s 16 bnl) (arb s 8 bnl) (b25 s)),trivial⟩
def ye:goodFn bo6 168:=wgx Tryz.func168
def a7h (s:AS):a6 bo6 168 [pA s] (a7 [pI (bsz s)]):=by
 refine hpx (nt:=5) Tryz.func168 ?_;refine w_7 ?_;refine qcx (wgx Tryz.func213) (bf3 s) ?_;refine v_2 ?_;exact CoL.refl _
end
section
def lc (l:List AS) (k:Nat) (r:AS):List AS:=l.take k ++ r :: l.drop k
section
variable {k:Nat} {l:List AS} {r:AS}
def lv (h:k <= l.length):(lc l k r).length = l.length + 1:=by simp [lc];omega
def ayg:lc l l.length r = l ++ [r]:=by simp [lc]
def a3u {i:Nat} (h:k <= l.length):(lc l k r)[i]? = if i < k then l[i]? else if i = k then some r else l[i - 1]?:=by
 simp only [lc];by_cases h1:i < k
 · rw [if_pos h1,bl2 bnv,bkb,if_pos h1]
 rw [if_neg h1,bl0 bnv,bjn,blc h];by_cases h2:i = k
 · subst h2;simp
 rw [if_neg h2];obtain ⟨d,rfl⟩:∃ d,i = k + 1 + d:=⟨i - k - 1,by omega⟩;rw [show k + 1 + d - k = d + 1 by omega,List.getElem?_cons_succ,blp];congr 1;omega
def auc (h:k <= l.length):(lc l k r).getD k default = r:=by
 rw [bjd,a3u h,if_neg bnl,if_pos rfl];rfl
def agr (h0:0 < k) (h:k <= l.length):(lc l k r).getD (k - 1) default = l.getD (k - 1) default:=by
 rw [bjd,a3u h,if_pos bnl,bjd]
def ats (h0:0 < k) (h:k <= l.length):((lc l k r).set k (l.getD (k - 1) default)).set (k - 1) r = lc l (k - 1) r:=by
 apply bm2;intro i;rw [a3u bnl,bng,bng,blo,lv h,a3u h];by_cases h1:k - 1 = i
 · subst h1
   rw [if_pos rfl,if_pos bnl,if_neg bnl,if_pos rfl]
 rw [if_neg h1];by_cases h2:k = i
 · subst h2
   rw [if_pos rfl,if_pos bnl,if_neg bnl,if_neg bnl,List.getD,bjc bnl];rfl
 rw [if_neg h2];by_cases h3:i < k
 · rw [if_pos h3,if_pos bnl]
 rw [if_neg h3,if_neg bnl,if_neg bnl,if_neg bnl]
def aua {k' m':Nat} (h0:0 < k) (hk:k <= l.length) (hk':k' = k) (hm':m' = k - 1) {n:Nat} (hn:n = l.length + 1) {e:TypeId}:
 CoO (.arr true 1 e n (en (en (lf sC (lc l k r)) k' 0 [lf sC (lc l k r) m' 0]) m' 0 [lf sC (lc l k r) k' 0])) (.arr true 1 e n (lf sC (lc l (k - 1) r))):=by
 subst hk' hm';rw [<- ats h0 hk];refine ao6 (fun h=>h) (by rw [lv hk];exact hn) (by rw [lv hk];omega) (by rw [lv hk];omega) rfl rfl (fun j hj=>?_) (fun j hj=>?_)
 · obtain rfl:j = 0:=by omega
   exact CoP.of_eq (by show sC ((lc l k' r).getD (k' - 1) default) 0 = _;rw [agr h0 hk])
 obtain rfl:j = 0:=by omega
 exact CoP.of_eq (by show sC ((lc l k' r).getD k' default) 0 = _;rw [auc hk])
def axe {k' m':Nat} {b:Bool} (h0:0 < k) (hk:k <= l.length) (h:bef ((lc l k r).getD k' default) ((lc l k r).getD m' default) = b) (hk':k' = k) (hm':m' = k - 1):bef r (l.getD (k - 1) default) = b:=by
 subst hk' hm';rwa [auc hk,agr h0 hk] at h
def aa7 {j:Nat} (h:j < l.length):l.getD j default ∈ l:=by
 rw [bjd,bjc h];exact bk7 h
def agn (hs:qk l) (hr:r ∉ l) (hk:k <= l.length) (h1:∀ j,k <= j -> j < l.length -> bef r (l.getD j default) = true) (h2:k = 0 \/ ¬ bef r (l.getD (k - 1) default) = true):lc l k r = lx r l:=by
 refine qu ?_ (a0m hs) fun z=>?_
 · unfold qk lc
   rw [bmk];refine ⟨hs.sublist (List.take_sublist _ _),bkh.2 ⟨fun z hz=>?_,hs.sublist (List.drop_sublist _ _)⟩,fun y hy z hz=>?_⟩
   · obtain ⟨j,hj,rfl⟩:=bk4 hz
     rw [bkz] at hj;have:=h1 (k + j) bnl bnl;rwa [bjd,bjc bnl,bk8,<- List.getElem_drop] at this
   have hyr:bef y r = true:=by
    obtain ⟨j,hj,rfl⟩:=bk4 hy;rw [bjn] at hj
    rcases h2 with h2 | h2
    · omega
    have hk1:k - 1 < l.length:=by omega
    have hlast:bef (l.getD (k - 1) default) r = true:=by
     rcases a7o (a:=r) (b:=l.getD (k - 1) default) (fun e=>hr (e ▸ aa7 hk1)) with h | h
     · exact absurd h h2
     exact h
    rw [List.getElem_take];by_cases hjk:j = k - 1
    · subst hjk
      rwa [bjd,bjc hk1,bk8] at hlast
    refine su ?_ hlast;rw [bjd,bjc hk1,bk8];exact bla.1 hs j (k - 1) bnl hk1 bnl
   rcases bjq.1 hz with rfl | hz
   · exact hyr
   have h3:bef r z = true:=by
    obtain ⟨j,hj,rfl⟩:=bk4 hz;rw [bkz] at hj;have:=h1 (k + j) bnl bnl;rwa [bjd,bjc bnl,bk8,<- List.getElem_drop] at this
   exact su hyr h3
 rw [yp];unfold lc;rw [bjw,bjq];constructor
 · rintro (h | h | h)
   · exact .inr (bm6 h)
   · exact .inl h
   exact .inr (List.mem_of_mem_drop h)
 rintro (h | h)
 · exact .inr (.inl h)
 rw [<- bmf k l,bjw] at h
 rcases h with h | h
 · exact .inl h
 exact .inr (.inr h)
def vj (hs:qk l) (hr:r ∈ l):lx r l = l:=qu (a0m hs) hs fun z=>by
 rw [yp];constructor
 · rintro (rfl | h)
   · exact hr
   exact h
 exact .inr
def go {i:Nat} (hi:i < l.length):ord (l.take (i + 1)) = lx (l.getD i default) (ord (l.take i)):=by
 unfold ord;rw [au hi,bki];rfl
def aim (x:AS):∀ l:List AS,(lx x l).length <= l.length + 1
 | []=>by simp [lx]
 | y :: l=>by
  unfold lx;have:=aim x l;split
  · simp
  split
  · simp
  simp only [bk5];omega
def lj (l:List AS):(ord l).length <= l.length:=by
 have:∀ (l o:List AS),(l.foldl (fun o x=>lx x o) o).length <= o.length + l.length:=by
  intro l
  induction l with
  | nil=>intro o;simp
  | cons x l ih =>
   intro o;have h1:=ih (lx x o);have h2:=aim x o;simp only [blb,bk5];omega
 have h:=this l [];simpa [ord] using h
def ap0 {s:AS}:(l.any fun x=>decide (x = s)) = decide (s ∈ l):=by
 rw [blh,bke,decide_eq_true_iff];constructor
 · rintro ⟨x,hx,h⟩
   exact of_decide_eq_true h ▸ hx
 intro h;exact ⟨s,h,decide_eq_true rfl⟩
def jC:Int -> Nat -> PV:=fun n _=>.raw (.int .i64 n)
def orF (l:List Int):Int:=(l.find? fun x=>decide (x ≠ 0)).getD 0
def be3 {l:List Int} {i:Nat} (hi:i < l.length) (hI:∀ j,j < i -> decide (l.getD j default = 0) = true) (h:¬ l.getD i default = 0):orF l = l.getD i default:=by
 unfold orF
 have:l.find? (fun x=>decide (x ≠ 0)) = some (l.getD i default):=by
  rw [List.find?_eq_some_iff_getElem];refine ⟨decide_eq_true h,i,hi,by simp [List.getD,hi],fun j hj=>?_⟩;have:=of_decide_eq_true (hI j hj);rw [bjd,bjc bnl,bk8] at this;simp [this]
 rw [this];rfl
def bfg {l:List Int} (hI:∀ j,j < l.length -> decide (l.getD j default = 0) = true):orF l = 0:=by
 unfold orF
 have:l.find? (fun x=>decide (x ≠ 0)) = none:=by
  rw [bmq];intro x hx;obtain ⟨j,hj,rfl⟩:=bk4 hx;have:=of_decide_eq_true (hI j hj);rw [bjd,bjc hj,bk8] at this;simp [this]
 rw [this];rfl
def b2v (a b:AS):orF [jq (bsz a) (bsz b),jq (asI a) (asI b)] = a2r a b:=by
 unfold orF a2r;by_cases h:jq (bsz a) (bsz b) = 0
 · by_cases h2:jq (asI a) (asI b) = 0 <;> simp [h,h2]
 simp [h]
def b3f {α:Type} [Inhabited α] {cl:Bool} {c:α -> Nat -> PV} {x y:α} {f:Nat -> Nat -> PV} (h0:CoP (f 0 0) (c x 0)) (h1:CoP (f 1 0) (c y 0)):CoP (.sl 2 1 cl f) (psl 1 c [x,y]) :=
 CoP.sl rfl (.inl rfl) (fun h=>by cases h) fun i j hi hj=>by
  obtain rfl:j = 0:=by omega
  rcases (by omega:i = 0 \/ i = 1) with rfl | rfl
  · exact h0
  exact h1
def bb1 {a b:AS} (h:¬ (bsz a:Int) = bsz b):decide ((bsz a:Int) < bsz b) = bef a b:=by
 rw [blh,decide_eq_true_iff,mr];omega
def bam {a b:AS} (h:(bsz a:Int) = bsz b):decide (asI a < asI b) = bef a b:=by
 rw [blh,decide_eq_true_iff,mr];unfold asI;omega
def apw {α:Type} [Inhabited α] {wr wr':Bool} {e:TypeId} {c:α -> Nat -> PV} {l:List α} {x:α} {g:Nat -> Nat -> PV} (hg:CoP (g 0 0) (c x 0)) (hw:wr' = true -> wr = true:=by exact fun h=>h) :
 CoO (.arr wr 1 e (l.length + 1) (fe l.length (lf c l) g)) (.arr wr' 1 e (l.length + 1) (lf c (l ++ [x]))):=by
 have h:=bt (wr:=wr) (wr':=wr') (e:=e) (l:=l) (l':=l ++ [x]) (g:=g) rfl hg hw;rwa [show (l ++ [x]).length = l.length + 1 by simp] at h
def ew {α:Type} [Inhabited α] {wr wr':Bool} {s n m:Nat} {e:TypeId} {c:α -> Nat -> PV} {l l':List α} (h:l' = l) (hn:n = m) (hw:wr' = true -> wr = true:=by exact fun h=>h):CoO (.arr wr s e n (lf c l)) (.arr wr' s e m (lf c l')):=by
 subst h hn;exact ⟨hw,rfl,rfl,rfl,fun _ _ _ _=>CoP.refl _⟩
def azh {a b:AS}:decide (a2r a b < 0) = bef a b:=by
 rw [blh,decide_eq_true_iff,mr];unfold a2r jq asI;split <;> (repeat' split) <;> omega
end
end
section
open Go.Proofs
def b7v (a b:AS):a6 bo6 199 [pA a,pA b] (a7 [pB (bef a b)]):=by
 refine hpx (nt:=18) Tryz.func199 ?_;refine w_8 ?_;refine qcx vn (yn _) ?_;refine qy ?_;refine qcx vn (yn _) ?_;refine w_2 ?_;refine hcn (fun h0=>?_) (fun h0=>?_)
 · refine w_3 ?_;refine qcx vn (yn _) ?_;refine qy ?_;refine qcx vn (yn _) ?_;refine v_3 ?_;exact ⟨ccb (bb1 h0),trivial⟩
 refine v_8 ?_;exact ⟨ccb (bam h0),trivial⟩
def adk:goodFn bo6 198:=wgx Tryz.func198
def cIn (l:List AS) (s:AS):a6 bo6 198 [pP (asl l),pA s] (a7 [pB (decide (s ∈ l))]):=by
 refine hpx (nt:=18) Tryz.func198 ?_;refine ce ?_;refine c6 0 rfl fun hn=>?_;refine w_3 ?_;refine dq (ι:=Unit) kn km (fun _i=>⟨[],[]⟩) (fun _i=>decide (s ∈ l) = false) ?_ ?_
 ·
  refine w_5 ?_;refine ae (ι:=Nat) (ka 0 (ka 1 kn)) km (fun i=>⟨[(5,some (vI i))],[]⟩) (fun i=>i <= l.length /\ (∀ j,j < i -> decide (l.getD j default = s) = false)) (fun i=>l.length - i) (0) (⟨bji _,bm⟩) kk ?_;rintro i ⟨hi,hI⟩;refine w_8 ?_;refine hcd (fun h0=>?_) (fun h0=>?_)
  ·
   refine fj ?_;refine hcd (fun h1=>?_) (fun h1=>?_)
   · refine v_4 ?_;exact ⟨ccb (by rw [<- ap0];exact (ahc (p:=fun x=>decide (x = s)) (i:=i) bnl (decide_eq_true (c8.1 h1))).symm),trivial⟩
   refine w_6 ?_;refine lpz (i + 1) kk ?_;exact ⟨by show i + 1 <= _;omega,ax hI (decide_eq_false fun e=>h1 (congrArg asI e))⟩
  refine dj ?_;refine ⟨(), ?_, ?_⟩
  · rw [<- ap0];exact ahg (p:=fun x=>decide (x = s)) fun j hj=>hI j bnl
  exact ⟨trivial,trivial⟩
 rintro _ hj;refine v_4 ?_;exact ⟨ccb hj.symm,trivial⟩
def b2h (a:Int):a6 bo6 266 [pI a] (a7 [pB false]):=by
 refine hpx (nt:=6) Tryz.func266 ?_;refine ct ?_;exact hx8 rfl rfl rfl (⟨ccb bnp,trivial⟩)
def b1q (a:AS):a6 bo6 267 [pA a] (a7 [pB false]):=by
 refine hpx (nt:=6) Tryz.func267 ?_;refine ct ?_;exact hx8 rfl rfl rfl (⟨ccb bnp,trivial⟩)
def bo0 {p:Prop} (h:p:=by unfold jq;first | (rw [if_pos bnl]) | (rw [if_neg bnl,if_pos bnl]) | (rw [if_neg bnl,if_neg bnl])):p:=h
def b1j (a b:Int):a6 bo6 245 [pI a,pI b] (a7 [pI (jq a b)]):=by
 refine hpx (nt:=20) Tryz.func245 ?_;refine w_7 ?_;refine qcx (wgx Tryz.func266) (b2h _) ?_;refine w_5 ?_;refine qcx (wgx Tryz.func266) (b2h _) ?_;refine bcw ?_;refine hcd (fun h0=>?_) (fun h0=>?_)
 · refine v_4 ?_;exact ⟨cci bo0,trivial⟩
 refine w_8 ?_;refine hcd (fun h1=>?_) (fun h1=>?_)
 · refine v_4 ?_;exact ⟨cci bo0,trivial⟩
 refine v_5 ?_;exact ⟨cci bo0,trivial⟩
def bdo (a b:AS):a6 bo6 246 [pA a,pA b] (a7 [pI (jq (asI a) (asI b))]):=by
 refine hpx (nt:=20) Tryz.func246 ?_;refine w_7 ?_;refine qcx (wgx Tryz.func267) (b1q _) ?_;refine w_5 ?_;refine qcx (wgx Tryz.func267) (b1q _) ?_;refine bcw ?_;refine hcd (fun h0=>?_) (fun h0=>?_)
 · refine v_4 ?_;exact ⟨cci bo0,trivial⟩
 refine w_8 ?_;refine hcd (fun h1=>?_) (fun h1=>?_)
 · refine v_4 ?_;exact ⟨cci bo0,trivial⟩
 refine v_5 ?_;exact ⟨cci bo0,trivial⟩
def cOr (l:List Int):a6 bo6 244 [pP (psl 1 jC l)] (a7 [pI (orF l)]):=by
 refine hpx (nt:=18) Tryz.func244 ?_;refine ce ?_;refine c6 0 rfl fun hn=>?_;refine w_7 ?_;refine dq (ι:=Unit) (ka 3 kn) km (fun _i=>⟨[],[]⟩) (fun _i=>orF l = 0) ?_ ?_
 ·
  refine w_7 ?_;refine ae (ι:=Nat) (ka 3 (ka 6 (ka 7 kn))) km (fun i=>⟨[(8,some (vI i))],[]⟩) (fun i=>i <= l.length /\ (∀ j,j < i -> decide (l.getD j default = 0) = true)) (fun i=>l.length - i) (0) (⟨bji _,bm⟩) kk ?_;rintro i ⟨hi,hI⟩;refine w_5 ?_;refine hcd (fun h0=>?_) (fun h0=>?_)
  ·
   refine lb ?_;refine hcn (fun h1=>?_) (fun h1=>?_)
   · refine v_5 ?_;exact ⟨cci (be3 (i:=i) bnl hI h1).symm,trivial⟩
   refine w_5 ?_;refine lpz (i + 1) kk ?_;exact ⟨by show i + 1 <= _;omega,ax hI (decide_eq_true h1)⟩
  refine dj ?_;refine ⟨(), ?_, ?_⟩
  · exact bfg fun j hj=>hI j bnl
  exact kk
 rintro _ hj;refine v_5 ?_;exact ⟨cci hj.symm,trivial⟩
def azp (a b:AS):a6 bo6 215 [pA a,pA b] (a7 [pI (a2r a b)]):=by
 refine hpx (nt:=15) Tryz.func215 ?_;refine w_7 ?_;refine qcx ye (a7h _) ?_;refine qy ?_;refine qcx ye (a7h _) ?_;refine qcx (wgx Tryz.func245) (b1j _ _) ?_;refine w_2 ?_;refine qcx (wgx Tryz.func246) (bdo _ _) ?_;refine m9 0 ?_;refine rc rfl rfl rfl rfl rfl rfl (wgx Tryz.func244) (cOr [jq (bsz a) (bsz b),jq (asI a) (asI b)]) (⟨CoC.one (b3f (CoP.refl _) (CoP.refl _)),trivial⟩) rfl rfl ?_;refine v_2 ?_;exact ⟨cci (b2v a b),trivial⟩
def apj (l:List AS) (hl:l.length <= 8589934592):a6 bo6 144 [pP (asl l)] (a7 [pP (asl (ord l))]):=by
 refine hpx (nt:=61) Tryz.func144 ?_;refine ce ?_;refine c6 0 rfl fun hn=>?_;refine j9 ?_;refine cb 3 900 true 1 46 (lf sC []) bns rfl (CoP.sl rfl (.inr rfl) (fun h=>h) (fun i j hi _=>absurd hi (bjh i))) (.inr rfl) rfl ?_;refine bg (ka 0 kn) km (fun i=>⟨[(3,some (.v (.one (.ref 900 (ord (l.take i)).length)))),(4,some (vI i))],[(900,some (.arr true 1 46 (ord (l.take i)).length (lf sC (ord (l.take i)))))]⟩) l.length kk ?_;rintro i hi;have hlen:=lj (l.take i);rw [bjn] at hlen;refine w_8 ?_;refine hcd (fun h0=>?_) (fun h0=>?_)
 ·
  refine ct ?_;refine qcx adk (cIn (ord (l.take i)) (l.getD i default)) ?_;refine c5 ?_;refine hcb (fun h1=>?_) (fun h1=>?_)
  ·
   have hin:=a15 h1;refine w_6 ?_
   first | (refine ⟨i + 1, ?_, ?_, ?_⟩
            · show i + 1 <= _;omega
            · first | omega | (dsimp only;omega)
            exact ⟨⟨⟨_,rfl,(bz (by rw [go bnl,vj (j5 _) hin]))⟩,tt⟩,⟨⟨_,rfl,(bq (by rw [go bnl,vj (j5 _) hin]))⟩,trivial⟩⟩)
         | (refine ⟨i + 1, ?_, ?_, ?_⟩
            · show i + 1 <= _;omega
            · first | omega | (dsimp only;omega)
            exact ⟨⟨⟨_,rfl,(aeg (by rw [go bnl,<- hfin,lv hk]))⟩,tt⟩,⟨⟨_,rfl,(ew (by rw [go bnl,<- hfin]) (by rw [go bnl,<- hfin,lv hk]))⟩,trivial⟩⟩)
  have hin:=a3t h1;refine w_8 ?_;refine m9 0 ?_;refine r9 1 true ?_;refine c7 ?_;refine ae (ι:=Nat) (ka 0 (ka 3 (ka 4 kn))) km (fun k=>⟨[(5,some (vI k))],[(900,some (.arr true 1 46 ((ord (l.take i)).length + 1) (lf sC (lc (ord (l.take i)) k (l.getD i default)))))]⟩) (fun k=>k <= (ord (l.take i)).length /\ ∀ j,k <= j -> j < (ord (l.take i)).length -> bef (l.getD i default) ((ord (l.take i)).getD j default) = true) (fun k=>k) ((ord (l.take i)).length) (⟨bjg _,fun j h1 h2=>by omega⟩) ⟨tt,⟨⟨_,rfl,(by rw [ayg];exact apw (CoP.refl _))⟩,trivial⟩⟩ ?_;rintro k ⟨hk,hK⟩;refine w_6 ?_;refine ah rfl rfl (fun r2=>?_) (fun r2=>?_)
  ·
   have h2:=tz1 r2;(iterate 9 refine qy ?_ (hg:=(gtt r2)));refine qcx (wgx Tryz.func199) (b7v _ _) ?_ (hg:=(gtt r2));refine w_3 ?_;refine ak _ rfl (fun r3=>?_) (fun r3=>?_)
   ·
    have h3:=bn r2 r3;have hb:=axe bnl hk h3 bnl bnl;refine w_3 ?_;refine adj (E:=fz) f5 wk [0,1,5,6,7,8,9,10,11,12,13,14,15,2,3,4,16,17] ?_;refine ba8 ?_;refine ⟨k - 1, ?_, ?_, ?_⟩
    · refine ⟨by omega,fun j h1 h2=>?_⟩
      by_cases hj:j = k - 1
      · rw [hj];exact hb
      exact hK j bnl h2
    · show k - 1 < k
      omega
    exact ⟨tt,⟨⟨_,rfl,(aua bnl hk bnl bnl rfl)⟩,trivial⟩⟩
   have h3:=bn r2 r3;have hb:=axe bnl hk h3 bnl bnl;have hfin:=agn (j5 _) hin hk hK (.inr (by rw [hb];decide));refine w_6 ?_
   first | (refine ⟨i + 1, ?_, ?_, ?_⟩
            · show i + 1 <= _;omega
            · first | omega | (dsimp only;omega)
            exact ⟨⟨⟨_,rfl,(bz (by rw [go bnl,vj (j5 _) hin]))⟩,tt⟩,⟨⟨_,rfl,(bq (by rw [go bnl,vj (j5 _) hin]))⟩,trivial⟩⟩)
         | (refine ⟨i + 1, ?_, ?_, ?_⟩
            · show i + 1 <= _;omega
            · first | omega | (dsimp only;omega)
            exact ⟨⟨⟨_,rfl,(aeg (by rw [go bnl,<- hfin,lv hk]))⟩,tt⟩,⟨⟨_,rfl,(ew (by rw [go bnl,<- hfin]) (by rw [go bnl,<- hfin,lv hk]))⟩,trivial⟩⟩)
  have h2:=tz2 r2;have hfin:=agn (j5 _) hin hk hK (.inl bnl);(iterate 10 refine k9 (gft r2) ?_);refine rq rfl rfl rfl rfl rfl ?_ (hp:=r2);refine w_9 ?_
  first | (refine ⟨i + 1, ?_, ?_, ?_⟩
           · show i + 1 <= _;omega
           · first | omega | (dsimp only;omega)
           exact ⟨⟨⟨_,rfl,(bz (by rw [go bnl,vj (j5 _) hin]))⟩,tt⟩,⟨⟨_,rfl,(bq (by rw [go bnl,vj (j5 _) hin]))⟩,trivial⟩⟩)
        | (refine ⟨i + 1, ?_, ?_, ?_⟩
           · show i + 1 <= _;omega
           · first | omega | (dsimp only;omega)
           exact ⟨⟨⟨_,rfl,(aeg (by rw [go bnl,<- hfin,lv hk]))⟩,tt⟩,⟨⟨_,rfl,(ew (by rw [go bnl,<- hfin]) (by rw [go bnl,<- hfin,lv hk]))⟩,trivial⟩⟩)
 obtain rfl:i = l.length:=by omega
 refine w_6 ?_;refine aq 2 rfl rfl rfl ?_;exact hx8 rfl rfl rfl (⟨CoC.one (CoP.of_eq (by rw [bjk];rfl)),trivial⟩)
end
end Go.Hx

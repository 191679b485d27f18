/- A part of the proof: LyTz TzW Cs7 Cs8 V6 Cs9 V7. -/
import Derived.Shelf.Lays7
import Derived.Shelf.Spec.TrailingZeros
import Derived.Test.YtkkenjdfbojdlaaGreatDoorProg
import Derived.Test.YtkkenjdfbojdlaaGreatDoorIx15
set_option linter.all false
set_option maxRecDepth 100000
set_option maxHeartbeats 1000000
section
namespace Go.Proofs
open Go.Shelf
def Tryz.lays28_ren:Go.Shelf.Ren:=⟨fun | 28=>114 | n=>n,fun | 27=>43 | 3=>3 | 4=>4 | 25=>177 | 53=>176 | 0=>0 | 5=>5 | n=>n,fun | 0=>0 | n=>n⟩
theorem Tryz.lays28:Go.Proofs.Lays7.n28 Tryz.prog Tryz.lays28_ren:={
 mixed:=by kernel_rfl
 f28:=Tryz.func114.trans (congrArg some (by kernel_rfl))
 t0:=Tryz.underlying0
 a0:=Tryz.isAgg0
 z0:=Tryz.sizeOf0
 v0:=Tryz.zeroValue0
 i0:=by kernel_rfl
 t3:=Tryz.underlying3
 a3:=Tryz.isAgg3
 z3:=Tryz.sizeOf3
 v3:=Tryz.zeroValue3
 i3:=by kernel_rfl
 t4:=Tryz.underlying4
 a4:=Tryz.isAgg4
 z4:=Tryz.sizeOf4
 v4:=Tryz.zeroValue4
 i4:=by kernel_rfl
 t5:=Tryz.underlying5
 a5:=Tryz.isAgg5
 z5:=Tryz.sizeOf5
 v5:=Tryz.zeroValue5
 i5:=by kernel_rfl
 t25:=Tryz.underlying177
 a25:=Tryz.isAgg177
 z25:=Tryz.sizeOf177
 v25:=Tryz.zeroValue177
 i25:=by kernel_rfl
 t27:=Tryz.underlying43
 a27:=Tryz.isAgg43
 z27:=Tryz.sizeOf43
 v27:=Tryz.zeroValue43
 i27:=by kernel_rfl
 t53:=Tryz.underlying176
 a53:=Tryz.isAgg176
 z53:=Tryz.sizeOf176
 v53:=Tryz.zeroValue176
 i53:=by kernel_rfl
 g0:=by kernel_rfl }
end Go.Proofs
end
namespace Go.Hx
section
open Go.Proofs Go.RowKit
def b9y:goodFn brj 114:=⟨Tryz.f114,Tryz.func114,by kernel_rfl,by kernel_rfl⟩
def biz:∀ j,j < Lib.deBruijn32tab.length -> zc 0 j = some (.int .u8 (Lib.deBruijn32tab.getD j 0)):=fun j hj=>by
 unfold zc;rw [show wj 0 = Lib.deBruijn32tab.map (fun k:Nat=>Value.int .u8 (k:Int)) from rfl,bnc,bml hj,bmm,bml hj];rfl
def cTz (s:AS):a6 brj 114 [pA s] (a8 [pI (j2 s)]):=by
 intro w imm us htab him hus
 match us,hus with
 | [u],⟨hu,_⟩ =>
  obtain ⟨rfl,_⟩:=hu
  have h:=Any7.bits_TrailingZeros32 Tryz.lays28 s.toNat s.isLt w fun _ j hj=>by
   have hc:=htab 0 j _ (biz j hj);unfold jw at hc
   cases hb:imm 0 with
   | none=>rw [hb] at hc;cases hc
   | some ob =>
    rw [hb] at hc;have hw:=him 0 ob hb;cases ob <;> simp at hc;show w.cell? ⟨0,j,none⟩ = _;simp [World.cell?,hw,hc]
  refine h.mono ?_;rintro e w' ⟨rfl,rfl⟩;exact ⟨_,imm,rfl,⟨rfl,rfl⟩,fun _ _=>rfl,him,Below.refl _ _⟩
 | [],h=>exact h.elim
 | _ :: _ :: _,⟨_,h⟩=>exact h.elim
end
section
def ag2 {id n m:Nat} (h:n = m):CoR (.v (.one (.ref id n))) (.v (.one (.ref id m))):=by subst h;exact CoR.refl _
section
variable {α:Type} [Inhabited α]
def a8q {wr wr':Bool} {s m:Nat} {e:TypeId} {c:α -> Nat -> PV} {l l':List α} {x:α} {g:Nat -> Nat -> PV} (h:l' = l ++ [x]) (hg:∀ j,j < s -> CoP (g 0 j) (c x j)) (hm:m = 1:=by rfl) (hw:wr' = true -> wr = true:=by exact fun h=>h) :
 CoO (.arr wr s e (l.length + m) (fm l.length (lf c l) g)) (.arr wr' s e l'.length (lf c l')):=by
 subst h;refine ad4 [x] hw hm fun i j hi hj=>?_;obtain rfl:i = 0:=by simp at hi;exact hi
 exact hg j hj
def bh {wr wr':Bool} {s:Nat} {e:TypeId} {c:α -> Nat -> PV} {l l':List α} (h:l' = l) (hw:wr' = true -> wr = true:=by exact fun h=>h):CoO (.arr wr s e l.length (lf c l)) (.arr wr' s e l'.length (lf c l')):=by
 subst h;exact ⟨hw,rfl,rfl,rfl,fun _ _ _ _=>CoP.refl _⟩
end
section
variable {α:Type} [Inhabited α]
section
variable {l l':List α}
def bf {id:Nat} {x:α} (h:l' = l ++ [x]):CoR (.v (.one (.ref id (l.length + 1)))) (.v (.one (.ref id l'.length))):=by subst h;rw [bmo];exact CoR.refl _
def bj {id:Nat} (h:l' = l):CoR (.v (.one (.ref id l.length))) (.v (.one (.ref id l'.length))):=by subst h;exact CoR.refl _
def bg {wr wr':Bool} {e:TypeId} {c:α -> Nat -> PV} {x:α} {g:Nat -> Nat -> PV} (h:l' = l ++ [x]) (hg:CoP (g 0 0) (c x 0)) (hw:wr' = true -> wr = true:=by exact fun h=>h):
 CoO (.arr wr 1 e (l.length + 1) (fm l.length (lf c l) g)) (.arr wr' 1 e l'.length (lf c l')) :=
 a8q h (fun j hj=>by
  obtain rfl:j = 0:=by omega
  exact hg) rfl hw
def jp {wr wr':Bool} {e:TypeId} {c:α -> Nat -> PV} {x:α} {g:Nat -> Nat -> PV} (h:l' = l ++ [x]) (h0:CoP (g 0 0) (c x 0)) (h1:CoP (g 0 1) (c x 1)) (hw:wr' = true -> wr = true:=by exact fun h=>h):
 CoO (.arr wr 2 e (l.length + 1) (fm l.length (lf c l) g)) (.arr wr' 2 e l'.length (lf c l')) :=
 a8q h (fun j hj=>by
  rcases (by omega:j = 0 \/ j = 1) with rfl | rfl
  · exact h0
  exact h1) rfl hw
end
end
def eo (s:AS) (i:Nat):List Nat:=(List.range i).filter fun k=>s.getLsbD k
def nk {s:AS} {i:Nat} (hi:i < 32) (h:d9 s (i:Int) = true):eo s (i + 1) = eo s i ++ [i]:=by
 rw [gm hi] at h;unfold eo;rw [bod,bnv];simp [h]
def qu {s:AS} {i:Nat} (hi:i < 32) (h:d9 s (i:Int) = false):eo s (i + 1) = eo s i:=by
 rw [gm hi] at h;unfold eo;rw [bod,bnv];simp [h]
def ahw (s:AS) (i:Nat):(eo s i).length <= i:=by
 unfold eo;have:=boj (fun k=>s.getLsbD k) (List.range i);rwa [bp3] at this
end
section
def sa (b:Nat):Nat:=(List.range 8).countP fun i=>b.testBit i
def tk (p:Nat -> Bool) (a b:Nat):(List.range (a + b)).countP p = (List.range a).countP p + (List.range b).countP fun i=>p (a + i):=by
 rw [List.range_add,bqn,List.countP_map];rfl
def b3p {n k j:Nat} (hj:j < 8):(n / 2 ^ k % 256).testBit j = n.testBit (k + j):=by
 rw [show (256:Nat) = 2 ^ 8 from rfl,Nat.testBit_mod_two_pow,Nat.testBit_div_two_pow,Nat.add_comm];simp [hj]
def bgv (n:Nat) (hn:n < 2 ^ 32):(List.range (8 + (8 + (8 + 8)))).countP (fun i=>n.testBit i) = sa (n / 2 ^ 24) + sa (n / 2 ^ 16 % 256) + sa (n / 2 ^ 8 % 256) + sa (n % 256):=by
 have h:∀ k,(List.range 8).countP (fun i=>n.testBit (k + i)) = sa (n / 2 ^ k % 256):=fun k=>by
  unfold sa;apply List.countP_congr;intro j hj;rw [b3p (bn3.1 hj)]
 have h3:n / 2 ^ 24 % 256 = n / 2 ^ 24:=bpi bqx;have h0:=h 0;simp only [bnk,Nat.pow_zero,Nat.div_one] at h0;rw [tk,tk,tk,h0];have e2:=h 8;have e3:=h 16;have e4:=h 24;rw [h3] at e4;simp only [<- bot] at *;simp only [Nat.reduceAdd] at *;rw [e2,e3,e4];omega
def ayw (s:AS):bsz s = sa (s.toNat / 2 ^ 24) + sa (s.toNat / 2 ^ 16 % 256) + sa (s.toNat / 2 ^ 8 % 256) + sa (s.toNat % 256):=bgv s.toNat s.isLt
def a91 (b:Nat):sa b <= 8:=by
 have:=List.countP_le_length (p:=fun i=>b.testBit i) (l:=List.range 8);rwa [bp3] at this
def b4u (s:AS) (k:Nat) (hk:k <= 32):((asI s).fdiv (2 ^ (min k 32))).toNat = s.toNat / 2 ^ k:=by
 rw [y9];show (((s >>> k).toNat:Nat):Int).toNat = _;rw [bmz,bqd,bq8]
def ave (s:AS) (k:Nat) (hk:k <= 32):(az .and .u32 ((asI s).fdiv (2 ^ (min k 32))) 255).toNat = s.toNat / 2 ^ k % 256:=by
 rw [y9,show (255:Int) = asI 255 from rfl,fv];show (((s >>> k &&& 255).toNat:Nat):Int).toNat = _;rw [bmz,bpk,bqd,bq8,show (255:AS).toNat = 2 ^ 8 - 1 from rfl,Nat.and_two_pow_sub_one_eq_mod]
def b4k (s:AS):(az .and .u32 (asI s) 255).toNat = s.toNat % 256:=by
 rw [show (255:Int) = asI 255 from rfl,fv];show (((s &&& 255).toNat:Nat):Int).toNat = _;rw [bmz,bpk,show (255:AS).toNat = 2 ^ 8 - 1 from rfl,Nat.and_two_pow_sub_one_eq_mod]
def awl (a b:Int):0 <= az .and .u32 a b:=by
 show 0 <= IntKind.wrap .u32 _;rw [an0 (boz _) (by have:=(BitVec.ofInt 32 a &&& BitVec.ofInt 32 b).isLt;show ((BitVec.ofInt 32 a &&& BitVec.ofInt 32 b).toNat:Int) < _;omega)];exact boz _
def bau (s:AS) (k:Nat):0 <= (asI s).fdiv (2 ^ (min k 32)):=by rw [y9];exact a6x _
section
variable {X:ByteArray}
def bjt (s:AS) (hX:(256:Int) <= X.size):0 <= (asI s).fdiv (2 ^ (min 24 32)) /\ (asI s).fdiv (2 ^ (min 24 32)) < X.size:=by
 have h1:=bau s 24;have h2:=b4u s 24 bqx;have:=s.isLt;exact ⟨h1,by omega⟩
def ixM (s:AS) (k:Nat) (hk:k <= 32) (hX:(256:Int) <= X.size):0 <= az .and .u32 ((asI s).fdiv (2 ^ (min k 32))) 255 /\ az .and .u32 ((asI s).fdiv (2 ^ (min k 32))) 255 < X.size:=by
 have h1:=awl ((asI s).fdiv (2 ^ (min k 32))) 255;have h2:=ave s k hk;exact ⟨h1,by omega⟩
def ixL (s:AS) (hX:(256:Int) <= X.size):0 <= az .and .u32 (asI s) 255 /\ az .and .u32 (asI s) 255 < X.size:=by
 have h1:=awl (asI s) 255;have h2:=b4k s;exact ⟨h1,by omega⟩
def aha {n:Int} (h0:0 <= n) (h1:n < 256):IntKind.wrap .u8 n = n:=wc (by simp only [inR,n3,oc];omega)
def azm {n:Int} (h0:0 <= n) (h1:n < 256):IntKind.wrap .i64 n = n:=wc (by simp only [inR,n3,oc];omega)
def bet {s:AS} {i0 i1 i2 i3:Nat} (hX:∀ b,b < 256 -> lv X b = (sa b:Int)) (h0:i0 = s.toNat / 2 ^ 24) (h1:i1 = s.toNat / 2 ^ 16 % 256) (h2:i2 = s.toNat / 2 ^ 8 % 256) (h3:i3 = s.toNat % 256):
 IntKind.wrap .i64 (IntKind.wrap .u8 (IntKind.wrap .u8 (IntKind.wrap .u8 (lv X i0 + lv X i1) + lv X i2) + lv X i3)) = (bsz s:Int):=by
 have:=s.isLt;subst h0 h1 h2 h3;rw [hX _ bqx,hX _ bqx,hX _ bqx,hX _ bqx];have a0:=a91 (s.toNat / 2 ^ 24);have a1:=a91 (s.toNat / 2 ^ 16 % 256);have a2:=a91 (s.toNat / 2 ^ 8 % 256);have a3:=a91 (s.toNat % 256);rw [ayw];generalize sa (s.toNat / 2 ^ 24) = c0 at *;generalize sa (s.toNat / 2 ^ 16 % 256) = c1 at *;generalize sa (s.toNat / 2 ^ 8 % 256) = c2 at *;generalize sa (s.toNat % 256) = c3 at *;rw [aha (n:=c0 + c1) bqx bqx,aha (n:=c0 + c1 + c2) bqx bqx,aha (n:=c0 + c1 + c2 + c3) bqx bqx,azm (n:=c0 + c1 + c2 + c3) bqx bqx];omega
def aec (s:AS):bsz s <= 32:=by
 have:=List.countP_le_length (p:=fun i=>s.getLsbD i) (l:=List.range 32);rwa [bp3] at this
def awe {s0:AS} (x:List Nat × AS) (h:x.1 ++ ak x.2 = ak s0):x.1.length <= 32:=by
 have h1:=congrArg List.length h;rw [bmo,<- uq s0] at h1;have:=aec s0;omega
def ak4 {s:AS} (h:s ≠ 0):asI s - 1 = asI (s - 1):=by
 have h0:s.toNat ≠ 0:=fun e=>h (bnp e);have:=s.isLt
 have e1:(s - 1).toNat = s.toNat - 1:=by
  rw [BitVec.toNat_sub];show (2 ^ 32 - 1 + s.toNat) % 2 ^ 32 = _;omega
 unfold asI;rw [e1];omega
def a0f {s:AS} (h:s ≠ 0):(ik true .u32 (asI s - 1)).1:=by
 rw [ak4 h];have h1:=a6x (s - 1);have h2:=adx (s - 1);simp only [ik,inR,n3,oc];omega
def ap6 {s:AS} (h:s ≠ 0):az .and .u32 (asI s) (asI s - 1) = asI (s &&& (s - 1)):=by rw [ak4 h,fv]
def kz (a b:Int):Int:=if a < b then -1 else if b < a then 1 else 0
def a5h (a b:AS):Int:=if kz (bsz a) (bsz b) = 0 then kz (asI a) (asI b) else kz (bsz a) (bsz b)
end
end
section
open Go.Proofs
def bho (s:AS):a6 brj 218 [pA s] (a8 [pP (il (ak s))]):=by
 refine hpx (nt:=17) Tryz.func218 ?_;refine pw ?_;refine bw 3 900 true 1 3 (lf iC []) br2 rfl (CoP.sl rfl (.inr rfl) (fun h=>h) (fun i j hi _=>absurd hi (bmq i))) (.inr rfl) rfl ?_;refine b7 (ka 0 kn) km (fun i=>⟨[(3,some (.v (.one (.ref 900 (eo s i).length)))),(4,some (vI i))],[(900,some (.arr true 1 3 (eo s i).length (lf iC (eo s i))))]⟩) 32 kk ?_;rintro i hi;have hlen:=ahw s i;refine w_6 ?_;refine hcd (fun h0=>?_) (fun h0=>?_)
 ·
  refine w_7 ?_;refine qcx oq (a2g s i) ?_;refine c6 ?_;refine hcb (fun h1=>?_) (fun h1=>?_)
  ·
   refine w_3 ?_;refine m9 0 ?_;refine r9 1 true ?_;refine w_7 ?_
   first | (refine ⟨i + 1, ?_, ?_, ?_⟩
            · show i + 1 <= _;omega
            · first | omega | (dsimp only;omega)
            exact ⟨⟨⟨_,rfl,(bf (nk bqx bqy))⟩,tt⟩,⟨⟨_,rfl,(bg (nk bqx bqy) (CoP.refl _))⟩,trivial⟩⟩)
         | (refine ⟨i + 1, ?_, ?_, ?_⟩
            · show i + 1 <= _;omega
            · first | omega | (dsimp only;omega)
            exact ⟨⟨⟨_,rfl,(bj (qu bqx bqy))⟩,tt⟩,⟨⟨_,rfl,(bh (qu bqx bqy))⟩,trivial⟩⟩)
  refine w_6 ?_
  first | (refine ⟨i + 1, ?_, ?_, ?_⟩
           · show i + 1 <= _;omega
           · first | omega | (dsimp only;omega)
           exact ⟨⟨⟨_,rfl,(bf (nk bqx bqy))⟩,tt⟩,⟨⟨_,rfl,(bg (nk bqx bqy) (CoP.refl _))⟩,trivial⟩⟩)
        | (refine ⟨i + 1, ?_, ?_, ?_⟩
           · show i + 1 <= _;omega
           · first | omega | (dsimp only;omega)
           exact ⟨⟨⟨_,rfl,(bj (qu bqx bqy))⟩,tt⟩,⟨⟨_,rfl,(bh (qu bqx bqy))⟩,trivial⟩⟩)
 obtain rfl:i = 32:=by omega
 refine w_6 ?_;refine al 2 rfl rfl rfl ?_;exact hx8 rfl rfl rfl (⟨CoC.one (CoP.refl _),trivial⟩)
def ws:goodFn brj 172:=wgx Tryz.func172
def zu (s:AS):a6 brj 172 [pA s] (a8 [pI (bsz s)]):=by
 refine hpx (nt:=6) Tryz.func172 ?_;refine w_7 ?_;refine qcx (wgx Tryz.func218) (bho s) ?_;refine v_3 ?_;exact ⟨cci (by rw [uq]),trivial⟩
def a3q:goodFn brj 55:=wgx Tryz.func55
def afj (s0:AS):a6 brj 55 [pA s0] (a8 [pP (il (ak s0))]):=by
 refine hpx (nt:=16) Tryz.func55 ?_;refine bz ?_;refine bw 3 900 true 1 3 (lf iC []) br2 rfl (CoP.sl rfl (.inr rfl) (fun h=>h) (fun i j hi _=>absurd hi (bmq i))) (.inr rfl) rfl ?_;refine ae (ι:=List Nat × AS) kn km (fun x=>⟨[(3,some (.v (.one (.ref 900 x.1.length)))),(0,some (vA x.2))],[(900,some (.arr true 1 3 x.1.length (lf iC x.1)))]⟩) (fun x=>x.1 ++ ak x.2 = ak s0) (fun x=>x.2.toNat) (([],s0)) (rfl) kk ?_;rintro x hx;have hlen:=awe x hx;refine w_6 ?_;refine hcn (fun h0=>?_) (fun h0=>?_)
 ·
  have hne:x.2 ≠ 0:=fun e=>h0 (by rw [e];rfl);refine w_6 ?_;refine qcx b9y (cTz x.2) ?_;refine m9 0 ?_;refine r9 1 true ?_;refine w_5 ?_;refine rq rfl rfl rfl rfl rfl ?_ (hp:=(a0f hne));refine w_3 ?_;refine ⟨(x.1 ++ [j2 x.2],x.2 &&& (x.2 - 1)), ?_, ?_, ?_⟩
  · show (x.1 ++ [j2 x.2]) ++ ak (x.2 &&& (x.2 - 1)) = ak s0
    rw [<- hx,azt hne,bnx];rfl
  · exact b2h hne
  exact ⟨⟨⟨_,rfl,(bf rfl)⟩,⟨_,rfl,(bn (ap6 hne))⟩,trivial⟩,⟨⟨_,rfl,(bg rfl (CoP.refl _))⟩,trivial⟩⟩
 have hz:x.2 = 0:=c7.1 h0;refine w_6 ?_;refine al 2 rfl rfl rfl ?_;exact hx8 rfl rfl rfl (⟨CoC.one (CoP.of_eq (by rw [hz,adi,bnn] at hx;rw [<- hx];rfl)),trivial⟩)
def bir (s:AS):a6 brj 213 [pA s] (a8 [pI (bsz s)]):=by
 refine hpx (nt:=21) Tryz.func213 ?_;refine w_8 ?_;refine rq rfl rfl rfl rfl rfl ?_ (hp:=(bjt s (by decide +kernel)));refine w_3 ?_;refine rq rfl rfl rfl rfl rfl ?_ (hp:=(ixM s 16 bqx (by decide +kernel)));refine rqw rfl rfl rfl rfl rfl ?_;refine w_3 ?_;refine rq rfl rfl rfl rfl rfl ?_ (hp:=(ixM s 8 bqx (by decide +kernel)));refine rqw rfl rfl rfl rfl rfl ?_;refine w_2 ?_;refine rq rfl rfl rfl rfl rfl ?_ (hp:=(ixL s (by decide +kernel)));(iterate 2 refine rqw rfl rfl rfl rfl rfl ?_);refine v_3 ?_;exact ⟨cci (bet (by decide +kernel) (b4u s 24 bqx) (ave s 16 bqx) (ave s 8 bqx) (b4k s)),trivial⟩
def zo:goodFn brj 168:=wgx Tryz.func168
def a9w (s:AS):a6 brj 168 [pA s] (a8 [pI (bsz s)]):=by
 refine hpx (nt:=5) Tryz.func168 ?_;refine w_7 ?_;refine qcx (wgx Tryz.func213) (bir s) ?_;refine v_2 ?_;exact CoL.refl _
end
section
def mc (l:List AS) (k:Nat) (r:AS):List AS:=l.take k ++ r :: l.drop k
section
variable {k:Nat} {l:List AS} {r:AS}
def n5 (h:k <= l.length):(mc l k r).length = l.length + 1:=by simp [mc];omega
def b3v:mc l l.length r = l ++ [r]:=by simp [mc]
def a4v {i:Nat} (h:k <= l.length):(mc l k r)[i]? = if i < k then l[i]? else if i = k then some r else l[i - 1]?:=by
 simp only [mc];by_cases h1:i < k
 · rw [if_pos h1,boc br8,bnl,if_pos h1]
 rw [if_neg h1,bo8 br8,bmv,bok h];by_cases h2:i = k
 · subst h2;simp
 rw [if_neg h2];obtain ⟨d,rfl⟩:∃ d,i = k + 1 + d:=⟨i - k - 1,by omega⟩;rw [show k + 1 + d - k = d + 1 by omega,List.getElem?_cons_succ,boy];congr 1;omega
def azs (h:k <= l.length):(mc l k r).getD k default = r:=by
 rw [bmm,a4v h,if_neg bqx,if_pos rfl];rfl
def ahp (h0:0 < k) (h:k <= l.length):(mc l k r).getD (k - 1) default = l.getD (k - 1) default:=by
 rw [bmm,a4v h,if_pos bqx,bmm]
def ay4 (h0:0 < k) (h:k <= l.length):((mc l k r).set k (l.getD (k - 1) default)).set (k - 1) r = mc l (k - 1) r:=by
 apply bpa;intro i;rw [a4v bqx,bqs,bqs,bp0,n5 h,a4v h];by_cases h1:k - 1 = i
 · subst h1
   rw [if_pos rfl,if_pos bqx,if_neg bqx,if_pos rfl]
 rw [if_neg h1];by_cases h2:k = i
 · subst h2
   rw [if_pos rfl,if_pos bqx,if_neg bqx,if_neg bqx,List.getD,bml bqx];rfl
 rw [if_neg h2];by_cases h3:i < k
 · rw [if_pos h3,if_pos bqx]
 rw [if_neg h3,if_neg bqx,if_neg bqx,if_neg bqx]
def ax7 {k' m':Nat} (h0:0 < k) (hk:k <= l.length) (hk':k' = k) (hm':m' = k - 1) {n:Nat} (hn:n = l.length + 1) {e:TypeId}:
 CoO (.arr true 1 e n (eu (eu (lf sC (mc l k r)) k' 0 [lf sC (mc l k r) m' 0]) m' 0 [lf sC (mc l k r) k' 0])) (.arr true 1 e n (lf sC (mc l (k - 1) r))):=by
 subst hk' hm';rw [<- ay4 h0 hk];refine ar5 (fun h=>h) (by rw [n5 hk];exact hn) (by rw [n5 hk];omega) (by rw [n5 hk];omega) rfl rfl (fun j hj=>?_) (fun j hj=>?_)
 · obtain rfl:j = 0:=by omega
   exact CoP.of_eq (by show sC ((mc l k' r).getD (k' - 1) default) 0 = _;rw [ahp h0 hk])
 obtain rfl:j = 0:=by omega
 exact CoP.of_eq (by show sC ((mc l k' r).getD k' default) 0 = _;rw [azs hk])
def ay5 {k' m':Nat} {b:Bool} (h0:0 < k) (hk:k <= l.length) (h:bef ((mc l k r).getD k' default) ((mc l k r).getD m' default) = b) (hk':k' = k) (hm':m' = k - 1):bef r (l.getD (k - 1) default) = b:=by
 subst hk' hm';rwa [azs hk,ahp h0 hk] at h
def abb {j:Nat} (h:j < l.length):l.getD j default ∈ l:=by
 rw [bmm,bml h];exact bnb h
def aiq (hs:qb l) (hr:r ∉ l) (hk:k <= l.length) (h1:∀ j,k <= j -> j < l.length -> bef r (l.getD j default) = true) (h2:k = 0 \/ ¬ bef r (l.getD (k - 1) default) = true):mc l k r = mw r l:=by
 refine oo ?_ (a12 hs) fun z=>?_
 · unfold qb mc
   rw [bpr];refine ⟨hs.sublist (List.take_sublist _ _),bnu.2 ⟨fun z hz=>?_,hs.sublist (List.drop_sublist _ _)⟩,fun y hy z hz=>?_⟩
   · obtain ⟨j,hj,rfl⟩:=bng hz
     rw [bog] at hj;have:=h1 (k + j) bqx bqx;rwa [bmm,bml bqx,bnf,<- List.getElem_drop] at this
   have hyr:bef y r = true:=by
    obtain ⟨j,hj,rfl⟩:=bng hy;rw [bmv] at hj
    rcases h2 with h2 | h2
    · omega
    have hk1:k - 1 < l.length:=by omega
    have hlast:bef (l.getD (k - 1) default) r = true:=by
     rcases a95 (a:=r) (b:=l.getD (k - 1) default) (fun e=>hr (e ▸ abb hk1)) with h | h
     · exact absurd h h2
     exact h
    rw [List.getElem_take];by_cases hjk:j = k - 1
    · subst hjk
      rwa [bmm,bml hk1,bnf] at hlast
    refine ul ?_ hlast;rw [bmm,bml hk1,bnf];exact boq.1 hs j (k - 1) bqx hk1 bqx
   rcases bn0.1 hz with rfl | hz
   · exact hyr
   have h3:bef r z = true:=by
    obtain ⟨j,hj,rfl⟩:=bng hz;rw [bog] at hj;have:=h1 (k + j) bqx bqx;rwa [bmm,bml bqx,bnf,<- List.getElem_drop] at this
   exact ul hyr h3
 rw [a0r];unfold mc;rw [bn1,bn0];constructor
 · rintro (h | h | h)
   · exact .inr (bos h)
   · exact .inl h
   exact .inr (bq7 h)
 rintro (h | h)
 · exact .inr (.inl h)
 rw [<- bq2 k l,bn1] at h
 rcases h with h | h
 · exact .inl h
 exact .inr (.inr h)
def wt (hs:qb l) (hr:r ∈ l):mw r l = l:=oo (a12 hs) hs fun z=>by
 rw [a0r];constructor
 · rintro (rfl | h)
   · exact hr
   exact h
 exact .inr
def io {i:Nat} (hi:i < l.length):ord (l.take (i + 1)) = mw (l.getD i default) (ord (l.take i)):=by
 unfold ord;rw [aq hi,bo0];rfl
def ap8 (x:AS):∀ l:List AS,(mw x l).length <= l.length + 1
 | []=>by simp [mw]
 | y :: l=>by
  unfold mw;have:=ap8 x l;split
  · simp
  split
  · simp
  simp only [bn9];omega
def ke (l:List AS):(ord l).length <= l.length:=by
 have:∀ (l o:List AS),(l.foldl (fun o x=>mw x o) o).length <= o.length + l.length:=by
  intro l
  induction l with
  | nil=>intro o;simp
  | cons x l ih =>
   intro o;have h1:=ih (mw x o);have h2:=ap8 x o;simp only [bor,bn9];omega
 have h:=this l [];simpa [ord] using h
def asi {s:AS}:(l.any fun x=>decide (x = s)) = decide (s ∈ l):=by
 rw [bom,bno,decide_eq_true_iff];constructor
 · rintro ⟨x,hx,h⟩
   exact of_decide_eq_true h ▸ hx
 intro h;exact ⟨s,h,decide_eq_true rfl⟩
def jC:Int -> Nat -> PV:=fun n _=>.raw (.int .i64 n)
def orF (l:List Int):Int:=(l.find? fun x=>decide (x ≠ 0)).getD 0
def bhr {l:List Int} {i:Nat} (hi:i < l.length) (hI:∀ j,j < i -> decide (l.getD j default = 0) = true) (h:¬ l.getD i default = 0):orF l = l.getD i default:=by
 unfold orF
 have:l.find? (fun x=>decide (x ≠ 0)) = some (l.getD i default):=by
  rw [List.find?_eq_some_iff_getElem];refine ⟨decide_eq_true h,i,hi,by simp [List.getD,hi],fun j hj=>?_⟩;have:=of_decide_eq_true (hI j hj);rw [bmm,bml bqx,bnf] at this;simp [this]
 rw [this];rfl
def bjj {l:List Int} (hI:∀ j,j < l.length -> decide (l.getD j default = 0) = true):orF l = 0:=by
 unfold orF
 have:l.find? (fun x=>decide (x ≠ 0)) = none:=by
  rw [bq0];intro x hx;obtain ⟨j,hj,rfl⟩:=bng hx;have:=of_decide_eq_true (hI j hj);rw [bmm,bml hj,bnf] at this;simp [this]
 rw [this];rfl
def bb6 (a b:AS):orF [kz (bsz a) (bsz b),kz (asI a) (asI b)] = a5h a b:=by
 unfold orF a5h;by_cases h:kz (bsz a) (bsz b) = 0
 · by_cases h2:kz (asI a) (asI b) = 0 <;> simp [h,h2]
 simp [h]
def ba3 {α:Type} [Inhabited α] {cl:Bool} {c:α -> Nat -> PV} {x y:α} {f:Nat -> Nat -> PV} (h0:CoP (f 0 0) (c x 0)) (h1:CoP (f 1 0) (c y 0)):CoP (.sl 2 1 cl f) (psl 1 c [x,y]) :=
 CoP.sl rfl (.inl rfl) (fun h=>by cases h) fun i j hi hj=>by
  obtain rfl:j = 0:=by omega
  rcases (by omega:i = 0 \/ i = 1) with rfl | rfl
  · exact h0
  exact h1
def bem {a b:AS} (h:¬ (bsz a:Int) = bsz b):decide ((bsz a:Int) < bsz b) = bef a b:=by
 rw [bom,decide_eq_true_iff,nn];omega
def bc0 {a b:AS} (h:(bsz a:Int) = bsz b):decide (asI a < asI b) = bef a b:=by
 rw [bom,decide_eq_true_iff,nn];unfold asI;omega
def asu {α:Type} [Inhabited α] {wr wr':Bool} {e:TypeId} {c:α -> Nat -> PV} {l:List α} {x:α} {g:Nat -> Nat -> PV} (hg:CoP (g 0 0) (c x 0)) (hw:wr' = true -> wr = true:=by exact fun h=>h) :
 CoO (.arr wr 1 e (l.length + 1) (fm l.length (lf c l) g)) (.arr wr' 1 e (l.length + 1) (lf c (l ++ [x]))):=by
 have h:=bg (wr:=wr) (wr':=wr') (e:=e) (l:=l) (l':=l ++ [x]) (g:=g) rfl hg hw;rwa [show (l ++ [x]).length = l.length + 1 by simp] at h
def dg {α:Type} [Inhabited α] {wr wr':Bool} {s n m:Nat} {e:TypeId} {c:α -> Nat -> PV} {l l':List α} (h:l' = l) (hn:n = m) (hw:wr' = true -> wr = true:=by exact fun h=>h):CoO (.arr wr s e n (lf c l)) (.arr wr' s e m (lf c l')):=by
 subst h hn;exact ⟨hw,rfl,rfl,rfl,fun _ _ _ _=>CoP.refl _⟩
def b3i {a b:AS}:decide (a5h a b < 0) = bef a b:=by
 rw [bom,decide_eq_true_iff,nn];unfold a5h kz asI;split <;> (repeat' split) <;> omega
end
end
section
open Go.Proofs
def b6o (a b:AS):a6 brj 199 [pA a,pA b] (a8 [pB (bef a b)]):=by
 refine hpx (nt:=18) Tryz.func199 ?_;refine w_8 ?_;refine qcx ws (zu _) ?_;refine qy ?_;refine qcx ws (zu _) ?_;refine w_2 ?_;refine hcn (fun h0=>?_) (fun h0=>?_)
 · refine w_3 ?_;refine qcx ws (zu _) ?_;refine qy ?_;refine qcx ws (zu _) ?_;refine v_3 ?_;exact ⟨ccb (bem h0),trivial⟩
 refine v_8 ?_;exact ⟨ccb (bc0 h0),trivial⟩
def af5:goodFn brj 198:=wgx Tryz.func198
def cIn (l:List AS) (s:AS):a6 brj 198 [pP (asl l),pA s] (a8 [pB (decide (s ∈ l))]):=by
 refine hpx (nt:=18) Tryz.func198 ?_;refine cg ?_;refine ca 0 rfl fun hn=>?_;refine w_3 ?_;refine db (ι:=Unit) kn km (fun _i=>⟨[],[]⟩) (fun _i=>decide (s ∈ l) = false) ?_ ?_
 ·
  refine w_5 ?_;refine ae (ι:=Nat) (ka 0 (ka 1 kn)) km (fun i=>⟨[(5,some (vI i))],[]⟩) (fun i=>i <= l.length /\ (∀ j,j < i -> decide (l.getD j default = s) = false)) (fun i=>l.length - i) (0) (⟨bms _,bq⟩) kk ?_;rintro i ⟨hi,hI⟩;refine w_8 ?_;refine hcd (fun h0=>?_) (fun h0=>?_)
  ·
   refine en ?_;refine hcd (fun h1=>?_) (fun h1=>?_)
   · refine v_4 ?_;exact ⟨ccb (by rw [<- asi];exact (ajt (p:=fun x=>decide (x = s)) (i:=i) bqx (decide_eq_true (c7.1 h1))).symm),trivial⟩
   refine w_6 ?_;refine lpz (i + 1) kk ?_;exact ⟨by show i + 1 <= _;omega,aw hI (decide_eq_false fun e=>h1 (congrArg asI e))⟩
  refine dj ?_;refine ⟨(), ?_, ?_⟩
  · rw [<- asi];exact ajj (p:=fun x=>decide (x = s)) fun j hj=>hI j bqx
  exact ⟨trivial,trivial⟩
 rintro _ hj;refine v_4 ?_;exact ⟨ccb hj.symm,trivial⟩
def b5o (a:Int):a6 brj 266 [pI a] (a8 [pB false]):=by
 refine hpx (nt:=6) Tryz.func266 ?_;refine cq ?_;exact hx8 rfl rfl rfl (⟨ccb br1,trivial⟩)
def b5m (a:AS):a6 brj 267 [pA a] (a8 [pB false]):=by
 refine hpx (nt:=6) Tryz.func267 ?_;refine cq ?_;exact hx8 rfl rfl rfl (⟨ccb br1,trivial⟩)
def brd {p:Prop} (h:p:=by unfold kz;first | (rw [if_pos bqx]) | (rw [if_neg bqx,if_pos bqx]) | (rw [if_neg bqx,if_neg bqx])):p:=h
def b4w (a b:Int):a6 brj 245 [pI a,pI b] (a8 [pI (kz a b)]):=by
 refine hpx (nt:=20) Tryz.func245 ?_;refine w_7 ?_;refine qcx (wgx Tryz.func266) (b5o _) ?_;refine w_5 ?_;refine qcx (wgx Tryz.func266) (b5o _) ?_;refine b2m ?_;refine hcd (fun h0=>?_) (fun h0=>?_)
 · refine v_4 ?_;exact ⟨cci brd,trivial⟩
 refine w_8 ?_;refine hcd (fun h1=>?_) (fun h1=>?_)
 · refine v_4 ?_;exact ⟨cci brd,trivial⟩
 refine v_5 ?_;exact ⟨cci brd,trivial⟩
def bhd (a b:AS):a6 brj 246 [pA a,pA b] (a8 [pI (kz (asI a) (asI b))]):=by
 refine hpx (nt:=20) Tryz.func246 ?_;refine w_7 ?_;refine qcx (wgx Tryz.func267) (b5m _) ?_;refine w_5 ?_;refine qcx (wgx Tryz.func267) (b5m _) ?_;refine b2m ?_;refine hcd (fun h0=>?_) (fun h0=>?_)
 · refine v_4 ?_;exact ⟨cci brd,trivial⟩
 refine w_8 ?_;refine hcd (fun h1=>?_) (fun h1=>?_)
 · refine v_4 ?_;exact ⟨cci brd,trivial⟩
 refine v_5 ?_;exact ⟨cci brd,trivial⟩
def cOr (l:List Int):a6 brj 244 [pP (psl 1 jC l)] (a8 [pI (orF l)]):=by
 refine hpx (nt:=18) Tryz.func244 ?_;refine cg ?_;refine ca 0 rfl fun hn=>?_;refine w_7 ?_;refine db (ι:=Unit) (ka 3 kn) km (fun _i=>⟨[],[]⟩) (fun _i=>orF l = 0) ?_ ?_
 ·
  refine w_7 ?_;refine ae (ι:=Nat) (ka 3 (ka 6 (ka 7 kn))) km (fun i=>⟨[(8,some (vI i))],[]⟩) (fun i=>i <= l.length /\ (∀ j,j < i -> decide (l.getD j default = 0) = true)) (fun i=>l.length - i) (0) (⟨bms _,bq⟩) kk ?_;rintro i ⟨hi,hI⟩;refine w_5 ?_;refine hcd (fun h0=>?_) (fun h0=>?_)
  ·
   refine n7 ?_;refine hcn (fun h1=>?_) (fun h1=>?_)
   · refine v_5 ?_;exact ⟨cci (bhr (i:=i) bqx hI h1).symm,trivial⟩
   refine w_5 ?_;refine lpz (i + 1) kk ?_;exact ⟨by show i + 1 <= _;omega,aw hI (decide_eq_true h1)⟩
  refine dj ?_;refine ⟨(), ?_, ?_⟩
  · exact bjj fun j hj=>hI j bqx
  exact kk
 rintro _ hj;refine v_5 ?_;exact ⟨cci hj.symm,trivial⟩
def b28 (a b:AS):a6 brj 215 [pA a,pA b] (a8 [pI (a5h a b)]):=by
 refine hpx (nt:=15) Tryz.func215 ?_;refine w_7 ?_;refine qcx zo (a9w _) ?_;refine qy ?_;refine qcx zo (a9w _) ?_;refine qcx (wgx Tryz.func245) (b4w _ _) ?_;refine w_2 ?_;refine qcx (wgx Tryz.func246) (bhd _ _) ?_;refine m9 0 ?_;refine rc rfl rfl rfl rfl rfl rfl (wgx Tryz.func244) (cOr [kz (bsz a) (bsz b),kz (asI a) (asI b)]) (⟨CoC.one (ba3 (CoP.refl _) (CoP.refl _)),trivial⟩) rfl rfl ?_;refine v_2 ?_;exact ⟨cci (bb6 a b),trivial⟩
def a9r:goodFn brj 144:=wgx Tryz.func144
def brb {p:Prop} (h:p:=by rw [bmt];rfl):p:=h
def a8l (l:List AS) (hl:l.length <= 8589934592):a6 brj 144 [pP (asl l)] (a8 [pP (asl (ord l))]):=by
 refine hpx (nt:=61) Tryz.func144 ?_;refine cg ?_;refine ca 0 rfl fun hn=>?_;refine jd ?_;refine bw 3 900 true 1 46 (lf sC []) br2 rfl (CoP.sl rfl (.inr rfl) (fun h=>h) (fun i j hi _=>absurd hi (bmq i))) (.inr rfl) rfl ?_;refine b7 (ka 0 kn) km (fun i=>⟨[(3,some (.v (.one (.ref 900 (ord (l.take i)).length)))),(4,some (vI i))],[(900,some (.arr true 1 46 (ord (l.take i)).length (lf sC (ord (l.take i)))))]⟩) l.length kk ?_;rintro i hi;have hlen:=ke (l.take i);rw [bmv] at hlen;refine w_8 ?_;refine hcd (fun h0=>?_) (fun h0=>?_)
 ·
  refine cq ?_;refine qcx af5 (cIn (ord (l.take i)) (l.getD i default)) ?_;refine c6 ?_;refine hcb (fun h1=>?_) (fun h1=>?_)
  ·
   have hin:=a08 h1;refine w_6 ?_
   first | (refine ⟨i + 1, ?_, ?_, ?_⟩
            · show i + 1 <= _;omega
            · first | omega | (dsimp only;omega)
            exact ⟨⟨⟨_,rfl,(bj (by rw [io bqx,wt (ip _) hin]))⟩,tt⟩,⟨⟨_,rfl,(bh (by rw [io bqx,wt (ip _) hin]))⟩,trivial⟩⟩)
         | (refine ⟨i + 1, ?_, ?_, ?_⟩
            · show i + 1 <= _;omega
            · first | omega | (dsimp only;omega)
            exact ⟨⟨⟨_,rfl,(ag2 (by rw [io bqx,<- hfin,n5 hk]))⟩,tt⟩,⟨⟨_,rfl,(dg (by rw [io bqx,<- hfin]) (by rw [io bqx,<- hfin,n5 hk]))⟩,trivial⟩⟩)
  have hin:=a2a h1;refine w_8 ?_;refine m9 0 ?_;refine r9 1 true ?_;refine bz ?_;refine ae (ι:=Nat) (ka 0 (ka 3 (ka 4 kn))) km (fun k=>⟨[(5,some (vI k))],[(900,some (.arr true 1 46 ((ord (l.take i)).length + 1) (lf sC (mc (ord (l.take i)) k (l.getD i default)))))]⟩) (fun k=>k <= (ord (l.take i)).length /\ ∀ j,k <= j -> j < (ord (l.take i)).length -> bef (l.getD i default) ((ord (l.take i)).getD j default) = true) (fun k=>k) ((ord (l.take i)).length) (⟨bmp _,fun j h1 h2=>by omega⟩) ⟨tt,⟨⟨_,rfl,(by rw [b3v];exact asu (CoP.refl _))⟩,trivial⟩⟩ ?_;rintro k ⟨hk,hK⟩;refine w_6 ?_;refine ai rfl rfl (fun r2=>?_) (fun r2=>?_)
  ·
   have h2:=tz1 r2;(iterate 9 refine qy ?_ (hg:=(gtt r2)));refine qcx (wgx Tryz.func199) (b6o _ _) ?_ (hg:=(gtt r2));refine w_3 ?_;refine aj _ rfl (fun r3=>?_) (fun r3=>?_)
   ·
    have h3:=bt r2 r3;have hb:=ay5 bqx hk h3 bqx bqx;refine w_3 ?_;refine af8 (E:=gq) fk xr [0,1,5,6,7,8,9,10,11,12,13,14,15,2,3,4,16,17] ?_;refine bcv ?_;refine ⟨k - 1, ?_, ?_, ?_⟩
    · refine ⟨by omega,fun j h1 h2=>?_⟩
      by_cases hj:j = k - 1
      · rw [hj];exact hb
      exact hK j bqx h2
    · show k - 1 < k
      omega
    exact ⟨tt,⟨⟨_,rfl,(ax7 bqx hk bqx bqx rfl)⟩,trivial⟩⟩
   have h3:=bt r2 r3;have hb:=ay5 bqx hk h3 bqx bqx;have hfin:=aiq (ip _) hin hk hK (.inr (by rw [hb];decide));refine w_6 ?_
   first | (refine ⟨i + 1, ?_, ?_, ?_⟩
            · show i + 1 <= _;omega
            · first | omega | (dsimp only;omega)
            exact ⟨⟨⟨_,rfl,(bj (by rw [io bqx,wt (ip _) hin]))⟩,tt⟩,⟨⟨_,rfl,(bh (by rw [io bqx,wt (ip _) hin]))⟩,trivial⟩⟩)
         | (refine ⟨i + 1, ?_, ?_, ?_⟩
            · show i + 1 <= _;omega
            · first | omega | (dsimp only;omega)
            exact ⟨⟨⟨_,rfl,(ag2 (by rw [io bqx,<- hfin,n5 hk]))⟩,tt⟩,⟨⟨_,rfl,(dg (by rw [io bqx,<- hfin]) (by rw [io bqx,<- hfin,n5 hk]))⟩,trivial⟩⟩)
  have h2:=tz2 r2;have hfin:=aiq (ip _) hin hk hK (.inl bqx);(iterate 10 refine k9 (gft r2) ?_);refine rq rfl rfl rfl rfl rfl ?_ (hp:=r2);refine w_9 ?_
  first | (refine ⟨i + 1, ?_, ?_, ?_⟩
           · show i + 1 <= _;omega
           · first | omega | (dsimp only;omega)
           exact ⟨⟨⟨_,rfl,(bj (by rw [io bqx,wt (ip _) hin]))⟩,tt⟩,⟨⟨_,rfl,(bh (by rw [io bqx,wt (ip _) hin]))⟩,trivial⟩⟩)
        | (refine ⟨i + 1, ?_, ?_, ?_⟩
           · show i + 1 <= _;omega
           · first | omega | (dsimp only;omega)
           exact ⟨⟨⟨_,rfl,(ag2 (by rw [io bqx,<- hfin,n5 hk]))⟩,tt⟩,⟨⟨_,rfl,(dg (by rw [io bqx,<- hfin]) (by rw [io bqx,<- hfin,n5 hk]))⟩,trivial⟩⟩)
 obtain rfl:i = l.length:=by omega
 refine w_6 ?_;refine al 2 rfl rfl rfl ?_;exact hx8 rfl rfl rfl (⟨CoC.one (CoP.of_eq brb),trivial⟩)
end
end Go.Hx

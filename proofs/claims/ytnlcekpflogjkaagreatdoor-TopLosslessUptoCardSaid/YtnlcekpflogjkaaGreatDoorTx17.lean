/- A part of the proof: LyTz TzW Cs7 Cs8 V6 Cs9 V7. -/
import Derived.Shelf.Lays7
import Derived.Shelf.Spec.TrailingZeros
import Derived.Test.YtnlcekpflogjkaaGreatDoorProg
import Derived.Test.YtnlcekpflogjkaaGreatDoorTx16
set_option linter.all false
set_option maxRecDepth 100000
section
namespace Go.Proofs
open Go.Shelf
def Tryz.lays28_ren:Go.Shelf.Ren:=⟨fun | 28=>223 | n=>n,fun | 27=>49 | 3=>3 | 4=>4 | 25=>208 | 53=>292 | 0=>0 | 5=>5 | n=>n,fun | 0=>1 | n=>n⟩
theorem Tryz.lays28:Go.Proofs.Lays7.n28 Tryz.prog Tryz.lays28_ren:={
 mixed:=by kernel_rfl
 f28:=Tryz.func223.trans (congrArg some (by kernel_rfl))
 t0:=Tryz.underlying0
 a0:=Tryz.isAgg0
 z0:=Tryz.sizeOf0
 v0:=Tryz.zeroValue0
 i0:=by kernel_rfl
 t3:=Tryz.underlying3
 a3:=Tryz.isAgg3
 z3:=Tryz.sizeOf3
 v3:=Tryz.zeroValue3
 i3:=by kernel_rfl
 t4:=Tryz.underlying4
 a4:=Tryz.isAgg4
 z4:=Tryz.sizeOf4
 v4:=Tryz.zeroValue4
 i4:=by kernel_rfl
 t5:=Tryz.underlying5
 a5:=Tryz.isAgg5
 z5:=Tryz.sizeOf5
 v5:=Tryz.zeroValue5
 i5:=by kernel_rfl
 t25:=Tryz.underlying208
 a25:=Tryz.isAgg208
 z25:=Tryz.sizeOf208
 v25:=Tryz.zeroValue208
 i25:=by kernel_rfl
 t27:=Tryz.underlying49
 a27:=Tryz.isAgg49
 z27:=Tryz.sizeOf49
 v27:=Tryz.zeroValue49
 i27:=by kernel_rfl
 t53:=Tryz.underlying292
 a53:=Tryz.isAgg292
 z53:=Tryz.sizeOf292
 v53:=Tryz.zeroValue292
 i53:=by kernel_rfl
 g0:=by kernel_rfl }
end Go.Proofs
end
namespace Go.Hx
section
open Go.Proofs Go.RowKit
def bao:goodFn bw0 223:=⟨Tryz.f223,Tryz.func223,by kernel_rfl,by kernel_rfl⟩
def bk4:∀ j,j < Lib.deBruijn32tab.length -> yw 1 j = some (.int .u8 (Lib.deBruijn32tab.getD j 0)):=fun j hj=>by
 unfold yw;rw [show wh 1 = Lib.deBruijn32tab.map (fun k:Nat=>Value.int .u8 (k:Int)) from rfl,brx,brb hj,brc,brb hj];rfl
def cTz (s:AS):a6 bw0 223 [pA s] (af [pI (qf s)]):=by
 intro w imm us htab him hus
 match us,hus with
 | [u],⟨hu,_⟩ =>
  obtain ⟨rfl,_⟩:=hu
  have h:=Any7.bits_TrailingZeros32 Tryz.lays28 s.toNat s.isLt w fun _ j hj=>by
   have hc:=htab 1 j _ (bk4 j hj);unfold jb at hc
   cases hb:imm 1 with
   | none=>rw [hb] at hc;cases hc
   | some ob =>
    rw [hb] at hc;have hw:=him 1 ob hb;cases ob <;> simp at hc;show w.cell? ⟨1,j,none⟩ = _;simp [World.cell?,hw,hc]
  refine h.mono ?_;rintro e w' ⟨rfl,rfl⟩;exact ⟨_,imm,rfl,⟨rfl,rfl⟩,fun _ _=>rfl,him,Below.refl _ _⟩
 | [],h=>exact h.elim
 | _ :: _ :: _,⟨_,h⟩=>exact h.elim
end
section
section
variable {α:Type} [Inhabited α]
def w5 {wr wr':Bool} {s m:Nat} {e:TypeId} {c:α -> Nat -> PV} {l l':List α} {x:α} {g:Nat -> Nat -> PV} (h:l' = l ++ [x]) (hg:∀ j,j < s -> CoP (g 0 j) (c x j)) (hm:m = 1:=by rfl) (hw:wr' = true -> wr = true:=by exact fun h=>h) :
 CoO (.arr wr s e (l.length + m) (f8 l.length (lf c l) g)) (.arr wr' s e l'.length (lf c l')):=by
 subst h;refine aeb [x] hw hm fun i j hi hj=>?_;obtain rfl:i = 0:=by simp at hi;exact hi
 exact hg j hj
def bv {wr wr':Bool} {s:Nat} {e:TypeId} {c:α -> Nat -> PV} {l l':List α} (h:l' = l) (hw:wr' = true -> wr = true:=by exact fun h=>h):CoO (.arr wr s e l.length (lf c l)) (.arr wr' s e l'.length (lf c l')):=by
 subst h;exact ⟨hw,rfl,rfl,rfl,fun _ _ _ _=>CoP.refl _⟩
end
section
variable {α:Type} [Inhabited α]
section
variable {l l':List α}
def bz {id:Nat} {x:α} (h:l' = l ++ [x]):CoR (.v (.one (.ref id (l.length + 1)))) (.v (.one (.ref id l'.length))):=by subst h;rw [brh];exact CoR.refl _
def ce {id:Nat} (h:l' = l):CoR (.v (.one (.ref id l.length))) (.v (.one (.ref id l'.length))):=by subst h;exact CoR.refl _
def c5 {wr wr':Bool} {e:TypeId} {c:α -> Nat -> PV} {x:α} {g:Nat -> Nat -> PV} (h:l' = l ++ [x]) (hg:CoP (g 0 0) (c x 0)) (hw:wr' = true -> wr = true:=by exact fun h=>h):
 CoO (.arr wr 1 e (l.length + 1) (f8 l.length (lf c l) g)) (.arr wr' 1 e l'.length (lf c l')) :=
 w5 h (fun j hj=>by
  obtain rfl:j = 0:=by omega
  exact hg) rfl hw
def n8 {wr wr':Bool} {e:TypeId} {c:α -> Nat -> PV} {x:α} {g:Nat -> Nat -> PV} (h:l' = l ++ [x]) (h0:CoP (g 0 0) (c x 0)) (h1:CoP (g 0 1) (c x 1)) (hw:wr' = true -> wr = true:=by exact fun h=>h):
 CoO (.arr wr 2 e (l.length + 1) (f8 l.length (lf c l) g)) (.arr wr' 2 e l'.length (lf c l')) :=
 w5 h (fun j hj=>by
  rcases (by omega:j = 0 \/ j = 1) with rfl | rfl
  · exact h0
  exact h1) rfl hw
end
end
def bkd (s:AS) (i:Nat):List Nat:=(List.range i).filter fun k=>s.getLsbD k
end
section
def sm (b:Nat):Nat:=(List.range 8).countP fun i=>b.testBit i
def tl (p:Nat -> Bool) (a b:Nat):(List.range (a + b)).countP p = (List.range a).countP p + (List.range b).countP fun i=>p (a + i):=by
 rw [List.range_add,List.countP_append,List.countP_map];rfl
def b3t {n k j:Nat} (hj:j < 8):(n / 2 ^ k % 256).testBit j = n.testBit (k + j):=by
 rw [show (256:Nat) = 2 ^ 8 from rfl,Nat.testBit_mod_two_pow,Nat.testBit_div_two_pow,Nat.add_comm];simp [hj]
def bhq (n:Nat) (hn:n < 2 ^ 32):(List.range (8 + (8 + (8 + 8)))).countP (fun i=>n.testBit i) = sm (n / 2 ^ 24) + sm (n / 2 ^ 16 % 256) + sm (n / 2 ^ 8 % 256) + sm (n % 256):=by
 have h:∀ k,(List.range 8).countP (fun i=>n.testBit (k + i)) = sm (n / 2 ^ k % 256):=fun k=>by
  unfold sm;apply List.countP_congr;intro j hj;rw [b3t (brw.1 hj)]
 have h3:n / 2 ^ 24 % 256 = n / 2 ^ 24:=bv8 bv9;have h0:=h 0;simp only [bs5,Nat.pow_zero,Nat.div_one] at h0;rw [tl,tl,tl,h0];have e2:=h 8;have e3:=h 16;have e4:=h 24;rw [h3] at e4;simp only [<- btk] at *;simp only [Nat.reduceAdd] at *;rw [e2,e3,e4];omega
def b08 (s:AS):bsz s = sm (s.toNat / 2 ^ 24) + sm (s.toNat / 2 ^ 16 % 256) + sm (s.toNat / 2 ^ 8 % 256) + sm (s.toNat % 256):=bhq s.toNat s.isLt
def a8z (b:Nat):sm b <= 8:=by
 have:=List.countP_le_length (p:=fun i=>b.testBit i) (l:=List.range 8);rwa [bv5] at this
def b7m (s:AS) (k:Nat) (hk:k <= 32):((asI s).fdiv (2 ^ (min k 32))).toNat = s.toNat / 2 ^ k:=by
 rw [aav];show (((s >>> k).toNat:Nat):Int).toNat = _;rw [brn,bu5,btz]
def awu (s:AS) (k:Nat) (hk:k <= 32):(cn .and .u32 ((asI s).fdiv (2 ^ (min k 32))) 255).toNat = s.toNat / 2 ^ k % 256:=by
 rw [aav,show (255:Int) = asI 255 from rfl,tn];show (((s >>> k &&& 255).toNat:Nat):Int).toNat = _;rw [brn,bux,bu5,btz,show (255:AS).toNat = 2 ^ 8 - 1 from rfl,Nat.and_two_pow_sub_one_eq_mod]
def b7y (s:AS):(cn .and .u32 (asI s) 255).toNat = s.toNat % 256:=by
 rw [show (255:Int) = asI 255 from rfl,tn];show (((s &&& 255).toNat:Nat):Int).toNat = _;rw [brn,bux,show (255:AS).toNat = 2 ^ 8 - 1 from rfl,Nat.and_two_pow_sub_one_eq_mod]
def ayj (a b:Int):0 <= cn .and .u32 a b:=by
 show 0 <= IntKind.wrap .u32 _;rw [ans (btf _) (by have:=(BitVec.ofInt 32 a &&& BitVec.ofInt 32 b).isLt;show ((BitVec.ofInt 32 a &&& BitVec.ofInt 32 b).toNat:Int) < _;omega)];exact btf _
def bd3 (s:AS) (k:Nat):0 <= (asI s).fdiv (2 ^ (min k 32)):=by rw [aav];exact sw _
section
variable {X:ByteArray}
def bol (s:AS) (hX:(256:Int) <= X.size):0 <= (asI s).fdiv (2 ^ (min 24 32)) /\ (asI s).fdiv (2 ^ (min 24 32)) < X.size:=by
 have h1:=bd3 s 24;have h2:=b7m s 24 bv9;have:=s.isLt;exact ⟨h1,by omega⟩
def ixM (s:AS) (k:Nat) (hk:k <= 32) (hX:(256:Int) <= X.size):0 <= cn .and .u32 ((asI s).fdiv (2 ^ (min k 32))) 255 /\ cn .and .u32 ((asI s).fdiv (2 ^ (min k 32))) 255 < X.size:=by
 have h1:=ayj ((asI s).fdiv (2 ^ (min k 32))) 255;have h2:=awu s k hk;exact ⟨h1,by omega⟩
def ixL (s:AS) (hX:(256:Int) <= X.size):0 <= cn .and .u32 (asI s) 255 /\ cn .and .u32 (asI s) 255 < X.size:=by
 have h1:=ayj (asI s) 255;have h2:=b7y s;exact ⟨h1,by omega⟩
def ah3 {n:Int} (h0:0 <= n) (h1:n < 256):IntKind.wrap .u8 n = n:=tz (by simp only [inR,wk,zo];omega)
def axl {n:Int} (h0:0 <= n) (h1:n < 256):IntKind.wrap .i64 n = n:=tz (by simp only [inR,wk,zo];omega)
def bh7 {s:AS} {i0 i1 i2 i3:Nat} (hX:∀ b,b < 256 -> c9 X b = (sm b:Int)) (h0:i0 = s.toNat / 2 ^ 24) (h1:i1 = s.toNat / 2 ^ 16 % 256) (h2:i2 = s.toNat / 2 ^ 8 % 256) (h3:i3 = s.toNat % 256):
 IntKind.wrap .i64 (IntKind.wrap .u8 (IntKind.wrap .u8 (IntKind.wrap .u8 (c9 X i0 + c9 X i1) + c9 X i2) + c9 X i3)) = (bsz s:Int):=by
 have:=s.isLt;subst h0 h1 h2 h3;rw [hX _ bv9,hX _ bv9,hX _ bv9,hX _ bv9];have a0:=a8z (s.toNat / 2 ^ 24);have a1:=a8z (s.toNat / 2 ^ 16 % 256);have a2:=a8z (s.toNat / 2 ^ 8 % 256);have a3:=a8z (s.toNat % 256);rw [b08];generalize sm (s.toNat / 2 ^ 24) = c0 at *;generalize sm (s.toNat / 2 ^ 16 % 256) = c1 at *;generalize sm (s.toNat / 2 ^ 8 % 256) = c2 at *;generalize sm (s.toNat % 256) = c3 at *;rw [ah3 (n:=c0 + c1) bv9 bv9,ah3 (n:=c0 + c1 + c2) bv9 bv9,ah3 (n:=c0 + c1 + c2 + c3) bv9 bv9,axl (n:=c0 + c1 + c2 + c3) bv9 bv9];omega
def az5 (s:AS):bsz s <= 32:=by
 have:=List.countP_le_length (p:=fun i=>s.getLsbD i) (l:=List.range 32);rwa [bv5] at this
def b1t {s0:AS} (x:List Nat × AS) (h:x.1 ++ aj x.2 = aj s0):x.1.length <= 32:=by
 have h1:=congrArg List.length h;rw [brh,<- a1n s0] at h1;have:=az5 s0;omega
def amc {s:AS} (h:s ≠ 0):asI s - 1 = asI (s - 1):=by
 have h0:s.toNat ≠ 0:=fun e=>h (bso e);have:=s.isLt
 have e1:(s - 1).toNat = s.toNat - 1:=by
  rw [BitVec.toNat_sub];show (2 ^ 32 - 1 + s.toNat) % 2 ^ 32 = _;omega
 unfold asI;rw [e1];omega
def amt {s:AS} (h:s ≠ 0):(kp true .u32 (asI s - 1)).1:=by
 rw [amc h];have h1:=sw (s - 1);have h2:=a6t (s - 1);simp only [kp,inR,wk,zo];omega
def b4h {s:AS} (h:s ≠ 0):cn .and .u32 (asI s) (asI s - 1) = asI (s &&& (s - 1)):=by rw [amc h,tn]
def gi (a b:Int):Int:=if a < b then -1 else if b < a then 1 else 0
def a5j (a b:AS):Int:=if gi (bsz a) (bsz b) = 0 then gi (asI a) (asI b) else gi (bsz a) (bsz b)
end
end
section
open Go.Proofs
def a8l:goodFn bw0 173:=wgx Tryz.func173
def awx (s0:AS):a6 bw0 173 [pA s0] (af [pP (il (aj s0))]):=by
 refine hpx (nt:=16) Tryz.func173 ?_;refine dc ?_;refine df 3 900 true 1 3 (lf iC []) bvg rfl (CoP.sl rfl (.inr rfl) (fun h=>h) (fun i j hi _=>absurd hi (brg i))) (.inr rfl) rfl ?_;refine ah (ι:=List Nat × AS) kn km (fun x=>⟨[(3,some (.v (.one (.ref 900 x.1.length)))),(0,some (vA x.2))],[(900,some (.arr true 1 3 x.1.length (lf iC x.1)))]⟩) (fun x=>x.1 ++ aj x.2 = aj s0) (fun x=>x.2.toNat) (([],s0)) (rfl) kk ?_;rintro x hx;have hlen:=b1t x hx;refine w_6 ?_;refine hcn (fun h0=>?_) (fun h0=>?_)
 ·
  have hne:x.2 ≠ 0:=fun e=>h0 (by rw [e];rfl);refine w_6 ?_;refine qcx bao (cTz x.2) ?_;refine m9 0 ?_;refine r9 1 true ?_;refine w_5 ?_;refine rq rfl rfl rfl rfl rfl ?_ (hp:=(amt hne));refine w_3 ?_;refine ⟨(x.1 ++ [qf x.2],x.2 &&& (x.2 - 1)), ?_, ?_, ?_⟩
  · show (x.1 ++ [qf x.2]) ++ aj (x.2 &&& (x.2 - 1)) = aj s0
    rw [<- hx,b1g hne,bsm];rfl
  · exact aov hne
  exact ⟨⟨⟨_,rfl,(bz rfl)⟩,⟨_,rfl,(oi (b4h hne))⟩,trivial⟩,⟨⟨_,rfl,(c5 rfl (CoP.refl _))⟩,trivial⟩⟩
 have hz:x.2 = 0:=dj.1 h0;refine w_6 ?_;refine bn 2 rfl rfl rfl ?_;exact hx8 rfl rfl rfl (⟨CoC.one (CoP.of_eq (by rw [hz,awz,bse] at hx;rw [<- hx];rfl)),trivial⟩)
def blq (s:AS):a6 bw0 168 [pA s] (af [pI (bsz s)]):=by
 refine hpx (nt:=21) Tryz.func168 ?_;refine w_8 ?_;refine rq rfl rfl rfl rfl rfl ?_ (hp:=(bol s (by decide +kernel)));refine w_3 ?_;refine rq rfl rfl rfl rfl rfl ?_ (hp:=(ixM s 16 bv9 (by decide +kernel)));refine rqw rfl rfl rfl rfl rfl ?_;refine w_3 ?_;refine rq rfl rfl rfl rfl rfl ?_ (hp:=(ixM s 8 bv9 (by decide +kernel)));refine rqw rfl rfl rfl rfl rfl ?_;refine w_2 ?_;refine rq rfl rfl rfl rfl rfl ?_ (hp:=(ixL s (by decide +kernel)));(iterate 2 refine rqw rfl rfl rfl rfl rfl ?_);refine v_3 ?_;exact ⟨cci (bh7 (by decide +kernel) (b7m s 24 bv9) (awu s 16 bv9) (awu s 8 bv9) (b7y s)),trivial⟩
def a8s:goodFn bw0 114:=wgx Tryz.func114
def aki (s:AS):a6 bw0 114 [pA s] (af [pI (bsz s)]):=by
 refine hpx (nt:=5) Tryz.func114 ?_;refine w_7 ?_;refine qcx (wgx Tryz.func168) (blq s) ?_;refine v_2 ?_;exact CoL.refl _
end
section
def br3 (l:List AS) (k:Nat) (r:AS):List AS:=l.take k ++ r :: l.drop k
def ap1 (x:AS):∀ l:List AS,(pi x l).length <= l.length + 1
 | []=>by simp [pi]
 | y :: l=>by
  unfold pi;have:=ap1 x l;split
  · simp
  split
  · simp
  simp only [bs6];omega
def zb (l:List AS):(ord l).length <= l.length:=by
 have:∀ (l o:List AS),(l.foldl (fun o x=>pi x o) o).length <= o.length + l.length:=by
  intro l
  induction l with
  | nil=>intro o;simp
  | cons x l ih =>
   intro o;have h1:=ih (pi x o);have h2:=ap1 x o;simp only [btp,bs6];omega
 have h:=this l [];simpa [ord] using h
def jC:Int -> Nat -> PV:=fun n _=>.raw (.int .i64 n)
def orF (l:List Int):Int:=(l.find? fun x=>decide (x ≠ 0)).getD 0
def bla {l:List Int} {i:Nat} (hi:i < l.length) (hI:∀ j,j < i -> decide (l.getD j default = 0) = true) (h:¬ l.getD i default = 0):orF l = l.getD i default:=by
 unfold orF
 have:l.find? (fun x=>decide (x ≠ 0)) = some (l.getD i default):=by
  rw [List.find?_eq_some_iff_getElem];refine ⟨decide_eq_true h,i,hi,by simp [List.getD,hi],fun j hj=>?_⟩;have:=of_decide_eq_true (hI j hj);rw [brc,brb bv9,bsn] at this;simp [this]
 rw [this];rfl
def bm0 {l:List Int} (hI:∀ j,j < l.length -> decide (l.getD j default = 0) = true):orF l = 0:=by
 unfold orF
 have:l.find? (fun x=>decide (x ≠ 0)) = none:=by
  rw [bub];intro x hx;obtain ⟨j,hj,rfl⟩:=bry hx;have:=of_decide_eq_true (hI j hj);rw [brc,brb hj,bsn] at this;simp [this]
 rw [this];rfl
def bai (a b:AS):orF [gi (bsz a) (bsz b),gi (asI a) (asI b)] = a5j a b:=by
 unfold orF a5j;by_cases h:gi (bsz a) (bsz b) = 0
 · by_cases h2:gi (asI a) (asI b) = 0 <;> simp [h,h2]
 simp [h]
def b9g {α:Type} [Inhabited α] {cl:Bool} {c:α -> Nat -> PV} {x y:α} {f:Nat -> Nat -> PV} (h0:CoP (f 0 0) (c x 0)) (h1:CoP (f 1 0) (c y 0)):CoP (.sl 2 1 cl f) (psl 1 c [x,y]) :=
 CoP.sl rfl (.inl rfl) (fun h=>by cases h) fun i j hi hj=>by
  obtain rfl:j = 0:=by omega
  rcases (by omega:i = 0 \/ i = 1) with rfl | rfl
  · exact h0
  exact h1
def jy {α:Type} [Inhabited α] {wr wr':Bool} {s n m:Nat} {e:TypeId} {c:α -> Nat -> PV} {l l':List α} (h:l' = l) (hn:n = m) (hw:wr' = true -> wr = true:=by exact fun h=>h):CoO (.arr wr s e n (lf c l)) (.arr wr' s e m (lf c l')):=by
 subst h hn;exact ⟨hw,rfl,rfl,rfl,fun _ _ _ _=>CoP.refl _⟩
def b6d {a b:AS}:decide (a5j a b < 0) = bef a b:=by
 rw [buj,decide_eq_true_iff,uj];unfold a5j gi asI;split <;> (repeat' split) <;> omega
end
section
open Go.Proofs
def b8c (a:Int):a6 bw0 214 [pI a] (af [pB false]):=by
 refine hpx (nt:=6) Tryz.func214 ?_;refine j3 ?_;exact hx8 rfl rfl rfl (⟨ccb bvd,trivial⟩)
def b7r (a:AS):a6 bw0 252 [pA a] (af [pB false]):=by
 refine hpx (nt:=6) Tryz.func252 ?_;refine j3 ?_;exact hx8 rfl rfl rfl (⟨ccb bvd,trivial⟩)
def ahr:goodFn bw0 155:=wgx Tryz.func155
def bvs {p:Prop} (h:p:=by unfold gi;first | (rw [if_pos bv9]) | (rw [if_neg bv9,if_pos bv9]) | (rw [if_neg bv9,if_neg bv9])):p:=h
def aw6 (a b:Int):a6 bw0 155 [pI a,pI b] (af [pI (gi a b)]):=by
 refine hpx (nt:=20) Tryz.func155 ?_;refine w_7 ?_;refine qcx (wgx Tryz.func214) (b8c _) ?_;refine w_5 ?_;refine qcx (wgx Tryz.func214) (b8c _) ?_;refine b6t ?_;refine hcd (fun h0=>?_) (fun h0=>?_)
 · refine v_4 ?_;exact ⟨cci bvs,trivial⟩
 refine w_8 ?_;refine hcd (fun h1=>?_) (fun h1=>?_)
 · refine v_4 ?_;exact ⟨cci bvs,trivial⟩
 refine v_5 ?_;exact ⟨cci bvs,trivial⟩
def bkp (a b:AS):a6 bw0 222 [pA a,pA b] (af [pI (gi (asI a) (asI b))]):=by
 refine hpx (nt:=20) Tryz.func222 ?_;refine w_7 ?_;refine qcx (wgx Tryz.func252) (b7r _) ?_;refine w_5 ?_;refine qcx (wgx Tryz.func252) (b7r _) ?_;refine b6t ?_;refine hcd (fun h0=>?_) (fun h0=>?_)
 · refine v_4 ?_;exact ⟨cci bvs,trivial⟩
 refine w_8 ?_;refine hcd (fun h1=>?_) (fun h1=>?_)
 · refine v_4 ?_;exact ⟨cci bvs,trivial⟩
 refine v_5 ?_;exact ⟨cci bvs,trivial⟩
def cOr (l:List Int):a6 bw0 154 [pP (psl 1 jC l)] (af [pI (orF l)]):=by
 refine hpx (nt:=18) Tryz.func154 ?_;refine cq ?_;refine cu 0 rfl fun hn=>?_;refine w_7 ?_;refine d5 (ι:=Unit) (ka 3 kn) km (fun _i=>⟨[],[]⟩) (fun _i=>orF l = 0) ?_ ?_
 ·
  refine w_7 ?_;refine ah (ι:=Nat) (ka 3 (ka 6 (ka 7 kn))) km (fun i=>⟨[(8,some (vI i))],[]⟩) (fun i=>i <= l.length /\ (∀ j,j < i -> decide (l.getD j default = 0) = true)) (fun i=>l.length - i) (0) (⟨bre _,c7⟩) kk ?_;rintro i ⟨hi,hI⟩;refine w_5 ?_;refine hcd (fun h0=>?_) (fun h0=>?_)
  ·
   refine k8 ?_;refine hcn (fun h1=>?_) (fun h1=>?_)
   · refine v_5 ?_;exact ⟨cci (bla (i:=i) bv9 hI h1).symm,trivial⟩
   refine w_5 ?_;refine lpz (i + 1) kk ?_;exact ⟨by show i + 1 <= _;omega,bo hI (decide_eq_true h1)⟩
  refine d7 ?_;refine ⟨(), ?_, ?_⟩
  · exact bm0 fun j hj=>hI j bv9
  exact kk
 rintro _ hj;refine v_5 ?_;exact ⟨cci hj.symm,trivial⟩
def b5o (a b:AS):a6 bw0 170 [pA a,pA b] (af [pI (a5j a b)]):=by
 refine hpx (nt:=15) Tryz.func170 ?_;refine w_7 ?_;refine qcx a8s (aki _) ?_;refine qy ?_;refine qcx a8s (aki _) ?_;refine qcx ahr (aw6 _ _) ?_;refine w_2 ?_;refine qcx (wgx Tryz.func222) (bkp _ _) ?_;refine m9 0 ?_;refine rc rfl rfl rfl rfl rfl rfl (wgx Tryz.func154) (cOr [gi (bsz a) (bsz b),gi (asI a) (asI b)]) (⟨CoC.one (b9g (CoP.refl _) (CoP.refl _)),trivial⟩) rfl rfl ?_;refine v_2 ?_;exact ⟨cci (bai a b),trivial⟩
end
end Go.Hx

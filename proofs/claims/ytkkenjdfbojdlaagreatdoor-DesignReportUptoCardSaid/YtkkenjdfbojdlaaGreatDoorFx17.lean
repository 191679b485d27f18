/- A part of the proof: LyTz TzW Cs7 Cs8 V6 Cs9 V7. -/
import Derived.Shelf.Lays7
import Derived.Shelf.Spec.TrailingZeros
import Derived.Test.YtkkenjdfbojdlaaGreatDoorProg
import Derived.Test.YtkkenjdfbojdlaaGreatDoorFx16
set_option linter.all false
set_option maxRecDepth 100000
set_option maxHeartbeats 1000000
section
namespace Go.Proofs
open Go.Shelf
def Tryz.lays28_ren:Go.Shelf.Ren:=⟨fun | 28=>114 | n=>n,fun | 27=>43 | 3=>3 | 4=>4 | 25=>177 | 53=>176 | 0=>0 | 5=>5 | n=>n,fun | 0=>0 | n=>n⟩
theorem Tryz.lays28:Go.Proofs.Lays7.n28 Tryz.prog Tryz.lays28_ren:={
 mixed:=by kernel_rfl
 f28:=Tryz.func114.trans (congrArg some (by kernel_rfl))
 t0:=Tryz.underlying0
 a0:=Tryz.isAgg0
 z0:=Tryz.sizeOf0
 v0:=Tryz.zeroValue0
 i0:=by kernel_rfl
 t3:=Tryz.underlying3
 a3:=Tryz.isAgg3
 z3:=Tryz.sizeOf3
 v3:=Tryz.zeroValue3
 i3:=by kernel_rfl
 t4:=Tryz.underlying4
 a4:=Tryz.isAgg4
 z4:=Tryz.sizeOf4
 v4:=Tryz.zeroValue4
 i4:=by kernel_rfl
 t5:=Tryz.underlying5
 a5:=Tryz.isAgg5
 z5:=Tryz.sizeOf5
 v5:=Tryz.zeroValue5
 i5:=by kernel_rfl
 t25:=Tryz.underlying177
 a25:=Tryz.isAgg177
 z25:=Tryz.sizeOf177
 v25:=Tryz.zeroValue177
 i25:=by kernel_rfl
 t27:=Tryz.underlying43
 a27:=Tryz.isAgg43
 z27:=Tryz.sizeOf43
 v27:=Tryz.zeroValue43
 i27:=by kernel_rfl
 t53:=Tryz.underlying176
 a53:=Tryz.isAgg176
 z53:=Tryz.sizeOf176
 v53:=Tryz.zeroValue176
 i53:=by kernel_rfl
 g0:=by kernel_rfl }
end Go.Proofs
end
namespace Go.Hx
section
open Go.Proofs Go.RowKit
theorem b2y:goodFn Tryz.prog 114:=⟨Tryz.f114,Tryz.func114,by kernel_rfl,by kernel_rfl⟩
theorem b8r:∀ j,j < Lib.deBruijn32tab.length → vo 0 j = some (.int .u8 (Lib.deBruijn32tab.getD j 0)):=fun j hj=>by
 unfold vo
 rw [show sx 0 = Lib.deBruijn32tab.map (fun k:Nat=>Value.int .u8 (k:Int)) from rfl,List.getElem?_map,List.getElem?_eq_getElem hj,List.getD_eq_getElem?_getD,List.getElem?_eq_getElem hj]
 rfl
theorem cTz (s:AS):af Tryz.prog 114 [pA s] (aj [pI (i6 s)]):=by
 intro w imm us htab him hus
 match us,hus with
 | [u],⟨hu,_⟩ =>
  obtain ⟨rfl,_⟩:=hu
  have h:=Any7.bits_TrailingZeros32 Tryz.lays28 s.toNat s.isLt w fun _ j hj=>by
   have hc:=htab 0 j _ (b8r j hj)
   unfold j5 at hc
   cases hb:imm 0 with
   | none=>rw [hb] at hc;cases hc
   | some ob =>
    rw [hb] at hc
    have hw:=him 0 ob hb
    cases ob <;> simp at hc
    show w.cell? ⟨0,j,none⟩ = _
    simp [World.cell?,hw,hc]
  refine h.mono ?_
  rintro e w' ⟨rfl,rfl⟩
  exact ⟨_,imm,rfl,⟨rfl,rfl⟩,fun _ _=>rfl,him,Below.refl _ _⟩
 | [],h=>exact h.elim
 | _ :: _ :: _,⟨_,h⟩=>exact h.elim
end
section
theorem aa7 {id n m:Nat} (h:n = m):CoR (.v (.one (.ref id n))) (.v (.one (.ref id m))):=by subst h;exact CoR.refl _
section
variable {α:Type} [Inhabited α]
theorem abe {wr wr':Bool} {s m:Nat} {e:TypeId} {c:α → Nat → PV} {l l':List α} {x:α} {g:Nat → Nat → PV} (h:l' = l ++ [x]) (hg:∀ j,j < s → CoP (g 0 j) (c x j)) (hm:m = 1:=by rfl) (hw:wr' = true → wr = true:=by exact fun h=>h) :
 CoO (.arr wr s e (l.length + m) (gk l.length (lf c l) g)) (.arr wr' s e l'.length (lf c l')):=by
 subst h
 refine ar8 [x] hw hm fun i j hi hj=>?_
 obtain rfl:i = 0:=by simp at hi;exact hi
 exact hg j hj
theorem cb {wr wr':Bool} {s:Nat} {e:TypeId} {c:α → Nat → PV} {l l':List α} (h:l' = l) (hw:wr' = true → wr = true:=by exact fun h=>h):CoO (.arr wr s e l.length (lf c l)) (.arr wr' s e l'.length (lf c l')):=by
 subst h
 exact ⟨hw,rfl,rfl,rfl,fun _ _ _ _=>CoP.refl _⟩
end
section
variable {α:Type} [Inhabited α]
theorem ca {id:Nat} {l l':List α} {x:α} (h:l' = l ++ [x]):CoR (.v (.one (.ref id (l.length + 1)))) (.v (.one (.ref id l'.length))):=by subst h;rw [List.length_append];exact CoR.refl _
theorem cg {id:Nat} {l l':List α} (h:l' = l):CoR (.v (.one (.ref id l.length))) (.v (.one (.ref id l'.length))):=by subst h;exact CoR.refl _
theorem c7 {wr wr':Bool} {e:TypeId} {c:α → Nat → PV} {l l':List α} {x:α} {g:Nat → Nat → PV} (h:l' = l ++ [x]) (hg:CoP (g 0 0) (c x 0)) (hw:wr' = true → wr = true:=by exact fun h=>h) :
 CoO (.arr wr 1 e (l.length + 1) (gk l.length (lf c l) g)) (.arr wr' 1 e l'.length (lf c l')) :=
 abe h (fun j hj=>by
  obtain rfl:j = 0:=by omega
  exact hg) rfl hw
theorem ov {wr wr':Bool} {e:TypeId} {c:α → Nat → PV} {l l':List α} {x:α} {g:Nat → Nat → PV} (h:l' = l ++ [x]) (h0:CoP (g 0 0) (c x 0)) (h1:CoP (g 0 1) (c x 1)) (hw:wr' = true → wr = true:=by exact fun h=>h) :
 CoO (.arr wr 2 e (l.length + 1) (gk l.length (lf c l) g)) (.arr wr' 2 e l'.length (lf c l')) :=
 abe h (fun j hj=>by
  rcases (by omega:j = 0 ∨ j = 1) with rfl | rfl
  · exact h0
  exact h1) rfl hw
end
def iz (s:AS) (i:Nat):List Nat:=(List.range i).filter fun k=>s.getLsbD k
theorem vr {s:AS} {i:Nat} (hi:i < 32) (h:dx s (i:Int) = true):iz s (i + 1) = iz s i ++ [i]:=by
 rw [n4 hi] at h
 unfold iz
 rw [List.range_succ,List.filter_append]
 simp [h]
theorem vf {s:AS} {i:Nat} (hi:i < 32) (h:dx s (i:Int) = false):iz s (i + 1) = iz s i:=by
 rw [n4 hi] at h
 unfold iz
 rw [List.range_succ,List.filter_append]
 simp [h]
theorem ac8 (s:AS) (i:Nat):(iz s i).length ≤ i:=by
 unfold iz
 have:=List.length_filter_le (fun k=>s.getLsbD k) (List.range i)
 rwa [List.length_range] at this
end
section
def nu (b:Nat):Nat:=(List.range 8).countP fun i=>b.testBit i
theorem pi (p:Nat → Bool) (a b:Nat):(List.range (a + b)).countP p = (List.range a).countP p + (List.range b).countP fun i=>p (a + i):=by
 rw [List.range_add,List.countP_append,List.countP_map]
 rfl
theorem atd {n k j:Nat} (hj:j < 8):(n / 2 ^ k % 256).testBit j = n.testBit (k + j):=by
 rw [show (256:Nat) = 2 ^ 8 from rfl,Nat.testBit_mod_two_pow,Nat.testBit_div_two_pow,Nat.add_comm]
 simp [hj]
theorem b6y (n:Nat) (hn:n < 2 ^ 32):(List.range (8 + (8 + (8 + 8)))).countP (fun i=>n.testBit i) = nu (n / 2 ^ 24) + nu (n / 2 ^ 16 % 256) + nu (n / 2 ^ 8 % 256) + nu (n % 256):=by
 have h:∀ k,(List.range 8).countP (fun i=>n.testBit (k + i)) = nu (n / 2 ^ k % 256):=fun k=>by
  unfold nu
  apply List.countP_congr
  intro j hj
  rw [atd (List.mem_range.1 hj)]
 have h3:n / 2 ^ 24 % 256 = n / 2 ^ 24:=Nat.mod_eq_of_lt (by omega)
 have h0:=h 0
 simp only [Nat.zero_add,Nat.pow_zero,Nat.div_one] at h0
 rw [pi,pi,pi,h0]
 have e2:=h 8
 have e3:=h 16
 have e4:=h 24
 rw [h3] at e4
 simp only [← Nat.add_assoc] at *
 simp only [Nat.reduceAdd] at *
 rw [e2,e3,e4]
 omega
theorem as7 (s:AS):bsz s = nu (s.toNat / 2 ^ 24) + nu (s.toNat / 2 ^ 16 % 256) + nu (s.toNat / 2 ^ 8 % 256) + nu (s.toNat % 256):=b6y s.toNat s.isLt
theorem a5j (b:Nat):nu b ≤ 8:=by
 have:=List.countP_le_length (p:=fun i=>b.testBit i) (l:=List.range 8)
 rwa [List.length_range] at this
theorem ay1 (s:AS) (k:Nat) (hk:k ≤ 32):((asI s).fdiv (2 ^ (min k 32))).toNat = s.toNat / 2 ^ k:=by
 rw [uk]
 show (((s >>> k).toNat:Nat):Int).toNat = _
 rw [Int.toNat_natCast,BitVec.toNat_ushiftRight,Nat.shiftRight_eq_div_pow]
theorem aln (s:AS) (k:Nat) (hk:k ≤ 32):(bo .and .u32 ((asI s).fdiv (2 ^ (min k 32))) 255).toNat = s.toNat / 2 ^ k % 256:=by
 rw [uk,show (255:Int) = asI 255 from rfl,gl]
 show (((s >>> k &&& 255).toNat:Nat):Int).toNat = _
 rw [Int.toNat_natCast,BitVec.toNat_and,BitVec.toNat_ushiftRight,Nat.shiftRight_eq_div_pow,show (255:AS).toNat = 2 ^ 8 - 1 from rfl,Nat.and_two_pow_sub_one_eq_mod]
theorem axn (s:AS):(bo .and .u32 (asI s) 255).toNat = s.toNat % 256:=by
 rw [show (255:Int) = asI 255 from rfl,gl]
 show (((s &&& 255).toNat:Nat):Int).toNat = _
 rw [Int.toNat_natCast,BitVec.toNat_and,show (255:AS).toNat = 2 ^ 8 - 1 from rfl,Nat.and_two_pow_sub_one_eq_mod]
theorem aqc (a b:Int):0 ≤ bo .and .u32 a b:=by
 show 0 ≤ IntKind.wrap .u32 _
 rw [ahg (Int.natCast_nonneg _) (by have:=(BitVec.ofInt 32 a &&& BitVec.ofInt 32 b).isLt;show ((BitVec.ofInt 32 a &&& BitVec.ofInt 32 b).toNat:Int) < _;omega)]
 exact Int.natCast_nonneg _
theorem b3c (s:AS) (k:Nat):0 ≤ (asI s).fdiv (2 ^ (min k 32)):=by rw [uk];exact a42 _
theorem bb3 {X:ByteArray} (s:AS) (hX:(256:Int) ≤ X.size):0 ≤ (asI s).fdiv (2 ^ (min 24 32)) ∧ (asI s).fdiv (2 ^ (min 24 32)) < X.size:=by
 have h1:=b3c s 24
 have h2:=ay1 s 24 (by omega)
 have:=s.isLt
 exact ⟨h1,by omega⟩
theorem ixM {X:ByteArray} (s:AS) (k:Nat) (hk:k ≤ 32) (hX:(256:Int) ≤ X.size):0 ≤ bo .and .u32 ((asI s).fdiv (2 ^ (min k 32))) 255 ∧ bo .and .u32 ((asI s).fdiv (2 ^ (min k 32))) 255 < X.size:=by
 have h1:=aqc ((asI s).fdiv (2 ^ (min k 32))) 255
 have h2:=aln s k hk
 exact ⟨h1,by omega⟩
theorem ixL {X:ByteArray} (s:AS) (hX:(256:Int) ≤ X.size):0 ≤ bo .and .u32 (asI s) 255 ∧ bo .and .u32 (asI s) 255 < X.size:=by
 have h1:=aqc (asI s) 255
 have h2:=axn s
 exact ⟨h1,by omega⟩
theorem aai {n:Int} (h0:0 ≤ n) (h1:n < 256):IntKind.wrap .u8 n = n:=sk (by simp only [inR,md,o6];omega)
theorem apj {n:Int} (h0:0 ≤ n) (h1:n < 256):IntKind.wrap .i64 n = n:=sk (by simp only [inR,md,o6];omega)
theorem b57 {X:ByteArray} {s:AS} {i0 i1 i2 i3:Nat} (hX:∀ b,b < 256 → fp X b = (nu b:Int)) (h0:i0 = s.toNat / 2 ^ 24) (h1:i1 = s.toNat / 2 ^ 16 % 256) (h2:i2 = s.toNat / 2 ^ 8 % 256) (h3:i3 = s.toNat % 256) :
 IntKind.wrap .i64 (IntKind.wrap .u8 (IntKind.wrap .u8 (IntKind.wrap .u8 (fp X i0 + fp X i1) + fp X i2) + fp X i3)) = (bsz s:Int):=by
 have:=s.isLt
 subst h0 h1 h2 h3
 rw [hX _ (by omega),hX _ (by omega),hX _ (by omega),hX _ (by omega)]
 have a0:=a5j (s.toNat / 2 ^ 24)
 have a1:=a5j (s.toNat / 2 ^ 16 % 256)
 have a2:=a5j (s.toNat / 2 ^ 8 % 256)
 have a3:=a5j (s.toNat % 256)
 rw [as7]
 generalize nu (s.toNat / 2 ^ 24) = c0 at *
 generalize nu (s.toNat / 2 ^ 16 % 256) = c1 at *
 generalize nu (s.toNat / 2 ^ 8 % 256) = c2 at *
 generalize nu (s.toNat % 256) = c3 at *
 rw [aai (n:=c0 + c1) (by omega) (by omega),aai (n:=c0 + c1 + c2) (by omega) (by omega),aai (n:=c0 + c1 + c2 + c3) (by omega) (by omega),apj (n:=c0 + c1 + c2 + c3) (by omega) (by omega)]
 omega
theorem ag0 (s:AS):bsz s ≤ 32:=by
 have:=List.countP_le_length (p:=fun i=>s.getLsbD i) (l:=List.range 32)
 rwa [List.length_range] at this
theorem aoi {s0:AS} (x:List Nat × AS) (h:x.1 ++ ap x.2 = ap s0):x.1.length ≤ 32:=by
 have h1:=congrArg List.length h
 rw [List.length_append,← tx s0] at h1
 have:=ag0 s0
 omega
theorem agq {s:AS} (h:s ≠ 0):asI s - 1 = asI (s - 1):=by
 have h0:s.toNat ≠ 0:=fun e=>h (BitVec.eq_of_toNat_eq e)
 have:=s.isLt
 have e1:(s - 1).toNat = s.toNat - 1:=by
  rw [BitVec.toNat_sub]
  show (2 ^ 32 - 1 + s.toNat) % 2 ^ 32 = _
  omega
 unfold asI
 rw [e1]
 omega
theorem wn {s:AS} (h:s ≠ 0):(gj true .u32 (asI s - 1)).1:=by
 rw [agq h]
 have h1:=a42 (s - 1)
 have h2:=a8y (s - 1)
 simp only [gj,inR,md,o6]
 omega
theorem afs {s:AS} (h:s ≠ 0):bo .and .u32 (asI s) (asI s - 1) = asI (s &&& (s - 1)):=by rw [agq h,gl]
def jc (a b:Int):Int:=if a < b then -1 else if b < a then 1 else 0
def a0v (a b:AS):Int:=if jc (bsz a) (bsz b) = 0 then jc (asI a) (asI b) else jc (bsz a) (bsz b)
end
section
open Go.Proofs
theorem b3r:goodFn Tryz.prog 218:=wgx Tryz.func218
theorem b8w (s:AS):af Tryz.prog 218 [pA s] (aj [pP (il (ap s))]):=by
 refine a8 (nt:=17) a7 Tryz.func218 rfl rfl l9 ?_;refine wg ?_
 refine d6 3 900 true 1 3 (lf iC []) (by decide) rfl (CoP.sl rfl (.inr rfl) (fun h=>h) (fun i j hi _=>absurd hi (Nat.not_lt_zero i))) (.inr rfl) rfl ?_
 refine ah (ι:=Nat) ⟨[(0,some _)],[]⟩ ⟨⟨c9,trivial⟩,trivial⟩ (fun i=>⟨[(3,some (.v (.one (.ref 900 (iz s i).length)))),(4,some (vI i))],[(900,some (.arr true 1 3 (iz s i).length (lf iC (iz s i))))]⟩) (fun i=>i ≤ 32) (fun i=>32 - i) (0) (Nat.zero_le _) ⟨⟨zy,zy,trivial⟩,⟨u9,trivial⟩⟩ ?_
 rintro i hi
 have hlen:=ac8 s i
 refine w_6 ?_;refine a6 _ rfl (fun r0=>?_) (fun r0=>?_)
 ·
  have h0:=ae r0
  try simp only [ty] at h0
  refine w_7 ?_;refine qcx akl (b6r s i) ?_;refine ax ?_;refine a6 _ rfl (fun r1=>?_) (fun r1=>?_)
  ·
   have h1:=r1
   refine w_3 ?_;refine m9 0 ?_;refine ra 1 true rfl rfl rfl rfl rfl rfl ?_;refine w_7 ?_
   first | (refine ⟨i + 1, ?_, ?_, ?_⟩
            · show i + 1 ≤ _;omega
            · first | omega | (dsimp only;omega)
            exact ⟨⟨⟨_,rfl,(ca (vr (by omega) (by assumption)))⟩,zy,c9,trivial⟩,⟨⟨_,rfl,(c7 (vr (by omega) (by assumption)) (CoP.refl _))⟩,trivial⟩⟩)
         | (refine ⟨i + 1, ?_, ?_, ?_⟩
            · show i + 1 ≤ _;omega
            · first | omega | (dsimp only;omega)
            exact ⟨⟨⟨_,rfl,(cg (vf (by omega) (by assumption)))⟩,zy,c9,trivial⟩,⟨⟨_,rfl,(cb (vf (by omega) (by assumption)))⟩,trivial⟩⟩)
  have h1:=r1
  refine w_6 ?_
  first | (refine ⟨i + 1, ?_, ?_, ?_⟩
           · show i + 1 ≤ _;omega
           · first | omega | (dsimp only;omega)
           exact ⟨⟨⟨_,rfl,(ca (vr (by omega) (by assumption)))⟩,zy,c9,trivial⟩,⟨⟨_,rfl,(c7 (vr (by omega) (by assumption)) (CoP.refl _))⟩,trivial⟩⟩)
        | (refine ⟨i + 1, ?_, ?_, ?_⟩
           · show i + 1 ≤ _;omega
           · first | omega | (dsimp only;omega)
           exact ⟨⟨⟨_,rfl,(cg (vf (by omega) (by assumption)))⟩,zy,c9,trivial⟩,⟨⟨_,rfl,(cb (vf (by omega) (by assumption)))⟩,trivial⟩⟩)
 have h0:=aa r0
 try simp only [ty] at h0
 obtain rfl:i = 32:=by omega
 refine w_6 ?_;refine bi 2 rfl rfl rfl ?_
 exact hx8 rfl rfl rfl (⟨CoC.one (CoP.refl _),trivial⟩)
theorem sw:goodFn Tryz.prog 172:=wgx Tryz.func172
theorem xa (s:AS):af Tryz.prog 172 [pA s] (aj [pI (bsz s)]):=by
 refine a8 (nt:=6) a7 Tryz.func172 rfl rfl l9 ?_;refine w_7 ?_;refine qcx b3r (b8w s) ?_;refine w_3 ?_
 exact hx8 rfl rfl rfl (⟨cci (by rw [tx]),trivial⟩)
theorem za:goodFn Tryz.prog 55:=wgx Tryz.func55
theorem aad (s0:AS):af Tryz.prog 55 [pA s0] (aj [pP (il (ap s0))]):=by
 refine a8 (nt:=16) a7 Tryz.func55 rfl rfl l9 ?_;refine dl ?_
 refine d6 3 900 true 1 3 (lf iC []) (by decide) rfl (CoP.sl rfl (.inr rfl) (fun h=>h) (fun i j hi _=>absurd hi (Nat.not_lt_zero i))) (.inr rfl) rfl ?_
 refine ah (ι:=List Nat × AS) ⟨[],[]⟩ ⟨trivial,trivial⟩ (fun x=>⟨[(3,some (.v (.one (.ref 900 x.1.length)))),(0,some (vA x.2))],[(900,some (.arr true 1 3 x.1.length (lf iC x.1)))]⟩) (fun x=>x.1 ++ ap x.2 = ap s0) (fun x=>x.2.toNat) (([],s0)) (rfl) ⟨⟨zy,zy,trivial⟩,⟨u9,trivial⟩⟩ ?_
 rintro x hx
 have hlen:=aoi x hx
 refine w_6 ?_;refine a6 _ rfl (fun r0=>?_) (fun r0=>?_)
 ·
  have h0:=r0
  have h0:=aa (au h0)
  try simp only [ty] at h0
  have hne:x.2 ≠ 0:=fun e=>h0 (by rw [e];rfl)
  refine w_6 ?_;refine qcx b2y (cTz x.2) ?_;refine m9 0 ?_;refine ra 1 true rfl rfl rfl rfl rfl rfl ?_;refine w_5 ?_;refine rq rfl rfl rfl rfl rfl ?_ (hp:=(wn hne));refine w_3 ?_
  refine ⟨(x.1 ++ [i6 x.2],x.2 &&& (x.2 - 1)), ?_, ?_, ?_⟩
  · show (x.1 ++ [i6 x.2]) ++ ap (x.2 &&& (x.2 - 1)) = ap s0
    rw [← hx,ao7 hne,List.append_assoc];rfl
  · exact atb hne
  exact ⟨⟨⟨_,rfl,(ca rfl)⟩,⟨_,rfl,(dz (afs hne))⟩,trivial⟩,⟨⟨_,rfl,(c7 rfl (CoP.refl _))⟩,trivial⟩⟩
 have h0:=r0
 have h0:=ae (ar h0)
 try simp only [ty] at h0
 have hz:x.2 = 0:=c8.1 h0
 refine w_6 ?_;refine bi 2 rfl rfl rfl ?_
 exact hx8 rfl rfl rfl (⟨CoC.one (CoP.of_eq (by rw [hz,a8h,List.append_nil] at hx;rw [← hx];rfl)),trivial⟩)
theorem az0:goodFn Tryz.prog 213:=wgx Tryz.func213
theorem b97 (s:AS):af Tryz.prog 213 [pA s] (aj [pI (bsz s)]):=by
 refine a8 (nt:=21) a7 Tryz.func213 rfl rfl l9 ?_;refine w_5 ?_;refine bg (E:=bj) a7 aw [0,1,2,3,4,5,6,7,8,9,10,11,12,13,14,15,16,17,18] ?_;refine w_2 ?_
 refine rq rfl rfl rfl rfl rfl ?_ (hp:=(bb3 s (by decide +kernel)));refine w_3 ?_;refine rq rfl rfl rfl rfl rfl ?_ (hp:=(ixM s 16 (by omega) (by decide +kernel)));refine rqw rfl rfl rfl rfl rfl ?_;refine w_3 ?_
 refine rq rfl rfl rfl rfl rfl ?_ (hp:=(ixM s 8 (by omega) (by decide +kernel)));refine rqw rfl rfl rfl rfl rfl ?_;refine w_2 ?_;refine rq rfl rfl rfl rfl rfl ?_ (hp:=(ixL s (by decide +kernel)))
 (iterate 2 refine rqw rfl rfl rfl rfl rfl ?_);refine w_2 ?_;refine ⟨by kernel_rfl, ?_⟩
 exact hx8 rfl rfl rfl (⟨cci (b57 (by decide +kernel) (ay1 s 24 (by omega)) (aln s 16 (by omega)) (aln s 8 (by omega)) (axn s)),trivial⟩)
theorem vq:goodFn Tryz.prog 168:=wgx Tryz.func168
theorem a51 (s:AS):af Tryz.prog 168 [pA s] (aj [pI (bsz s)]):=by
 refine a8 (nt:=5) a7 Tryz.func168 rfl rfl l9 ?_;refine w_7 ?_;refine qcx az0 (b97 s) ?_;refine w_2 ?_
 exact hx8 rfl rfl rfl (CoL.refl _)
end
section
def jt (l:List AS) (k:Nat) (r:AS):List AS:=l.take k ++ r :: l.drop k
theorem kg {l:List AS} {k:Nat} {r:AS} (h:k ≤ l.length):(jt l k r).length = l.length + 1:=by simp [jt];omega
theorem au9 {l:List AS} {r:AS}:jt l l.length r = l ++ [r]:=by simp [jt]
theorem a1d {l:List AS} {k i:Nat} {r:AS} (h:k ≤ l.length):(jt l k r)[i]? = if i < k then l[i]? else if i = k then some r else l[i - 1]?:=by
 simp only [jt]
 by_cases h1:i < k
 · rw [if_pos h1,List.getElem?_append_left (by simp;omega),List.getElem?_take,if_pos h1]
 rw [if_neg h1,List.getElem?_append_right (by simp;omega),List.length_take,Nat.min_eq_left h]
 by_cases h2:i = k
 · subst h2;simp
 rw [if_neg h2]
 obtain ⟨d,rfl⟩:∃ d,i = k + 1 + d:=⟨i - k - 1,by omega⟩
 rw [show k + 1 + d - k = d + 1 by omega,List.getElem?_cons_succ,List.getElem?_drop]
 congr 1
 omega
theorem ao3 {l:List AS} {k:Nat} {r:AS} (h:k ≤ l.length):(jt l k r).getD k default = r:=by
 rw [List.getD_eq_getElem?_getD,a1d h,if_neg (by omega),if_pos rfl];rfl
theorem ach {l:List AS} {k:Nat} {r:AS} (h0:0 < k) (h:k ≤ l.length):(jt l k r).getD (k - 1) default = l.getD (k - 1) default:=by
 rw [List.getD_eq_getElem?_getD,a1d h,if_pos (by omega),List.getD_eq_getElem?_getD]
theorem ani {l:List AS} {k:Nat} {r:AS} (h0:0 < k) (h:k ≤ l.length):((jt l k r).set k (l.getD (k - 1) default)).set (k - 1) r = jt l (k - 1) r:=by
 apply List.ext_getElem?
 intro i
 rw [a1d (by omega),List.getElem?_set,List.getElem?_set,List.length_set,kg h,a1d h]
 by_cases h1:k - 1 = i
 · subst h1
   rw [if_pos rfl,if_pos (by omega),if_neg (by omega),if_pos rfl]
 rw [if_neg h1]
 by_cases h2:k = i
 · subst h2
   rw [if_pos rfl,if_pos (by omega),if_neg (by omega),if_neg (by omega),List.getD,List.getElem?_eq_getElem (by omega)]
   rfl
 rw [if_neg h2]
 by_cases h3:i < k
 · rw [if_pos h3,if_pos (by omega)]
 rw [if_neg h3,if_neg (by omega),if_neg (by omega),if_neg (by omega)]
theorem aov {l:List AS} {k k' m':Nat} {r:AS} (h0:0 < k) (hk:k ≤ l.length) (hk':k' = k) (hm':m' = k - 1) {n:Nat} (hn:n = l.length + 1) {e:TypeId} :
 CoO (.arr true 1 e n (eu (eu (lf sC (jt l k r)) k' 0 [lf sC (jt l k r) m' 0]) m' 0 [lf sC (jt l k r) k' 0])) (.arr true 1 e n (lf sC (jt l (k - 1) r))):=by
 subst hk' hm'
 rw [← ani h0 hk]
 refine b0j (fun h=>h) (by rw [kg hk];exact hn) (by rw [kg hk];omega) (by rw [kg hk];omega) rfl rfl (fun j hj=>?_) (fun j hj=>?_)
 · obtain rfl:j = 0:=by omega
   exact CoP.of_eq (by show sC ((jt l k' r).getD (k' - 1) default) 0 = _;rw [ach h0 hk])
 obtain rfl:j = 0:=by omega
 exact CoP.of_eq (by show sC ((jt l k' r).getD k' default) 0 = _;rw [ao3 hk])
theorem asd {l:List AS} {k k' m':Nat} {r:AS} {b:Bool} (h0:0 < k) (hk:k ≤ l.length) (h:bef ((jt l k r).getD k' default) ((jt l k r).getD m' default) = b) (hk':k' = k) (hm':m' = k - 1):bef r (l.getD (k - 1) default) = b:=by
 subst hk' hm'
 rwa [ao3 hk,ach h0 hk] at h
theorem a79 {l:List AS} {j:Nat} (h:j < l.length):l.getD j default ∈ l:=by
 rw [List.getD_eq_getElem?_getD,List.getElem?_eq_getElem h]
 exact List.getElem_mem h
theorem aco {l:List AS} {k:Nat} {r:AS} (hs:p9 l) (hr:r ∉ l) (hk:k ≤ l.length) (h1:∀ j,k ≤ j → j < l.length → bef r (l.getD j default) = true) (h2:k = 0 ∨ ¬ bef r (l.getD (k - 1) default) = true):jt l k r = ke r l:=by
 refine oe ?_ (xw hs) fun z=>?_
 · unfold p9 jt
   rw [List.pairwise_append]
   refine ⟨hs.sublist (List.take_sublist _ _),List.pairwise_cons.2 ⟨fun z hz=>?_,hs.sublist (List.drop_sublist _ _)⟩,fun y hy z hz=>?_⟩
   · obtain ⟨j,hj,rfl⟩:=List.getElem_of_mem hz
     rw [List.length_drop] at hj
     have:=h1 (k + j) (by omega) (by omega)
     rwa [List.getD_eq_getElem?_getD,List.getElem?_eq_getElem (by omega),Option.getD_some,← List.getElem_drop] at this
   have hyr:bef y r = true:=by
    obtain ⟨j,hj,rfl⟩:=List.getElem_of_mem hy
    rw [List.length_take] at hj
    rcases h2 with h2 | h2
    · omega
    have hk1:k - 1 < l.length:=by omega
    have hlast:bef (l.getD (k - 1) default) r = true:=by
     rcases a4s (a:=r) (b:=l.getD (k - 1) default) (fun e=>hr (e ▸ a79 hk1)) with h | h
     · exact absurd h h2
     exact h
    rw [List.getElem_take]
    by_cases hjk:j = k - 1
    · subst hjk
      rwa [List.getD_eq_getElem?_getD,List.getElem?_eq_getElem hk1,Option.getD_some] at hlast
    refine qj ?_ hlast
    rw [List.getD_eq_getElem?_getD,List.getElem?_eq_getElem hk1,Option.getD_some]
    exact List.pairwise_iff_getElem.1 hs j (k - 1) (by omega) hk1 (by omega)
   rcases List.mem_cons.1 hz with rfl | hz
   · exact hyr
   have h3:bef r z = true:=by
    obtain ⟨j,hj,rfl⟩:=List.getElem_of_mem hz
    rw [List.length_drop] at hj
    have:=h1 (k + j) (by omega) (by omega)
    rwa [List.getD_eq_getElem?_getD,List.getElem?_eq_getElem (by omega),Option.getD_some,← List.getElem_drop] at this
   exact qj hyr h3
 rw [w8]
 unfold jt
 rw [List.mem_append,List.mem_cons]
 constructor
 · rintro (h | h | h)
   · exact .inr (List.mem_of_mem_take h)
   · exact .inl h
   exact .inr (List.mem_of_mem_drop h)
 rintro (h | h)
 · exact .inr (.inl h)
 rw [← List.take_append_drop k l,List.mem_append] at h
 rcases h with h | h
 · exact .inl h
 exact .inr (.inr h)
theorem sh {r:AS} {l:List AS} (hs:p9 l) (hr:r ∈ l):ke r l = l:=oe (xw hs) hs fun z=>by
 rw [w8]
 constructor
 · rintro (rfl | h)
   · exact hr
   exact h
 exact .inr
theorem gm {l:List AS} {i:Nat} (hi:i < l.length):ord (l.take (i + 1)) = ke (l.getD i default) (ord (l.take i)):=by
 unfold ord
 rw [b5 hi,List.foldl_append]
 rfl
theorem aeo (x:AS):∀ l:List AS,(ke x l).length ≤ l.length + 1
 | []=>by simp [ke]
 | y :: l=>by
  unfold ke
  have:=aeo x l
  split
  · simp
  split
  · simp
  simp only [List.length_cons];omega
theorem l7 (l:List AS):(ord l).length ≤ l.length:=by
 have:∀ (l o:List AS),(l.foldl (fun o x=>ke x o) o).length ≤ o.length + l.length:=by
  intro l
  induction l with
  | nil=>intro o;simp
  | cons x l ih =>
   intro o
   have h1:=ih (ke x o)
   have h2:=aeo x o
   simp only [List.foldl_cons,List.length_cons]
   omega
 have h:=this l []
 simpa [ord] using h
theorem aio {l:List AS} {s:AS}:(l.any fun x=>decide (x = s)) = decide (s ∈ l):=by
 rw [Bool.eq_iff_iff,List.any_eq_true,decide_eq_true_iff]
 constructor
 · rintro ⟨x,hx,h⟩
   exact of_decide_eq_true h ▸ hx
 intro h
 exact ⟨s,h,decide_eq_true rfl⟩
def jC:Int → Nat → PV:=fun n _=>.raw (.int .i64 n)
def orF (l:List Int):Int:=(l.find? fun x=>decide (x ≠ 0)).getD 0
theorem baa {l:List Int} {i:Nat} (hi:i < l.length) (hI:∀ j,j < i → decide (l.getD j default = 0) = true) (h:¬ l.getD i default = 0):orF l = l.getD i default:=by
 unfold orF
 have:l.find? (fun x=>decide (x ≠ 0)) = some (l.getD i default):=by
  rw [List.find?_eq_some_iff_getElem]
  refine ⟨decide_eq_true h,i,hi,by simp [List.getD,hi],fun j hj=>?_⟩
  have:=of_decide_eq_true (hI j hj)
  rw [List.getD_eq_getElem?_getD,List.getElem?_eq_getElem (by omega),Option.getD_some] at this
  simp [this]
 rw [this];rfl
theorem b8i {l:List Int} (hI:∀ j,j < l.length → decide (l.getD j default = 0) = true):orF l = 0:=by
 unfold orF
 have:l.find? (fun x=>decide (x ≠ 0)) = none:=by
  rw [List.find?_eq_none]
  intro x hx
  obtain ⟨j,hj,rfl⟩:=List.getElem_of_mem hx
  have:=of_decide_eq_true (hI j hj)
  rw [List.getD_eq_getElem?_getD,List.getElem?_eq_getElem hj,Option.getD_some] at this
  simp [this]
 rw [this];rfl
theorem b0f (a b:AS):orF [jc (bsz a) (bsz b),jc (asI a) (asI b)] = a0v a b:=by
 unfold orF a0v
 by_cases h:jc (bsz a) (bsz b) = 0
 · by_cases h2:jc (asI a) (asI b) = 0 <;> simp [h,h2]
 simp [h]
theorem azi {α:Type} [Inhabited α] {cl:Bool} {c:α → Nat → PV} {x y:α} {f:Nat → Nat → PV} (h0:CoP (f 0 0) (c x 0)) (h1:CoP (f 1 0) (c y 0)):CoP (.sl 2 1 cl f) (psl 1 c [x,y]) :=
 CoP.sl rfl (.inl rfl) (fun h=>by cases h) fun i j hi hj=>by
  obtain rfl:j = 0:=by omega
  rcases (by omega:i = 0 ∨ i = 1) with rfl | rfl
  · exact h0
  exact h1
theorem b4n {a b:AS} (h:¬ (bsz a:Int) = bsz b):decide ((bsz a:Int) < bsz b) = bef a b:=by
 rw [Bool.eq_iff_iff,decide_eq_true_iff,kz]
 omega
theorem b7t {a b:AS} (h:(bsz a:Int) = bsz b):decide (asI a < asI b) = bef a b:=by
 rw [Bool.eq_iff_iff,decide_eq_true_iff,kz]
 unfold asI
 omega
theorem azf {α:Type} [Inhabited α] {wr wr':Bool} {e:TypeId} {c:α → Nat → PV} {l:List α} {x:α} {g:Nat → Nat → PV} (hg:CoP (g 0 0) (c x 0)) (hw:wr' = true → wr = true:=by exact fun h=>h) :
 CoO (.arr wr 1 e (l.length + 1) (gk l.length (lf c l) g)) (.arr wr' 1 e (l.length + 1) (lf c (l ++ [x]))):=by
 have h:=c7 (wr:=wr) (wr':=wr') (e:=e) (l:=l) (l':=l ++ [x]) (g:=g) rfl hg hw
 rwa [show (l ++ [x]).length = l.length + 1 by simp] at h
theorem fy {α:Type} [Inhabited α] {wr wr':Bool} {s n m:Nat} {e:TypeId} {c:α → Nat → PV} {l l':List α} (h:l' = l) (hn:n = m) (hw:wr' = true → wr = true:=by exact fun h=>h):CoO (.arr wr s e n (lf c l)) (.arr wr' s e m (lf c l')):=by
 subst h hn
 exact ⟨hw,rfl,rfl,rfl,fun _ _ _ _=>CoP.refl _⟩
theorem auk {a b:AS}:decide (a0v a b < 0) = bef a b:=by
 rw [Bool.eq_iff_iff,decide_eq_true_iff,kz]
 unfold a0v jc asI
 split <;> (repeat' split) <;> omega
end
section
open Go.Proofs
theorem b3u:goodFn Tryz.prog 199:=wgx Tryz.func199
theorem az3 (a b:AS):af Tryz.prog 199 [pA a,pA b] (aj [pB (bef a b)]):=by
 refine a8 (nt:=18) a7 Tryz.func199 rfl rfl l9 ?_;refine w_8 ?_;refine qcx sw (xa _) ?_;refine qy ?_;refine qcx sw (xa _) ?_;refine w_2 ?_;refine a6 _ rfl (fun r0=>?_) (fun r0=>?_)
 ·
  have h0:=r0
  have h0:=aa (au h0)
  try simp only [ty] at h0
  refine w_3 ?_;refine qcx sw (xa _) ?_;refine qy ?_;refine qcx sw (xa _) ?_;refine w_3 ?_
  exact hx8 rfl rfl rfl (⟨ccb (b4n h0),trivial⟩)
 have h0:=r0
 have h0:=ae (ar h0)
 try simp only [ty] at h0
 refine w_8 ?_
 exact hx8 rfl rfl rfl (⟨ccb (b7t h0),trivial⟩)
theorem b3t:goodFn Tryz.prog 198:=wgx Tryz.func198
theorem cIn (l:List AS) (s:AS):af Tryz.prog 198 [pP (asl l),pA s] (aj [pB (decide (s ∈ l))]):=by
 refine a8 (nt:=18) a7 Tryz.func198 rfl rfl l9 ?_;refine d8 ?_
 refine dg 0 rfl fun hn=>?_
 refine w_3 ?_;refine d4 (ι:=Unit) ⟨[],[]⟩ ⟨trivial,trivial⟩ (fun _i=>⟨[],[]⟩) (fun _i=>decide (s ∈ l) = false) ?_ ?_
 ·
  refine w_5 ?_
  refine ah (ι:=Nat) ⟨[(0,some _),(1,some _)],[]⟩ ⟨⟨c9,c9,trivial⟩,trivial⟩ (fun i=>⟨[(5,some (vI i))],[]⟩) (fun i=>i ≤ l.length ∧ (∀ j,j < i → decide (l.getD j default = s) = false)) (fun i=>l.length - i) (0) (⟨Nat.zero_le _,cr⟩) ⟨⟨zy,trivial⟩,trivial⟩ ?_
  rintro i ⟨hi,hI⟩
  refine w_8 ?_;refine a6 _ rfl (fun r0=>?_) (fun r0=>?_)
  ·
   have h0:=ae r0
   try simp only [ty] at h0
   refine fc ?_;refine a6 _ rfl (fun r1=>?_) (fun r1=>?_)
   ·
    have h1:=ae r1
    try simp only [ty] at h1
    refine w_4 ?_
    exact hx8 rfl rfl rfl (⟨ccb (by rw [← aio];exact (alb (p:=fun x=>decide (x = s)) (i:=i) (by omega) (decide_eq_true (c8.1 h1))).symm),trivial⟩)
   have h1:=aa r1
   try simp only [ty] at h1
   refine w_6 ?_;refine ⟨i + 1, ?_, ?_, ?_⟩
   · exact ⟨by show i + 1 ≤ _;omega,bz hI (decide_eq_false fun e=>h1 (congrArg asI e))⟩
   · first | omega | (dsimp only;omega)
   exact ⟨⟨zy,c9,c9,trivial⟩,trivial⟩
  have h0:=aa r0
  try simp only [ty] at h0
  refine fe ?_;refine ⟨(), ?_, ?_⟩
  · rw [← aio];exact b93 (p:=fun x=>decide (x = s)) fun j hj=>hI j (by omega)
  exact ⟨trivial,trivial⟩
 rintro _ hj
 refine w_4 ?_
 exact hx8 rfl rfl rfl (⟨ccb hj.symm,trivial⟩)
theorem akw:goodFn Tryz.prog 266:=wgx Tryz.func266
theorem axg (a:Int):af Tryz.prog 266 [pI a] (aj [pB false]):=by
 refine a8 (nt:=6) a7 Tryz.func266 rfl rfl l9 ?_;refine f8 ?_
 exact hx8 rfl rfl rfl (⟨ccb (by simp),trivial⟩)
theorem ak6:goodFn Tryz.prog 267:=wgx Tryz.func267
theorem axy (a:AS):af Tryz.prog 267 [pA a] (aj [pB false]):=by
 refine a8 (nt:=6) a7 Tryz.func267 rfl rfl l9 ?_;refine f8 ?_
 exact hx8 rfl rfl rfl (⟨ccb (by simp),trivial⟩)
theorem ajx:goodFn Tryz.prog 245:=wgx Tryz.func245
theorem axz (a b:Int):af Tryz.prog 245 [pI a,pI b] (aj [pI (jc a b)]):=by
 refine a8 (nt:=20) a7 Tryz.func245 rfl rfl l9 ?_;refine w_7 ?_;refine qcx akw (axg _) ?_;refine w_5 ?_;refine qcx akw (axg _) ?_;refine w_7 ?_;refine a6 _ rfl (fun e=>by cases e) (fun _=>?_)
 refine w_6 ?_;refine a6 _ rfl (fun e=>by cases e) (fun _=>?_);refine w_8 ?_;refine a6 _ rfl (fun r0=>?_) (fun r0=>?_)
 ·
  have h0:=ae r0
  try simp only [ty] at h0
  refine w_4 ?_
  exact hx8 rfl rfl rfl (⟨cci (by unfold jc;first | (rw [if_pos (by omega)]) | (rw [if_neg (by omega),if_pos (by omega)]) | (rw [if_neg (by omega),if_neg (by omega)])),trivial⟩)
 have h0:=aa r0
 try simp only [ty] at h0
 refine w_8 ?_;refine a6 _ rfl (fun r1=>?_) (fun r1=>?_)
 ·
  have h1:=ae r1
  try simp only [ty] at h1
  refine w_4 ?_
  exact hx8 rfl rfl rfl (⟨cci (by unfold jc;first | (rw [if_pos (by omega)]) | (rw [if_neg (by omega),if_pos (by omega)]) | (rw [if_neg (by omega),if_neg (by omega)])),trivial⟩)
 have h1:=aa r1
 try simp only [ty] at h1
 refine w_5 ?_
 exact hx8 rfl rfl rfl (⟨cci (by unfold jc;first | (rw [if_pos (by omega)]) | (rw [if_neg (by omega),if_pos (by omega)]) | (rw [if_neg (by omega),if_neg (by omega)])),trivial⟩)
theorem b1n:goodFn Tryz.prog 246:=wgx Tryz.func246
theorem b9x (a b:AS):af Tryz.prog 246 [pA a,pA b] (aj [pI (jc (asI a) (asI b))]):=by
 refine a8 (nt:=20) a7 Tryz.func246 rfl rfl l9 ?_;refine w_7 ?_;refine qcx ak6 (axy _) ?_;refine w_5 ?_;refine qcx ak6 (axy _) ?_;refine w_7 ?_;refine a6 _ rfl (fun e=>by cases e) (fun _=>?_)
 refine w_6 ?_;refine a6 _ rfl (fun e=>by cases e) (fun _=>?_);refine w_8 ?_;refine a6 _ rfl (fun r0=>?_) (fun r0=>?_)
 ·
  have h0:=ae r0
  try simp only [ty] at h0
  refine w_4 ?_
  exact hx8 rfl rfl rfl (⟨cci (by unfold jc;first | (rw [if_pos (by omega)]) | (rw [if_neg (by omega),if_pos (by omega)]) | (rw [if_neg (by omega),if_neg (by omega)])),trivial⟩)
 have h0:=aa r0
 try simp only [ty] at h0
 refine w_8 ?_;refine a6 _ rfl (fun r1=>?_) (fun r1=>?_)
 ·
  have h1:=ae r1
  try simp only [ty] at h1
  refine w_4 ?_
  exact hx8 rfl rfl rfl (⟨cci (by unfold jc;first | (rw [if_pos (by omega)]) | (rw [if_neg (by omega),if_pos (by omega)]) | (rw [if_neg (by omega),if_neg (by omega)])),trivial⟩)
 have h1:=aa r1
 try simp only [ty] at h1
 refine w_5 ?_
 exact hx8 rfl rfl rfl (⟨cci (by unfold jc;first | (rw [if_pos (by omega)]) | (rw [if_neg (by omega),if_pos (by omega)]) | (rw [if_neg (by omega),if_neg (by omega)])),trivial⟩)
theorem azw:goodFn Tryz.prog 244:=wgx Tryz.func244
theorem cOr (l:List Int):af Tryz.prog 244 [pP (psl 1 jC l)] (aj [pI (orF l)]):=by
 refine a8 (nt:=18) a7 Tryz.func244 rfl rfl l9 ?_;refine d8 ?_
 refine dg 0 rfl fun hn=>?_
 refine w_7 ?_;refine d4 (ι:=Unit) ⟨[(3,some _)],[]⟩ ⟨⟨c9,trivial⟩,trivial⟩ (fun _i=>⟨[],[]⟩) (fun _i=>orF l = 0) ?_ ?_
 ·
  refine w_7 ?_
  refine ah (ι:=Nat) ⟨[(3,some _),(6,some _),(7,some _)],[]⟩ ⟨⟨c9,c9,c9,trivial⟩,trivial⟩ (fun i=>⟨[(8,some (vI i))],[]⟩) (fun i=>i ≤ l.length ∧ (∀ j,j < i → decide (l.getD j default = 0) = true)) (fun i=>l.length - i) (0) (⟨Nat.zero_le _,cr⟩) ⟨⟨zy,trivial⟩,trivial⟩ ?_
  rintro i ⟨hi,hI⟩
  refine w_5 ?_;refine a6 _ rfl (fun r0=>?_) (fun r0=>?_)
  ·
   have h0:=ae r0
   try simp only [ty] at h0
   refine mr ?_;refine a6 _ rfl (fun r1=>?_) (fun r1=>?_)
   ·
    have h1:=r1
    have h1:=aa (au h1)
    try simp only [ty] at h1
    refine w_5 ?_
    exact hx8 rfl rfl rfl (⟨cci (baa (i:=i) (by omega) hI h1).symm,trivial⟩)
   have h1:=r1
   have h1:=ae (ar h1)
   try simp only [ty] at h1
   refine w_5 ?_;refine ⟨i + 1, ?_, ?_, ?_⟩
   · exact ⟨by show i + 1 ≤ _;omega,bz hI (decide_eq_true h1)⟩
   · first | omega | (dsimp only;omega)
   exact ⟨⟨zy,c9,c9,c9,trivial⟩,trivial⟩
  have h0:=aa r0
  try simp only [ty] at h0
  refine fe ?_;refine ⟨(), ?_, ?_⟩
  · exact b8i fun j hj=>hI j (by omega)
  exact ⟨⟨c9,trivial⟩,trivial⟩
 rintro _ hj
 refine w_5 ?_
 exact hx8 rfl rfl rfl (⟨cci hj.symm,trivial⟩)
theorem aua (a b:AS):af Tryz.prog 215 [pA a,pA b] (aj [pI (a0v a b)]):=by
 refine a8 (nt:=15) a7 Tryz.func215 rfl rfl l9 ?_;refine w_7 ?_;refine qcx vq (a51 _) ?_;refine qy ?_;refine qcx vq (a51 _) ?_;refine qcx ajx (axz _ _) ?_;refine w_2 ?_
 refine qcx b1n (b9x _ _) ?_;refine m9 0 ?_;refine rc rfl rfl rfl rfl rfl rfl azw (cOr [jc (bsz a) (bsz b),jc (asI a) (asI b)]) (⟨CoC.one (azi (CoP.refl _) (CoP.refl _)),trivial⟩) rfl rfl ?_;refine w_2 ?_
 exact hx8 rfl rfl rfl (⟨cci (b0f a b),trivial⟩)
theorem b2m:goodFn Tryz.prog 144:=wgx Tryz.func144
theorem ayf (l:List AS) (hl:l.length ≤ 8589934592):af Tryz.prog 144 [pP (asl l)] (aj [pP (asl (ord l))]):=by
 refine a8 (nt:=61) a7 Tryz.func144 rfl rfl l9 ?_;refine d8 ?_
 refine dg 0 rfl fun hn=>?_
 refine kf ?_;refine d6 3 900 true 1 46 (lf sC []) (by decide) rfl (CoP.sl rfl (.inr rfl) (fun h=>h) (fun i j hi _=>absurd hi (Nat.not_lt_zero i))) (.inr rfl) rfl ?_
 refine ah (ι:=Nat) ⟨[(0,some _)],[]⟩ ⟨⟨c9,trivial⟩,trivial⟩ (fun i=>⟨[(3,some (.v (.one (.ref 900 (ord (l.take i)).length)))),(4,some (vI i))],[(900,some (.arr true 1 46 (ord (l.take i)).length (lf sC (ord (l.take i)))))]⟩) (fun i=>i ≤ l.length) (fun i=>l.length - i) (0) (Nat.zero_le _) ⟨⟨zy,zy,trivial⟩,⟨u9,trivial⟩⟩ ?_
 rintro i hi
 have hlen:=l7 (l.take i)
 rw [List.length_take] at hlen
 refine w_8 ?_;refine a6 _ rfl (fun r0=>?_) (fun r0=>?_)
 ·
  have h0:=ae r0
  try simp only [ty] at h0
  refine f8 ?_;refine qcx b3t (cIn (ord (l.take i)) (l.getD i default)) ?_;refine ax ?_;refine a6 _ rfl (fun r1=>?_) (fun r1=>?_)
  ·
   have h1:=r1
   have hin:=ae h1
   refine w_6 ?_
   first | (refine ⟨i + 1, ?_, ?_, ?_⟩
            · show i + 1 ≤ _;omega
            · first | omega | (dsimp only;omega)
            exact ⟨⟨⟨_,rfl,(cg (by rw [gm (by omega),sh (j8 _) hin]))⟩,zy,c9,trivial⟩,⟨⟨_,rfl,(cb (by rw [gm (by omega),sh (j8 _) hin]))⟩,trivial⟩⟩)
         | (refine ⟨i + 1, ?_, ?_, ?_⟩
            · show i + 1 ≤ _;omega
            · first | omega | (dsimp only;omega)
            exact ⟨⟨⟨_,rfl,(aa7 (by rw [gm (by omega),← hfin,kg hk]))⟩,zy,c9,trivial⟩,⟨⟨_,rfl,(fy (by rw [gm (by omega),← hfin]) (by rw [gm (by omega),← hfin,kg hk]))⟩,trivial⟩⟩)
  have h1:=r1
  have hin:=aa h1
  refine w_8 ?_;refine m9 0 ?_;refine ra 1 true rfl rfl rfl rfl rfl rfl ?_;refine dl ?_
  refine ah (ι:=Nat) ⟨[(0,some _),(3,some _),(4,some _)],[]⟩ ⟨⟨c9,c9,c9,trivial⟩,trivial⟩ (fun k=>⟨[(5,some (vI k))],[(900,some (.arr true 1 46 ((ord (l.take i)).length + 1) (lf sC (jt (ord (l.take i)) k (l.getD i default)))))]⟩) (fun k=>k ≤ (ord (l.take i)).length ∧ ∀ j,k ≤ j → j < (ord (l.take i)).length → bef (l.getD i default) ((ord (l.take i)).getD j default) = true) (fun k=>k) ((ord (l.take i)).length) (⟨Nat.le_refl _,fun j h1 h2=>by omega⟩) ⟨⟨zy,trivial⟩,⟨⟨_,rfl,(by rw [au9];exact azf (CoP.refl _))⟩,trivial⟩⟩ ?_
  rintro k ⟨hk,hK⟩
  refine w_2 ?_;refine bg (E:=bj) a7 aw [0,1,2,3,4,5,6,7,8,9,10,11,12,13] ?_;refine w_3 ?_;refine b9 rfl rfl (fun r2=>?_) (fun r2=>?_)
  ·
   have h2:=ae r2
   try simp only [ty] at h2
   (iterate 9 refine qy ?_ (hg:=(gtt r2)));refine qcx b3u (az3 _ _) ?_ (hg:=(gtt r2));refine w_2 ?_;refine ⟨by kernel_rfl, ?_⟩;refine a6 _ rfl (fun r3=>?_) (fun r3=>?_)
   ·
    have h3:=r3
    have h3:=du r2 h3
    have hb:=asd (by omega) hk h3 (by omega) (by omega)
    refine w_3 ?_;refine bg (E:=bj) a7 aw [0,1,5,6,7,8,9,10,11,12,13,14,15,2,3,4,16,17] ?_;refine a2e ?_;refine ⟨by kernel_rfl, ?_⟩;refine w_5 ?_;refine ⟨k - 1, ?_, ?_, ?_⟩
    · refine ⟨by omega,fun j h1 h2=>?_⟩
      by_cases hj:j = k - 1
      · rw [hj];exact hb
      exact hK j (by omega) h2
    · show k - 1 < k
      omega
    exact ⟨⟨zy,c9,c9,c9,trivial⟩,⟨⟨_,rfl,(aov (by omega) hk (by omega) (by omega) rfl)⟩,trivial⟩⟩
   have h3:=r3
   have h3:=du r2 h3
   have hb:=asd (by omega) hk h3 (by omega) (by omega)
   have hfin:=aco (j8 _) hin hk hK (.inr (by rw [hb];decide))
   refine w_6 ?_
   first | (refine ⟨i + 1, ?_, ?_, ?_⟩
            · show i + 1 ≤ _;omega
            · first | omega | (dsimp only;omega)
            exact ⟨⟨⟨_,rfl,(cg (by rw [gm (by omega),sh (j8 _) hin]))⟩,zy,c9,trivial⟩,⟨⟨_,rfl,(cb (by rw [gm (by omega),sh (j8 _) hin]))⟩,trivial⟩⟩)
         | (refine ⟨i + 1, ?_, ?_, ?_⟩
            · show i + 1 ≤ _;omega
            · first | omega | (dsimp only;omega)
            exact ⟨⟨⟨_,rfl,(aa7 (by rw [gm (by omega),← hfin,kg hk]))⟩,zy,c9,trivial⟩,⟨⟨_,rfl,(fy (by rw [gm (by omega),← hfin]) (by rw [gm (by omega),← hfin,kg hk]))⟩,trivial⟩⟩)
  have h2:=aa r2
  try simp only [ty] at h2
  have hfin:=aco (j8 _) hin hk hK (.inl (by omega))
  (iterate 10 refine k9 (gft r2) ?_);refine rq rfl rfl rfl rfl rfl ?_ (hp:=r2);refine ax ?_;refine ⟨by kernel_rfl, ?_⟩;refine a6 _ rfl (fun e=>by cases e) (fun _=>?_);refine w_6 ?_
  first | (refine ⟨i + 1, ?_, ?_, ?_⟩
           · show i + 1 ≤ _;omega
           · first | omega | (dsimp only;omega)
           exact ⟨⟨⟨_,rfl,(cg (by rw [gm (by omega),sh (j8 _) hin]))⟩,zy,c9,trivial⟩,⟨⟨_,rfl,(cb (by rw [gm (by omega),sh (j8 _) hin]))⟩,trivial⟩⟩)
        | (refine ⟨i + 1, ?_, ?_, ?_⟩
           · show i + 1 ≤ _;omega
           · first | omega | (dsimp only;omega)
           exact ⟨⟨⟨_,rfl,(aa7 (by rw [gm (by omega),← hfin,kg hk]))⟩,zy,c9,trivial⟩,⟨⟨_,rfl,(fy (by rw [gm (by omega),← hfin]) (by rw [gm (by omega),← hfin,kg hk]))⟩,trivial⟩⟩)
 have h0:=aa r0
 try simp only [ty] at h0
 obtain rfl:i = l.length:=by omega
 refine w_6 ?_;refine bi 2 rfl rfl rfl ?_
 exact hx8 rfl rfl rfl (⟨CoC.one (CoP.of_eq (by rw [List.take_length];rfl)),trivial⟩)
end
end Go.Hx

/- A part of the proof: LyTz TzW Cs7 Cs8 V6 Cs9 V7. -/
import Derived.Shelf.Lays7
import Derived.Shelf.Spec.TrailingZeros
import Derived.Test.YtidophngianjiaaDoorProg
import Derived.Test.YtidophngianjiaaDoorDx15
set_option linter.all false
section
namespace Go.Proofs
open Go.Shelf
def Tryd.lays28_ren:Go.Shelf.Ren:=⟨fun | 28=>69 | n=>n,fun | 27=>33 | 3=>3 | 4=>4 | 25=>93 | 53=>115 | 0=>0 | 5=>5 | n=>n,fun | 0=>0 | n=>n⟩
theorem Tryd.lays28:Go.Proofs.Lays7.n28 Tryd.prog Tryd.lays28_ren:={
 mixed:=by kernel_rfl
 f28:=Tryd.func69.trans (congrArg some (by kernel_rfl))
 t0:=Tryd.underlying0
 a0:=Tryd.isAgg0
 z0:=Tryd.sizeOf0
 v0:=Tryd.zeroValue0
 i0:=by kernel_rfl
 t3:=Tryd.underlying3
 a3:=Tryd.isAgg3
 z3:=Tryd.sizeOf3
 v3:=Tryd.zeroValue3
 i3:=by kernel_rfl
 t4:=Tryd.underlying4
 a4:=Tryd.isAgg4
 z4:=Tryd.sizeOf4
 v4:=Tryd.zeroValue4
 i4:=by kernel_rfl
 t5:=Tryd.underlying5
 a5:=Tryd.isAgg5
 z5:=Tryd.sizeOf5
 v5:=Tryd.zeroValue5
 i5:=by kernel_rfl
 t25:=Tryd.underlying93
 a25:=Tryd.isAgg93
 z25:=Tryd.sizeOf93
 v25:=Tryd.zeroValue93
 i25:=by kernel_rfl
 t27:=Tryd.underlying33
 a27:=Tryd.isAgg33
 z27:=Tryd.sizeOf33
 v27:=Tryd.zeroValue33
 i27:=by kernel_rfl
 t53:=Tryd.underlying115
 a53:=Tryd.isAgg115
 z53:=Tryd.sizeOf115
 v53:=Tryd.zeroValue115
 i53:=by kernel_rfl
 g0:=by kernel_rfl }
end Go.Proofs
end
section
namespace Go.Hx
open Go.Proofs Go.RowKit
set_option maxRecDepth 100000
theorem apb:al Tryd.prog 69:=⟨Tryd.f69,Tryd.func69,by kernel_rfl,by kernel_rfl⟩
theorem ar3:∀ j,j < Lib.deBruijn32tab.length → oo 0 j = some (.int .u8 (Lib.deBruijn32tab.getD j 0)):=fun j hj=>by
 unfold oo
 rw [show me 0 = Lib.deBruijn32tab.map (fun k:Nat=>Value.int .u8 (k:Int)) from rfl,List.getElem?_map,List.getElem?_eq_getElem hj,List.getD_eq_getElem?_getD,List.getElem?_eq_getElem hj]
 rfl
theorem cTz (s:AS):ao Tryd.prog 69 [pA s] (ay [pI (jf s)]):=by
 intro w imm us htab him hus
 match us,hus with
 | [u],⟨hu,_⟩ =>
  obtain ⟨rfl,_⟩:=hu
  have h:=Any7.bits_TrailingZeros32 Tryd.lays28 s.toNat s.isLt w fun _ j hj=>by
   have hc:=htab 0 j _ (ar3 j hj)
   unfold fu at hc
   cases hb:imm 0 with
   | none=>rw [hb] at hc;cases hc
   | some ob =>
    rw [hb] at hc
    have hw:=him 0 ob hb
    cases ob <;> simp at hc
    show w.cell? ⟨0,j,none⟩ = _
    simp [World.cell?,hw,hc]
  refine h.mono ?_
  rintro e w' ⟨rfl,rfl⟩
  exact ⟨_,imm,rfl,⟨rfl,rfl⟩,fun _ _=>rfl,him,Below.refl _ _⟩
 | [],h=>exact h.elim
 | _ :: _ :: _,⟨_,h⟩=>exact h.elim
end Go.Hx
end
section
namespace Go.Hx
theorem a2z {id n m:Nat} (h:n = m):CoR (.v (.one (.ref id n))) (.v (.one (.ref id m))):=by subst h;exact CoR.refl _
section
variable {α:Type} [Inhabited α]
theorem a9f {wr wr':Bool} {s m:Nat} {e:TypeId} {c:α → Nat → PV} {l l':List α} {x:α} {g:Nat → Nat → PV} (h:l' = l ++ [x]) (hg:∀ j,j < s → CoP (g 0 j) (c x j)) (hm:m = 1:=by rfl) (hw:wr' = true → wr = true:=by exact fun h=>h) :
 CoO (.arr wr s e (l.length + m) (er l.length (lf c l) g)) (.arr wr' s e l'.length (lf c l')):=by
 subst h
 refine aqa [x] hw hm fun i j hi hj=>?_
 obtain rfl:i = 0:=by simp at hi;exact hi
 exact hg j hj
theorem bo {wr wr':Bool} {s:Nat} {e:TypeId} {c:α → Nat → PV} {l l':List α} (h:l' = l) (hw:wr' = true → wr = true:=by exact fun h=>h):CoO (.arr wr s e l.length (lf c l)) (.arr wr' s e l'.length (lf c l')):=by
 subst h
 exact ⟨hw,rfl,rfl,rfl,fun _ _ _ _=>CoP.refl _⟩
end
section
variable {α:Type} [Inhabited α]
theorem ck {id:Nat} {l l':List α} {x:α} (h:l' = l ++ [x]):CoR (.v (.one (.ref id (l.length + 1)))) (.v (.one (.ref id l'.length))):=by subst h;rw [List.length_append];exact CoR.refl _
theorem bn {id:Nat} {l l':List α} (h:l' = l):CoR (.v (.one (.ref id l.length))) (.v (.one (.ref id l'.length))):=by subst h;exact CoR.refl _
theorem ca {wr wr':Bool} {e:TypeId} {c:α → Nat → PV} {l l':List α} {x:α} {g:Nat → Nat → PV} (h:l' = l ++ [x]) (hg:CoP (g 0 0) (c x 0)) (hw:wr' = true → wr = true:=by exact fun h=>h) :
 CoO (.arr wr 1 e (l.length + 1) (er l.length (lf c l) g)) (.arr wr' 1 e l'.length (lf c l')) :=
 a9f h (fun j hj=>by
  obtain rfl:j = 0:=by omega
  exact hg) rfl hw
theorem a00 {wr wr':Bool} {e:TypeId} {c:α → Nat → PV} {l l':List α} {x:α} {g:Nat → Nat → PV} (h:l' = l ++ [x]) (h0:CoP (g 0 0) (c x 0)) (h1:CoP (g 0 1) (c x 1)) (hw:wr' = true → wr = true:=by exact fun h=>h) :
 CoO (.arr wr 2 e (l.length + 1) (er l.length (lf c l) g)) (.arr wr' 2 e l'.length (lf c l')) :=
 a9f h (fun j hj=>by
  rcases (by omega:j = 0 ∨ j = 1) with rfl | rfl
  · exact h0
  · exact h1) rfl hw
end
def kg (s:AS) (i:Nat):List Nat:=(List.range i).filter fun k=>s.getLsbD k
theorem xk {s:AS} {i:Nat} (hi:i < 32) (h:i7 s (i:Int) = true):kg s (i + 1) = kg s i ++ [i]:=by
 rw [p9 hi] at h
 unfold kg
 rw [List.range_succ,List.filter_append]
 simp [h]
theorem xz {s:AS} {i:Nat} (hi:i < 32) (h:i7 s (i:Int) = false):kg s (i + 1) = kg s i:=by
 rw [p9 hi] at h
 unfold kg
 rw [List.range_succ,List.filter_append]
 simp [h]
theorem ade (s:AS) (i:Nat):(kg s i).length ≤ i:=by
 unfold kg
 have:=List.length_filter_le (fun k=>s.getLsbD k) (List.range i)
 rwa [List.length_range] at this
end Go.Hx
end
section
namespace Go.Hx
def ju (b:Nat):Nat:=(List.range 8).countP fun i=>b.testBit i
theorem ku (p:Nat → Bool) (a b:Nat):(List.range (a + b)).countP p = (List.range a).countP p + (List.range b).countP fun i=>p (a + i):=by
 rw [List.range_add,List.countP_append,List.countP_map]
 rfl
theorem aih {n k j:Nat} (hj:j < 8):(n / 2 ^ k % 256).testBit j = n.testBit (k + j):=by
 rw [show (256:Nat) = 2 ^ 8 from rfl,Nat.testBit_mod_two_pow,Nat.testBit_div_two_pow,Nat.add_comm]
 simp [hj]
theorem apr (n:Nat) (hn:n < 2 ^ 32):(List.range (8 + (8 + (8 + 8)))).countP (fun i=>n.testBit i) = ju (n / 2 ^ 24) + ju (n / 2 ^ 16 % 256) + ju (n / 2 ^ 8 % 256) + ju (n % 256):=by
 have h:∀ k,(List.range 8).countP (fun i=>n.testBit (k + i)) = ju (n / 2 ^ k % 256):=fun k=>by
  unfold ju
  apply List.countP_congr
  intro j hj
  rw [aih (List.mem_range.1 hj)]
 have h3:n / 2 ^ 24 % 256 = n / 2 ^ 24:=Nat.mod_eq_of_lt (by omega)
 have h0:=h 0
 simp only [Nat.zero_add,Nat.pow_zero,Nat.div_one] at h0
 rw [ku,ku,ku,h0]
 have e2:=h 8
 have e3:=h 16
 have e4:=h 24
 rw [h3] at e4
 simp only [← Nat.add_assoc] at *
 simp only [Nat.reduceAdd] at *
 rw [e2,e3,e4]
 omega
theorem aet (s:AS):bsz s = ju (s.toNat / 2 ^ 24) + ju (s.toNat / 2 ^ 16 % 256) + ju (s.toNat / 2 ^ 8 % 256) + ju (s.toNat % 256):=apr s.toNat s.isLt
theorem yk (b:Nat):ju b ≤ 8:=by
 have:=List.countP_le_length (p:=fun i=>b.testBit i) (l:=List.range 8)
 rwa [List.length_range] at this
theorem akv (s:AS) (k:Nat) (hk:k ≤ 32):((asI s).fdiv (2 ^ (min k 32))).toNat = s.toNat / 2 ^ k:=by
 rw [un]
 show (((s >>> k).toNat:Nat):Int).toNat = _
 rw [Int.toNat_natCast,BitVec.toNat_ushiftRight,Nat.shiftRight_eq_div_pow]
theorem aal (s:AS) (k:Nat) (hk:k ≤ 32):(bz .and .u32 ((asI s).fdiv (2 ^ (min k 32))) 255).toNat = s.toNat / 2 ^ k % 256:=by
 rw [un,show (255:Int) = asI 255 from rfl,fc]
 show (((s >>> k &&& 255).toNat:Nat):Int).toNat = _
 rw [Int.toNat_natCast,BitVec.toNat_and,BitVec.toNat_ushiftRight,Nat.shiftRight_eq_div_pow,show (255:AS).toNat = 2 ^ 8 - 1 from rfl,Nat.and_two_pow_sub_one_eq_mod]
theorem ala (s:AS):(bz .and .u32 (asI s) 255).toNat = s.toNat % 256:=by
 rw [show (255:Int) = asI 255 from rfl,fc]
 show (((s &&& 255).toNat:Nat):Int).toNat = _
 rw [Int.toNat_natCast,BitVec.toNat_and,show (255:AS).toNat = 2 ^ 8 - 1 from rfl,Nat.and_two_pow_sub_one_eq_mod]
theorem ae6 (a b:Int):0 ≤ bz .and .u32 a b:=by
 show 0 ≤ IntKind.wrap .u32 _
 rw [a7n (Int.natCast_nonneg _) (by have:=(BitVec.ofInt 32 a &&& BitVec.ofInt 32 b).isLt;show ((BitVec.ofInt 32 a &&& BitVec.ofInt 32 b).toNat:Int) < _;omega)]
 exact Int.natCast_nonneg _
theorem alu (s:AS) (k:Nat):0 ≤ (asI s).fdiv (2 ^ (min k 32)):=by rw [un];exact a1g _
theorem arz {X:ByteArray} (s:AS) (hX:(256:Int) ≤ X.size):0 ≤ (asI s).fdiv (2 ^ (min 24 32)) ∧ (asI s).fdiv (2 ^ (min 24 32)) < X.size:=by
 have h1:=alu s 24
 have h2:=akv s 24 (by omega)
 have:=s.isLt
 exact ⟨h1,by omega⟩
theorem ixM {X:ByteArray} (s:AS) (k:Nat) (hk:k ≤ 32) (hX:(256:Int) ≤ X.size):0 ≤ bz .and .u32 ((asI s).fdiv (2 ^ (min k 32))) 255 ∧ bz .and .u32 ((asI s).fdiv (2 ^ (min k 32))) 255 < X.size:=by
 have h1:=ae6 ((asI s).fdiv (2 ^ (min k 32))) 255
 have h2:=aal s k hk
 exact ⟨h1,by omega⟩
theorem ixL {X:ByteArray} (s:AS) (hX:(256:Int) ≤ X.size):0 ≤ bz .and .u32 (asI s) 255 ∧ bz .and .u32 (asI s) 255 < X.size:=by
 have h1:=ae6 (asI s) 255
 have h2:=ala s
 exact ⟨h1,by omega⟩
theorem a3d {n:Int} (h0:0 ≤ n) (h1:n < 256):IntKind.wrap .u8 n = n:=mi (by simp only [inR,im,j7];omega)
theorem afl {n:Int} (h0:0 ≤ n) (h1:n < 256):IntKind.wrap .i64 n = n:=mi (by simp only [inR,im,j7];omega)
theorem aow {X:ByteArray} {s:AS} {i0 i1 i2 i3:Nat} (hX:∀ b,b < 256 → iz X b = (ju b:Int)) (h0:i0 = s.toNat / 2 ^ 24) (h1:i1 = s.toNat / 2 ^ 16 % 256) (h2:i2 = s.toNat / 2 ^ 8 % 256) (h3:i3 = s.toNat % 256) :
 IntKind.wrap .i64 (IntKind.wrap .u8 (IntKind.wrap .u8 (IntKind.wrap .u8 (iz X i0 + iz X i1) + iz X i2) + iz X i3)) = (bsz s:Int):=by
 have:=s.isLt
 subst h0 h1 h2 h3
 rw [hX _ (by omega),hX _ (by omega),hX _ (by omega),hX _ (by omega)]
 have a0:=yk (s.toNat / 2 ^ 24)
 have a1:=yk (s.toNat / 2 ^ 16 % 256)
 have a2:=yk (s.toNat / 2 ^ 8 % 256)
 have a3:=yk (s.toNat % 256)
 rw [aet]
 generalize ju (s.toNat / 2 ^ 24) = c0 at *
 generalize ju (s.toNat / 2 ^ 16 % 256) = c1 at *
 generalize ju (s.toNat / 2 ^ 8 % 256) = c2 at *
 generalize ju (s.toNat % 256) = c3 at *
 rw [a3d (n:=c0 + c1) (by omega) (by omega),a3d (n:=c0 + c1 + c2) (by omega) (by omega),a3d (n:=c0 + c1 + c2 + c3) (by omega) (by omega),afl (n:=c0 + c1 + c2 + c3) (by omega) (by omega)]
 omega
theorem a5q (s:AS):bsz s ≤ 32:=by
 have:=List.countP_le_length (p:=fun i=>s.getLsbD i) (l:=List.range 32)
 rwa [List.length_range] at this
theorem af5 {s0:AS} (x:List Nat × AS) (h:x.1 ++ bi x.2 = bi s0):x.1.length ≤ 32:=by
 have h1:=congrArg List.length h
 rw [List.length_append,← l7 s0] at h1
 have:=a5q s0
 omega
theorem a82 {s:AS} (h:s ≠ 0):asI s - 1 = asI (s - 1):=by
 have h0:s.toNat ≠ 0:=fun e=>h (BitVec.eq_of_toNat_eq e)
 have:=s.isLt
 have e1:(s - 1).toNat = s.toNat - 1:=by
  rw [BitVec.toNat_sub]
  show (2 ^ 32 - 1 + s.toNat) % 2 ^ 32 = _
  omega
 unfold asI
 rw [e1]
 omega
theorem a85 {s:AS} (h:s ≠ 0):(du true .u32 (asI s - 1)).1:=by
 rw [a82 h]
 have h1:=a1g (s - 1)
 have h2:=a63 (s - 1)
 simp only [du,inR,im,j7]
 omega
theorem ag9 {s:AS} (h:s ≠ 0):bz .and .u32 (asI s) (asI s - 1) = asI (s &&& (s - 1)):=by rw [a82 h,fc]
def j6 (a b:Int):Int:=if a < b then -1 else if b < a then 1 else 0
def v7 (a b:AS):Int:=if j6 (bsz a) (bsz b) = 0 then j6 (asI a) (asI b) else j6 (bsz a) (bsz b)
end Go.Hx
end
section
namespace Go.Hx
open Go.Proofs
set_option maxRecDepth 100000
theorem apq:al Tryd.prog 30:=⟨Tryd.f30,Tryd.func30,by kernel_rfl,by kernel_rfl⟩
theorem aqm (s:AS):ao Tryd.prog 30 [pA s] (ay [pP (il (bi s))]):=by
 refine am (nt:=17) ai Tryd.func30 rfl rfl l9 ?_;refine sx7 ?_;refine qy ?_;refine a6 ?_;refine sx7 ?_;refine qy ?_;refine a6 ?_;refine a7 ?_;refine sx7 ?_;refine qy ?_;refine a6 ?_
 refine af ?_;refine dm 3 900 true 1 3 (lf iC []) (by decide) rfl (CoP.sl rfl (.inr rfl) (fun h=>h) (fun i j hi _=>absurd hi (Nat.not_lt_zero i))) (.inr rfl) rfl ?_
 refine av (ι:=Nat) ⟨[(0,some _)],[]⟩ ⟨⟨c9,trivial⟩,trivial⟩ (fun i=>⟨[(3,some (.v (.one (.ref 900 (kg s i).length)))),(4,some (vI i))],[(900,some (.arr true 1 3 (kg s i).length (lf iC (kg s i))))]⟩) (fun i=>i ≤ 32) (fun i=>32 - i) (0) (Nat.zero_le _) ⟨⟨zy,zy,trivial⟩,⟨u9,trivial⟩⟩ ?_
 rintro i hi
 have hlen:=ade s i
 refine a7 ?_;refine sx7 ?_;(iterate 2 refine qy ?_);refine a6 ?_;refine a8 _ rfl (fun r0=>?_) (fun r0=>?_)
 ·
  have h0:=of_decide_eq_true r0
  try simp only [ty] at h0
  refine aa ?_;refine a7 ?_;refine af ?_;refine sx7 ?_;(iterate 2 refine qy ?_);refine rc rfl rfl rfl rfl rfl rfl ao6 (as1 s i) (CoL.refl _) rfl rfl ?_;refine a6 ?_
  refine a8 _ rfl (fun r1=>?_) (fun r1=>?_)
  ·
   have h1:=r1
   refine gy ?_;(iterate 2 refine qy ?_);refine m9 0 ?_;refine ra 1 true rfl rfl rfl rfl rfl rfl ?_;refine qy ?_;refine a6 ?_;refine gy ?_;(iterate 3 refine qy ?_);refine a6 ?_
   first | (refine ⟨i + 1, ?_, ?_, ?_⟩
            · show i + 1 ≤ _;omega
            · first | omega | (dsimp only;omega)
            · exact ⟨⟨⟨_,rfl,(ck (xk (by omega) (by assumption)))⟩,zy,c9,trivial⟩,⟨⟨_,rfl,(ca (xk (by omega) (by assumption)) (CoP.refl _))⟩,trivial⟩⟩)
         | (refine ⟨i + 1, ?_, ?_, ?_⟩
            · show i + 1 ≤ _;omega
            · first | omega | (dsimp only;omega)
            · exact ⟨⟨⟨_,rfl,(bn (xz (by omega) (by assumption)))⟩,zy,c9,trivial⟩,⟨⟨_,rfl,(bo (xz (by omega) (by assumption)))⟩,trivial⟩⟩)
  ·
   have h1:=r1
   refine aa ?_;refine gy ?_;(iterate 3 refine qy ?_);refine a6 ?_
   first | (refine ⟨i + 1, ?_, ?_, ?_⟩
            · show i + 1 ≤ _;omega
            · first | omega | (dsimp only;omega)
            · exact ⟨⟨⟨_,rfl,(ck (xk (by omega) (by assumption)))⟩,zy,c9,trivial⟩,⟨⟨_,rfl,(ca (xk (by omega) (by assumption)) (CoP.refl _))⟩,trivial⟩⟩)
         | (refine ⟨i + 1, ?_, ?_, ?_⟩
            · show i + 1 ≤ _;omega
            · first | omega | (dsimp only;omega)
            · exact ⟨⟨⟨_,rfl,(bn (xz (by omega) (by assumption)))⟩,zy,c9,trivial⟩,⟨⟨_,rfl,(bo (xz (by omega) (by assumption)))⟩,trivial⟩⟩)
 ·
  have h0:=of_decide_eq_false r0
  try simp only [ty] at h0
  obtain rfl:i = 32:=by omega
  refine au ?_;refine sx7 ?_;(iterate 2 refine qy ?_);refine a6 ?_;refine c8 2 rfl rfl rfl ?_
  exact hx8 rfl rfl rfl (⟨CoC.one (CoP.refl _),trivial⟩)
theorem nb:al Tryd.prog 16:=⟨Tryd.f16,Tryd.func16,by kernel_rfl,by kernel_rfl⟩
theorem ng (s:AS):ao Tryd.prog 16 [pA s] (ay [pI (bsz s)]):=by
 refine am (nt:=6) ai Tryd.func16 rfl rfl l9 ?_;refine sx7 ?_;refine qy ?_;refine a6 ?_;refine sx7 ?_;refine qy ?_;refine rc rfl rfl rfl rfl rfl rfl apq (aqm s) (CoL.refl _) rfl rfl ?_
 (iterate 2 refine qy ?_);refine a6 ?_
 exact hx8 rfl rfl rfl (⟨cci (by rw [l7]),trivial⟩)
theorem aq9:al Tryd.prog 54:=⟨Tryd.f54,Tryd.func54,by kernel_rfl,by kernel_rfl⟩
theorem ase (s0:AS):ao Tryd.prog 54 [pA s0] (ay [pP (il (bi s0))]):=by
 refine am (nt:=16) ai Tryd.func54 rfl rfl l9 ?_;refine sx7 ?_;refine qy ?_;refine a6 ?_;refine sx7 ?_;refine qy ?_;refine a6 ?_;refine a7 ?_;refine af ?_
 refine dm 3 900 true 1 3 (lf iC []) (by decide) rfl (CoP.sl rfl (.inr rfl) (fun h=>h) (fun i j hi _=>absurd hi (Nat.not_lt_zero i))) (.inr rfl) rfl ?_
 refine av (ι:=List Nat × AS) ⟨[],[]⟩ ⟨trivial,trivial⟩ (fun x=>⟨[(3,some (.v (.one (.ref 900 x.1.length)))),(0,some (vA x.2))],[(900,some (.arr true 1 3 x.1.length (lf iC x.1)))]⟩) (fun x=>x.1 ++ bi x.2 = bi s0) (fun x=>x.2.toNat) (([],s0)) (rfl) ⟨⟨zy,zy,trivial⟩,⟨u9,trivial⟩⟩ ?_
 rintro x hx
 have hlen:=af5 x hx
 refine a7 ?_;refine sx7 ?_;(iterate 2 refine qy ?_);refine a6 ?_;refine a8 _ rfl (fun r0=>?_) (fun r0=>?_)
 ·
  have h0:=r0
  have h0:=of_decide_eq_false (cb h0)
  try simp only [ty] at h0
  have hne:x.2 ≠ 0:=fun e=>h0 (by rw [e];rfl)
  refine aa ?_;refine a7 ?_;refine af ?_;refine gy ?_;(iterate 2 refine qy ?_);refine rc rfl rfl rfl rfl rfl rfl apb (cTz x.2) (CoL.refl _) rfl rfl ?_;refine m9 0 ?_
  refine ra 1 true rfl rfl rfl rfl rfl rfl ?_;refine qy ?_;refine a6 ?_;refine gy ?_;(iterate 2 refine qy ?_);refine rq rfl rfl rfl rfl rfl ?_ (hp:=(a85 hne));(iterate 2 refine qy ?_);refine a6 ?_
  refine ⟨(x.1 ++ [jf x.2],x.2 &&& (x.2 - 1)), ?_, ?_, ?_⟩
  · show (x.1 ++ [jf x.2]) ++ bi (x.2 &&& (x.2 - 1)) = bi s0
    rw [← hx,aep hne,List.append_assoc];rfl
  · exact ai1 hne
  · exact ⟨⟨⟨_,rfl,(ck rfl)⟩,⟨_,rfl,(fg (ag9 hne))⟩,trivial⟩,⟨⟨_,rfl,(ca rfl (CoP.refl _))⟩,trivial⟩⟩
 ·
  have h0:=r0
  have h0:=of_decide_eq_true (ce h0)
  try simp only [ty] at h0
  have hz:x.2 = 0:=dt.1 h0
  refine au ?_;refine sx7 ?_;(iterate 2 refine qy ?_);refine a6 ?_;refine c8 2 rfl rfl rfl ?_
  exact hx8 rfl rfl rfl (⟨CoC.one (CoP.of_eq (by rw [hz,ac1,List.append_nil] at hx;rw [← hx];rfl)),trivial⟩)
theorem aov:al Tryd.prog 63:=⟨Tryd.f63,Tryd.func63,by kernel_rfl,by kernel_rfl⟩
theorem aru (s:AS):ao Tryd.prog 63 [pA s] (ay [pI (bsz s)]):=by
 refine am (nt:=21) ai Tryd.func63 rfl rfl l9 ?_;refine sx7 ?_;refine qy ?_;refine a6 ?_;refine a7 ?_
 refine d8 (E:=dg) ai c7 [0,1,2,3,4,5,6,7,8,9,10,11,12,13,14,15,16,17,18] ?_;(iterate 2 refine qy ?_);refine rq rfl rfl rfl rfl rfl ?_ (hp:=(arz s (by decide +kernel)))
 (iterate 3 refine qy ?_);refine rq rfl rfl rfl rfl rfl ?_ (hp:=(ixM s 16 (by omega) (by decide +kernel)));refine rqw rfl rfl rfl rfl rfl ?_;(iterate 3 refine qy ?_)
 refine rq rfl rfl rfl rfl rfl ?_ (hp:=(ixM s 8 (by omega) (by decide +kernel)));refine rqw rfl rfl rfl rfl rfl ?_;(iterate 2 refine qy ?_);refine rq rfl rfl rfl rfl rfl ?_ (hp:=(ixL s (by decide +kernel)))
 (iterate 2 refine rqw rfl rfl rfl rfl rfl ?_);refine qy ?_;refine a6 ?_;refine ⟨by kernel_rfl, ?_⟩
 exact hx8 rfl rfl rfl (⟨cci (aow (by decide +kernel) (akv s 24 (by omega)) (aal s 16 (by omega)) (aal s 8 (by omega)) (ala s)),trivial⟩)
theorem a15:al Tryd.prog 46:=⟨Tryd.f46,Tryd.func46,by kernel_rfl,by kernel_rfl⟩
theorem a57 (s:AS):ao Tryd.prog 46 [pA s] (ay [pI (bsz s)]):=by
 refine am (nt:=5) ai Tryd.func46 rfl rfl l9 ?_;refine sx7 ?_;refine qy ?_;refine a6 ?_;refine sx7 ?_;refine qy ?_;refine rc rfl rfl rfl rfl rfl rfl aov (aru s) (CoL.refl _) rfl rfl ?_;refine qy ?_
 refine a6 ?_
 exact hx8 rfl rfl rfl (CoL.refl _)
end Go.Hx
end
section
namespace Go.Hx
def gf (l:List AS) (k:Nat) (r:AS):List AS:=l.take k ++ r :: l.drop k
theorem gq {l:List AS} {k:Nat} {r:AS} (h:k ≤ l.length):(gf l k r).length = l.length + 1:=by simp [gf];omega
theorem ajg {l:List AS} {r:AS}:gf l l.length r = l ++ [r]:=by simp [gf]
theorem ub {l:List AS} {k i:Nat} {r:AS} (h:k ≤ l.length):(gf l k r)[i]? = if i < k then l[i]? else if i = k then some r else l[i - 1]?:=by
 simp only [gf]
 by_cases h1:i < k
 · rw [if_pos h1,List.getElem?_append_left (by simp;omega),List.getElem?_take,if_pos h1]
 · rw [if_neg h1,List.getElem?_append_right (by simp;omega),List.length_take,Nat.min_eq_left h]
   by_cases h2:i = k
   · subst h2;simp
   · rw [if_neg h2]
     obtain ⟨d,rfl⟩:∃ d,i = k + 1 + d:=⟨i - k - 1,by omega⟩
     rw [show k + 1 + d - k = d + 1 by omega,List.getElem?_cons_succ,List.getElem?_drop]
     congr 1
     omega
theorem afi {l:List AS} {k:Nat} {r:AS} (h:k ≤ l.length):(gf l k r).getD k default = r:=by
 rw [List.getD_eq_getElem?_getD,ub h,if_neg (by omega),if_pos rfl];rfl
theorem a3z {l:List AS} {k:Nat} {r:AS} (h0:0 < k) (h:k ≤ l.length):(gf l k r).getD (k - 1) default = l.getD (k - 1) default:=by
 rw [List.getD_eq_getElem?_getD,ub h,if_pos (by omega),List.getD_eq_getElem?_getD]
theorem ae2 {l:List AS} {k:Nat} {r:AS} (h0:0 < k) (h:k ≤ l.length):((gf l k r).set k (l.getD (k - 1) default)).set (k - 1) r = gf l (k - 1) r:=by
 apply List.ext_getElem?
 intro i
 rw [ub (by omega),List.getElem?_set,List.getElem?_set,List.length_set,gq h,ub h]
 by_cases h1:k - 1 = i
 · subst h1
   rw [if_pos rfl,if_pos (by omega),if_neg (by omega),if_pos rfl]
 · rw [if_neg h1]
   by_cases h2:k = i
   · subst h2
     rw [if_pos rfl,if_pos (by omega),if_neg (by omega),if_neg (by omega),List.getD,List.getElem?_eq_getElem (by omega)]
     rfl
   · rw [if_neg h2]
     by_cases h3:i < k
     · rw [if_pos h3,if_pos (by omega)]
     · rw [if_neg h3,if_neg (by omega),if_neg (by omega),if_neg (by omega)]
theorem acj {l:List AS} {k k' m':Nat} {r:AS} (h0:0 < k) (hk:k ≤ l.length) (hk':k' = k) (hm':m' = k - 1) {n:Nat} (hn:n = l.length + 1) {e:TypeId} :
 CoO (.arr true 1 e n (f0 (f0 (lf sC (gf l k r)) k' 0 [lf sC (gf l k r) m' 0]) m' 0 [lf sC (gf l k r) k' 0])) (.arr true 1 e n (lf sC (gf l (k - 1) r))):=by
 subst hk' hm'
 rw [← ae2 h0 hk]
 refine an2 (fun h=>h) (by rw [gq hk];exact hn) (by rw [gq hk];omega) (by rw [gq hk];omega) rfl rfl (fun j hj=>?_) (fun j hj=>?_)
 · obtain rfl:j = 0:=by omega
   exact CoP.of_eq (by show sC ((gf l k' r).getD (k' - 1) default) 0 = _;rw [a3z h0 hk])
 · obtain rfl:j = 0:=by omega
   exact CoP.of_eq (by show sC ((gf l k' r).getD k' default) 0 = _;rw [afi hk])
theorem ad6 {l:List AS} {k k' m':Nat} {r:AS} {b:Bool} (h0:0 < k) (hk:k ≤ l.length) (h:bef ((gf l k r).getD k' default) ((gf l k r).getD m' default) = b) (hk':k' = k) (hm':m' = k - 1):bef r (l.getD (k - 1) default) = b:=by
 subst hk' hm'
 rwa [afi hk,a3z h0 hk] at h
theorem ak7 {l:List AS} {j:Nat} (h:j < l.length):l.getD j default ∈ l:=by
 rw [List.getD_eq_getElem?_getD,List.getElem?_eq_getElem h]
 exact List.getElem_mem h
theorem a4m {l:List AS} {k:Nat} {r:AS} (hs:jv l) (hr:r ∉ l) (hk:k ≤ l.length) (h1:∀ j,k ≤ j → j < l.length → bef r (l.getD j default) = true) (h2:k = 0 ∨ ¬ bef r (l.getD (k - 1) default) = true):gf l k r = gv r l:=by
 refine kd ?_ (qp hs) fun z=>?_
 · unfold jv gf
   rw [List.pairwise_append]
   refine ⟨hs.sublist (List.take_sublist _ _),List.pairwise_cons.2 ⟨fun z hz=>?_,hs.sublist (List.drop_sublist _ _)⟩,fun y hy z hz=>?_⟩
   · obtain ⟨j,hj,rfl⟩:=List.getElem_of_mem hz
     rw [List.length_drop] at hj
     have:=h1 (k + j) (by omega) (by omega)
     rwa [List.getD_eq_getElem?_getD,List.getElem?_eq_getElem (by omega),Option.getD_some,← List.getElem_drop] at this
   · have hyr:bef y r = true:=by
      obtain ⟨j,hj,rfl⟩:=List.getElem_of_mem hy
      rw [List.length_take] at hj
      rcases h2 with h2 | h2
      · omega
      · have hk1:k - 1 < l.length:=by omega
        have hlast:bef (l.getD (k - 1) default) r = true:=by
         rcases xo (a:=r) (b:=l.getD (k - 1) default) (fun e=>hr (e ▸ ak7 hk1)) with h | h
         · exact absurd h h2
         · exact h
        rw [List.getElem_take]
        by_cases hjk:j = k - 1
        · subst hjk
          rwa [List.getD_eq_getElem?_getD,List.getElem?_eq_getElem hk1,Option.getD_some] at hlast
        · refine l6 ?_ hlast
          rw [List.getD_eq_getElem?_getD,List.getElem?_eq_getElem hk1,Option.getD_some]
          exact List.pairwise_iff_getElem.1 hs j (k - 1) (by omega) hk1 (by omega)
     rcases List.mem_cons.1 hz with rfl | hz
     · exact hyr
     · have h3:bef r z = true:=by
        obtain ⟨j,hj,rfl⟩:=List.getElem_of_mem hz
        rw [List.length_drop] at hj
        have:=h1 (k + j) (by omega) (by omega)
        rwa [List.getD_eq_getElem?_getD,List.getElem?_eq_getElem (by omega),Option.getD_some,← List.getElem_drop] at this
       exact l6 hyr h3
 · rw [pg]
   unfold gf
   rw [List.mem_append,List.mem_cons]
   constructor
   · rintro (h | h | h)
     · exact .inr (List.mem_of_mem_take h)
     · exact .inl h
     · exact .inr (List.mem_of_mem_drop h)
   · rintro (h | h)
     · exact .inr (.inl h)
     · rw [← List.take_append_drop k l,List.mem_append] at h
       rcases h with h | h
       · exact .inl h
       · exact .inr (.inr h)
theorem mh {r:AS} {l:List AS} (hs:jv l) (hr:r ∈ l):gv r l = l:=kd (qp hs) hs fun z=>by
 rw [pg]
 constructor
 · rintro (rfl | h)
   · exact hr
   · exact h
 · exact .inr
theorem dl {l:List AS} {i:Nat} (hi:i < l.length):ord (l.take (i + 1)) = gv (l.getD i default) (ord (l.take i)):=by
 unfold ord
 rw [b8 hi,List.foldl_append]
 rfl
theorem a7g (x:AS):∀ l:List AS,(gv x l).length ≤ l.length + 1
 | []=>by simp [gv]
 | y :: l=>by
  unfold gv
  have:=a7g x l
  split
  · simp
  · split
    · simp
    · simp only [List.length_cons];omega
theorem md (l:List AS):(ord l).length ≤ l.length:=by
 have:∀ (l o:List AS),(l.foldl (fun o x=>gv x o) o).length ≤ o.length + l.length:=by
  intro l
  induction l with
  | nil=>intro o;simp
  | cons x l ih =>
   intro o
   have h1:=ih (gv x o)
   have h2:=a7g x o
   simp only [List.foldl_cons,List.length_cons]
   omega
 have h:=this l []
 simpa [ord] using h
theorem a9p {l:List AS} {s:AS}:(l.any fun x=>decide (x = s)) = decide (s ∈ l):=by
 rw [Bool.eq_iff_iff,List.any_eq_true,decide_eq_true_iff]
 constructor
 · rintro ⟨x,hx,h⟩
   exact of_decide_eq_true h ▸ hx
 · intro h
   exact ⟨s,h,decide_eq_true rfl⟩
def jC:Int → Nat → PV:=fun n _=>.raw (.int .i64 n)
def orF (l:List Int):Int:=(l.find? fun x=>decide (x ≠ 0)).getD 0
theorem aqz {l:List Int} {i:Nat} (hi:i < l.length) (hI:∀ j,j < i → decide (l.getD j default = 0) = true) (h:¬ l.getD i default = 0):orF l = l.getD i default:=by
 unfold orF
 have:l.find? (fun x=>decide (x ≠ 0)) = some (l.getD i default):=by
  rw [List.find?_eq_some_iff_getElem]
  refine ⟨decide_eq_true h,i,hi,by simp [List.getD,hi],fun j hj=>?_⟩
  have:=of_decide_eq_true (hI j hj)
  rw [List.getD_eq_getElem?_getD,List.getElem?_eq_getElem (by omega),Option.getD_some] at this
  simp [this]
 rw [this];rfl
theorem arl {l:List Int} (hI:∀ j,j < l.length → decide (l.getD j default = 0) = true):orF l = 0:=by
 unfold orF
 have:l.find? (fun x=>decide (x ≠ 0)) = none:=by
  rw [List.find?_eq_none]
  intro x hx
  obtain ⟨j,hj,rfl⟩:=List.getElem_of_mem hx
  have:=of_decide_eq_true (hI j hj)
  rw [List.getD_eq_getElem?_getD,List.getElem?_eq_getElem hj,Option.getD_some] at this
  simp [this]
 rw [this];rfl
theorem amk (a b:AS):orF [j6 (bsz a) (bsz b),j6 (asI a) (asI b)] = v7 a b:=by
 unfold orF v7
 by_cases h:j6 (bsz a) (bsz b) = 0
 · by_cases h2:j6 (asI a) (asI b) = 0 <;> simp [h,h2]
 · simp [h]
theorem am2 {α:Type} [Inhabited α] {cl:Bool} {c:α → Nat → PV} {x y:α} {f:Nat → Nat → PV} (h0:CoP (f 0 0) (c x 0)) (h1:CoP (f 1 0) (c y 0)):CoP (.sl 2 1 cl f) (psl 1 c [x,y]) :=
 CoP.sl rfl (.inl rfl) (fun h=>by cases h) fun i j hi hj=>by
  obtain rfl:j = 0:=by omega
  rcases (by omega:i = 0 ∨ i = 1) with rfl | rfl
  · exact h0
  · exact h1
theorem aoa {a b:AS} (h:¬ (bsz a:Int) = bsz b):decide ((bsz a:Int) < bsz b) = bef a b:=by
 rw [Bool.eq_iff_iff,decide_eq_true_iff,ik]
 omega
theorem aqc {a b:AS} (h:(bsz a:Int) = bsz b):decide (asI a < asI b) = bef a b:=by
 rw [Bool.eq_iff_iff,decide_eq_true_iff,ik]
 unfold asI
 omega
theorem amc {α:Type} [Inhabited α] {wr wr':Bool} {e:TypeId} {c:α → Nat → PV} {l:List α} {x:α} {g:Nat → Nat → PV} (hg:CoP (g 0 0) (c x 0)) (hw:wr' = true → wr = true:=by exact fun h=>h) :
 CoO (.arr wr 1 e (l.length + 1) (er l.length (lf c l) g)) (.arr wr' 1 e (l.length + 1) (lf c (l ++ [x]))):=by
 have h:=ca (wr:=wr) (wr':=wr') (e:=e) (l:=l) (l':=l ++ [x]) (g:=g) rfl hg hw
 rwa [show (l ++ [x]).length = l.length + 1 by simp] at h
theorem yl {α:Type} [Inhabited α] {wr wr':Bool} {s n m:Nat} {e:TypeId} {c:α → Nat → PV} {l l':List α} (h:l' = l) (hn:n = m) (hw:wr' = true → wr = true:=by exact fun h=>h):CoO (.arr wr s e n (lf c l)) (.arr wr' s e m (lf c l')):=by
 subst h hn
 exact ⟨hw,rfl,rfl,rfl,fun _ _ _ _=>CoP.refl _⟩
theorem ajt {a b:AS}:decide (v7 a b < 0) = bef a b:=by
 rw [Bool.eq_iff_iff,decide_eq_true_iff,ik]
 unfold v7 j6 asI
 split <;> (repeat' split) <;> omega
end Go.Hx
end
section
namespace Go.Hx
open Go.Proofs
set_option maxRecDepth 100000
set_option maxHeartbeats 1000000
theorem aox:al Tryd.prog 45:=⟨Tryd.f45,Tryd.func45,by kernel_rfl,by kernel_rfl⟩
theorem anm (a b:AS):ao Tryd.prog 45 [pA a,pA b] (ay [pB (bef a b)]):=by
 refine am (nt:=18) ai Tryd.func45 rfl rfl l9 ?_;refine sx7 ?_;refine qy ?_;refine a6 ?_;refine a7 ?_;refine sx7 ?_;refine qy ?_;refine rc rfl rfl rfl rfl rfl rfl nb (ng _) (CoL.refl _) rfl rfl ?_
 refine qy ?_;refine rc rfl rfl rfl rfl rfl rfl nb (ng _) (CoL.refl _) rfl rfl ?_;refine qy ?_;refine a6 ?_;refine a8 _ rfl (fun r0=>?_) (fun r0=>?_)
 ·
  have h0:=r0
  have h0:=of_decide_eq_false (cb h0)
  try simp only [ty] at h0
  refine sx7 ?_;refine qy ?_;refine rc rfl rfl rfl rfl rfl rfl nb (ng _) (CoL.refl _) rfl rfl ?_;refine qy ?_;refine rc rfl rfl rfl rfl rfl rfl nb (ng _) (CoL.refl _) rfl rfl ?_;(iterate 2 refine qy ?_)
  refine a6 ?_
  exact hx8 rfl rfl rfl (⟨ccb (aoa h0),trivial⟩)
 ·
  have h0:=r0
  have h0:=of_decide_eq_true (ce h0)
  try simp only [ty] at h0
  refine aa ?_;refine sx7 ?_;(iterate 4 refine qy ?_);refine a6 ?_
  exact hx8 rfl rfl rfl (⟨ccb (aqc h0),trivial⟩)
theorem a5p:al Tryd.prog 42:=⟨Tryd.f42,Tryd.func42,by kernel_rfl,by kernel_rfl⟩
theorem cIn (l:List AS) (s:AS):ao Tryd.prog 42 [pP (asl l),pA s] (ay [pB (decide (s ∈ l))]):=by
 refine am (nt:=18) ai Tryd.func42 rfl rfl l9 ?_;refine a7 ?_
 refine kr 0 rfl fun hn=>?_
 refine gy ?_;refine qy ?_;refine a6 ?_;refine ji (ι:=Unit) ⟨[],[]⟩ ⟨trivial,trivial⟩ (fun _i=>⟨[],[]⟩) (fun _i=>decide (s ∈ l) = false) ?_ ?_
 ·
  refine sx7 ?_;refine qy ?_;refine a6 ?_;refine af ?_
  refine av (ι:=Nat) ⟨[(0,some _),(1,some _)],[]⟩ ⟨⟨c9,c9,trivial⟩,trivial⟩ (fun i=>⟨[(5,some (vI i))],[]⟩) (fun i=>i ≤ l.length ∧ (∀ j,j < i → decide (l.getD j default = s) = false)) (fun i=>l.length - i) (0) (⟨Nat.zero_le _,qc⟩) ⟨⟨zy,trivial⟩,trivial⟩ ?_
  rintro i ⟨hi,hI⟩
  refine a7 ?_;refine sx7 ?_;(iterate 4 refine qy ?_);refine a6 ?_;refine a8 _ rfl (fun r0=>?_) (fun r0=>?_)
  ·
   have h0:=of_decide_eq_true r0
   try simp only [ty] at h0
   refine aa ?_;refine a7 ?_;refine af ?_;refine sx7 ?_;(iterate 6 refine qy ?_);refine a6 ?_;refine a8 _ rfl (fun r1=>?_) (fun r1=>?_)
   ·
    have h1:=of_decide_eq_true r1
    try simp only [ty] at h1
    refine sx7 ?_;refine qy ?_;refine a6 ?_
    exact hx8 rfl rfl rfl (⟨ccb (by rw [← a9p];exact (arq (p:=fun x=>decide (x = s)) (i:=i) (by omega) (decide_eq_true (dt.1 h1))).symm),trivial⟩)
   ·
    have h1:=of_decide_eq_false r1
    try simp only [ty] at h1
    refine aa ?_;refine gy ?_;(iterate 3 refine qy ?_);refine a6 ?_;refine ⟨i + 1, ?_, ?_, ?_⟩
    · exact ⟨by show i + 1 ≤ _;omega,p7 hI (decide_eq_false fun e=>h1 (congrArg asI e))⟩
    · first | omega | (dsimp only;omega)
    · exact ⟨⟨zy,c9,c9,trivial⟩,trivial⟩
  ·
   have h0:=of_decide_eq_false r0
   try simp only [ty] at h0
   refine au ?_;refine ⟨(), ?_, ?_⟩
   · rw [← a9p];exact aqt (p:=fun x=>decide (x = s)) fun j hj=>hI j (by omega)
   · exact ⟨trivial,trivial⟩
 · rintro _ hj
   refine sx7 ?_;refine qy ?_;refine a6 ?_
   exact hx8 rfl rfl rfl (⟨ccb hj.symm,trivial⟩)
theorem adq:al Tryd.prog 80:=⟨Tryd.f80,Tryd.func80,by kernel_rfl,by kernel_rfl⟩
theorem akw (a:Int):ao Tryd.prog 80 [pI a] (ay [pB false]):=by
 refine am (nt:=6) ai Tryd.func80 rfl rfl l9 ?_;refine sx7 ?_;refine qy ?_;refine a6 ?_;refine sx7 ?_;(iterate 4 refine qy ?_);refine a6 ?_
 exact hx8 rfl rfl rfl (⟨ccb (by simp),trivial⟩)
theorem ae3:al Tryd.prog 81:=⟨Tryd.f81,Tryd.func81,by kernel_rfl,by kernel_rfl⟩
theorem al6 (a:AS):ao Tryd.prog 81 [pA a] (ay [pB false]):=by
 refine am (nt:=6) ai Tryd.func81 rfl rfl l9 ?_;refine sx7 ?_;refine qy ?_;refine a6 ?_;refine sx7 ?_;(iterate 4 refine qy ?_);refine a6 ?_
 exact hx8 rfl rfl rfl (⟨ccb (by simp),trivial⟩)
theorem apc:al Tryd.prog 58:=⟨Tryd.f58,Tryd.func58,by kernel_rfl,by kernel_rfl⟩
theorem aqn (a b:Int):ao Tryd.prog 58 [pI a,pI b] (ay [pI (j6 a b)]):=by
 refine am (nt:=20) ai Tryd.func58 rfl rfl l9 ?_;refine sx7 ?_;refine qy ?_;refine a6 ?_;refine sx7 ?_;refine qy ?_;refine rc rfl rfl rfl rfl rfl rfl adq (akw _) (CoL.refl _) rfl rfl ?_;refine qy ?_
 refine a6 ?_;refine sx7 ?_;refine qy ?_;refine rc rfl rfl rfl rfl rfl rfl adq (akw _) (CoL.refl _) rfl rfl ?_;refine qy ?_;refine a6 ?_;refine a7 ?_;refine sx7 ?_;refine qy ?_;refine a6 ?_
 refine a8 _ rfl (fun e=>by cases e) (fun _=>?_);refine aa ?_;refine a7 ?_;refine sx7 ?_;refine qy ?_;refine a6 ?_;refine a8 _ rfl (fun e=>by cases e) (fun _=>?_);refine aa ?_
 refine a7 ?_;refine sx7 ?_;(iterate 3 refine qy ?_);refine a6 ?_;refine a8 _ rfl (fun r0=>?_) (fun r0=>?_)
 ·
  have h0:=of_decide_eq_true r0
  try simp only [ty] at h0
  refine sx7 ?_;refine qy ?_;refine a6 ?_
  exact hx8 rfl rfl rfl (⟨cci (by unfold j6;first | (rw [if_pos (by omega)]) | (rw [if_neg (by omega),if_pos (by omega)]) | (rw [if_neg (by omega),if_neg (by omega)])),trivial⟩)
 ·
  have h0:=of_decide_eq_false r0
  try simp only [ty] at h0
  refine aa ?_;refine a7 ?_;refine sx7 ?_;(iterate 3 refine qy ?_);refine a6 ?_;refine a8 _ rfl (fun r1=>?_) (fun r1=>?_)
  ·
   have h1:=of_decide_eq_true r1
   try simp only [ty] at h1
   refine sx7 ?_;refine qy ?_;refine a6 ?_
   exact hx8 rfl rfl rfl (⟨cci (by unfold j6;first | (rw [if_pos (by omega)]) | (rw [if_neg (by omega),if_pos (by omega)]) | (rw [if_neg (by omega),if_neg (by omega)])),trivial⟩)
  ·
   have h1:=of_decide_eq_false r1
   try simp only [ty] at h1
   refine aa ?_;refine sx7 ?_;refine qy ?_;refine a6 ?_
   exact hx8 rfl rfl rfl (⟨cci (by unfold j6;first | (rw [if_pos (by omega)]) | (rw [if_neg (by omega),if_pos (by omega)]) | (rw [if_neg (by omega),if_neg (by omega)])),trivial⟩)
theorem aoc:al Tryd.prog 59:=⟨Tryd.f59,Tryd.func59,by kernel_rfl,by kernel_rfl⟩
theorem aqy (a b:AS):ao Tryd.prog 59 [pA a,pA b] (ay [pI (j6 (asI a) (asI b))]):=by
 refine am (nt:=20) ai Tryd.func59 rfl rfl l9 ?_;refine sx7 ?_;refine qy ?_;refine a6 ?_;refine sx7 ?_;refine qy ?_;refine rc rfl rfl rfl rfl rfl rfl ae3 (al6 _) (CoL.refl _) rfl rfl ?_;refine qy ?_
 refine a6 ?_;refine sx7 ?_;refine qy ?_;refine rc rfl rfl rfl rfl rfl rfl ae3 (al6 _) (CoL.refl _) rfl rfl ?_;refine qy ?_;refine a6 ?_;refine a7 ?_;refine sx7 ?_;refine qy ?_;refine a6 ?_
 refine a8 _ rfl (fun e=>by cases e) (fun _=>?_);refine aa ?_;refine a7 ?_;refine sx7 ?_;refine qy ?_;refine a6 ?_;refine a8 _ rfl (fun e=>by cases e) (fun _=>?_);refine aa ?_
 refine a7 ?_;refine sx7 ?_;(iterate 3 refine qy ?_);refine a6 ?_;refine a8 _ rfl (fun r0=>?_) (fun r0=>?_)
 ·
  have h0:=of_decide_eq_true r0
  try simp only [ty] at h0
  refine sx7 ?_;refine qy ?_;refine a6 ?_
  exact hx8 rfl rfl rfl (⟨cci (by unfold j6;first | (rw [if_pos (by omega)]) | (rw [if_neg (by omega),if_pos (by omega)]) | (rw [if_neg (by omega),if_neg (by omega)])),trivial⟩)
 ·
  have h0:=of_decide_eq_false r0
  try simp only [ty] at h0
  refine aa ?_;refine a7 ?_;refine sx7 ?_;(iterate 3 refine qy ?_);refine a6 ?_;refine a8 _ rfl (fun r1=>?_) (fun r1=>?_)
  ·
   have h1:=of_decide_eq_true r1
   try simp only [ty] at h1
   refine sx7 ?_;refine qy ?_;refine a6 ?_
   exact hx8 rfl rfl rfl (⟨cci (by unfold j6;first | (rw [if_pos (by omega)]) | (rw [if_neg (by omega),if_pos (by omega)]) | (rw [if_neg (by omega),if_neg (by omega)])),trivial⟩)
  ·
   have h1:=of_decide_eq_false r1
   try simp only [ty] at h1
   refine aa ?_;refine sx7 ?_;refine qy ?_;refine a6 ?_
   exact hx8 rfl rfl rfl (⟨cci (by unfold j6;first | (rw [if_pos (by omega)]) | (rw [if_neg (by omega),if_pos (by omega)]) | (rw [if_neg (by omega),if_neg (by omega)])),trivial⟩)
theorem aqj:al Tryd.prog 57:=⟨Tryd.f57,Tryd.func57,by kernel_rfl,by kernel_rfl⟩
theorem cOr (l:List Int):ao Tryd.prog 57 [pP (psl 1 jC l)] (ay [pI (orF l)]):=by
 refine am (nt:=18) ai Tryd.func57 rfl rfl l9 ?_;refine a7 ?_
 refine kr 0 rfl fun hn=>?_
 refine gy ?_;refine qy ?_;refine a6 ?_;refine sx7 ?_;refine qy ?_;refine a6 ?_;refine ji (ι:=Unit) ⟨[(3,some _)],[]⟩ ⟨⟨c9,trivial⟩,trivial⟩ (fun _i=>⟨[],[]⟩) (fun _i=>orF l = 0) ?_ ?_
 ·
  refine sx7 ?_;(iterate 3 refine qy ?_);refine a6 ?_;refine af ?_
  refine av (ι:=Nat) ⟨[(3,some _),(6,some _),(7,some _)],[]⟩ ⟨⟨c9,c9,c9,trivial⟩,trivial⟩ (fun i=>⟨[(8,some (vI i))],[]⟩) (fun i=>i ≤ l.length ∧ (∀ j,j < i → decide (l.getD j default = 0) = true)) (fun i=>l.length - i) (0) (⟨Nat.zero_le _,qc⟩) ⟨⟨zy,trivial⟩,trivial⟩ ?_
  rintro i ⟨hi,hI⟩
  refine sx7 ?_;refine qy ?_;refine a6 ?_;refine a7 ?_;refine a8 _ rfl (fun r0=>?_) (fun r0=>?_)
  ·
   have h0:=of_decide_eq_true r0
   try simp only [ty] at h0
   refine aa ?_;refine a7 ?_;refine af ?_;refine sx7 ?_;(iterate 3 refine qy ?_);refine a6 ?_;refine sx7 ?_;(iterate 3 refine qy ?_);refine a6 ?_;refine a8 _ rfl (fun r1=>?_) (fun r1=>?_)
   ·
    have h1:=r1
    have h1:=of_decide_eq_false (cb h1)
    try simp only [ty] at h1
    refine sx7 ?_;(iterate 2 refine qy ?_);refine a6 ?_
    exact hx8 rfl rfl rfl (⟨cci (aqz (i:=i) (by omega) hI h1).symm,trivial⟩)
   ·
    have h1:=r1
    have h1:=of_decide_eq_true (ce h1)
    try simp only [ty] at h1
    refine aa ?_;refine gy ?_;(iterate 2 refine qy ?_);refine a6 ?_;refine ⟨i + 1, ?_, ?_, ?_⟩
    · exact ⟨by show i + 1 ≤ _;omega,p7 hI (decide_eq_true h1)⟩
    · first | omega | (dsimp only;omega)
    · exact ⟨⟨zy,c9,c9,c9,trivial⟩,trivial⟩
  ·
   have h0:=of_decide_eq_false r0
   try simp only [ty] at h0
   refine au ?_;refine ⟨(), ?_, ?_⟩
   · exact arl fun j hj=>hI j (by omega)
   · exact ⟨⟨c9,trivial⟩,trivial⟩
 · rintro _ hj
   refine sx7 ?_;(iterate 2 refine qy ?_);refine a6 ?_
   exact hx8 rfl rfl rfl (⟨cci hj.symm,trivial⟩)
theorem ag7 (a b:AS):ao Tryd.prog 39 [pA a,pA b] (ay [pI (v7 a b)]):=by
 refine am (nt:=15) ai Tryd.func39 rfl rfl l9 ?_;refine sx7 ?_;refine qy ?_;refine a6 ?_;refine sx7 ?_;refine qy ?_;refine rc rfl rfl rfl rfl rfl rfl a15 (a57 _) (CoL.refl _) rfl rfl ?_;refine qy ?_
 refine rc rfl rfl rfl rfl rfl rfl a15 (a57 _) (CoL.refl _) rfl rfl ?_;refine rc rfl rfl rfl rfl rfl rfl apc (aqn _ _) (CoL.refl _) rfl rfl ?_;(iterate 2 refine qy ?_)
 refine rc rfl rfl rfl rfl rfl rfl aoc (aqy _ _) (CoL.refl _) rfl rfl ?_;refine m9 0 ?_
 refine rc rfl rfl rfl rfl rfl rfl aqj (cOr [j6 (bsz a) (bsz b),j6 (asI a) (asI b)]) (⟨CoC.one (am2 (CoP.refl _) (CoP.refl _)),trivial⟩) rfl rfl ?_;refine qy ?_;refine a6 ?_
 exact hx8 rfl rfl rfl (⟨cci (amk a b),trivial⟩)
theorem afw:al Tryd.prog 24:=⟨Tryd.f24,Tryd.func24,by kernel_rfl,by kernel_rfl⟩
theorem a9h (l:List AS) (hl:l.length ≤ 8589934592):ao Tryd.prog 24 [pP (asl l)] (ay [pP (asl (ord l))]):=by
 refine am (nt:=61) ai Tryd.func24 rfl rfl l9 ?_;refine a7 ?_
 refine kr 0 rfl fun hn=>?_
 refine gy ?_;refine qy ?_;refine a6 ?_;refine sx7 ?_;refine qy ?_;refine a6 ?_;refine a7 ?_;refine sx7 ?_;refine qy ?_;refine a6 ?_;refine af ?_
 refine dm 3 900 true 1 34 (lf sC []) (by decide) rfl (CoP.sl rfl (.inr rfl) (fun h=>h) (fun i j hi _=>absurd hi (Nat.not_lt_zero i))) (.inr rfl) rfl ?_
 refine av (ι:=Nat) ⟨[(0,some _)],[]⟩ ⟨⟨c9,trivial⟩,trivial⟩ (fun i=>⟨[(3,some (.v (.one (.ref 900 (ord (l.take i)).length)))),(4,some (vI i))],[(900,some (.arr true 1 34 (ord (l.take i)).length (lf sC (ord (l.take i)))))]⟩) (fun i=>i ≤ l.length) (fun i=>l.length - i) (0) (Nat.zero_le _) ⟨⟨zy,zy,trivial⟩,⟨u9,trivial⟩⟩ ?_
 rintro i hi
 have hlen:=md (l.take i)
 rw [List.length_take] at hlen
 refine a7 ?_;refine sx7 ?_;(iterate 4 refine qy ?_);refine a6 ?_;refine a8 _ rfl (fun r0=>?_) (fun r0=>?_)
 ·
  have h0:=of_decide_eq_true r0
  try simp only [ty] at h0
  refine aa ?_;refine a7 ?_;refine af ?_;refine a7 ?_;refine sx7 ?_;(iterate 5 refine qy ?_);refine rc rfl rfl rfl rfl rfl rfl a5p (cIn (ord (l.take i)) (l.getD i default)) (CoL.refl _) rfl rfl ?_
  refine a6 ?_;refine a8 _ rfl (fun r1=>?_) (fun r1=>?_)
  ·
   have h1:=r1
   have hin:=of_decide_eq_true h1
   refine au ?_;refine gy ?_;(iterate 3 refine qy ?_);refine a6 ?_
   first | (refine ⟨i + 1, ?_, ?_, ?_⟩
            · show i + 1 ≤ _;omega
            · first | omega | (dsimp only;omega)
            · exact ⟨⟨⟨_,rfl,(bn (by rw [dl (by omega),mh (en _) hin]))⟩,zy,c9,trivial⟩,⟨⟨_,rfl,(bo (by rw [dl (by omega),mh (en _) hin]))⟩,trivial⟩⟩)
         | (refine ⟨i + 1, ?_, ?_, ?_⟩
            · show i + 1 ≤ _;omega
            · first | omega | (dsimp only;omega)
            · exact ⟨⟨⟨_,rfl,(a2z (by rw [dl (by omega),← hfin,gq hk]))⟩,zy,c9,trivial⟩,⟨⟨_,rfl,(yl (by rw [dl (by omega),← hfin]) (by rw [dl (by omega),← hfin,gq hk]))⟩,trivial⟩⟩)
  ·
   have h1:=r1
   have hin:=of_decide_eq_false h1
   refine aa ?_;refine sx7 ?_;(iterate 5 refine qy ?_);refine m9 0 ?_;refine ra 1 true rfl rfl rfl rfl rfl rfl ?_;refine qy ?_;refine a6 ?_;refine sx7 ?_;(iterate 4 refine qy ?_);refine a6 ?_
   refine af ?_
   refine av (ι:=Nat) ⟨[(0,some _),(3,some _),(4,some _)],[]⟩ ⟨⟨c9,c9,c9,trivial⟩,trivial⟩ (fun k=>⟨[(5,some (vI k))],[(900,some (.arr true 1 34 ((ord (l.take i)).length + 1) (lf sC (gf (ord (l.take i)) k (l.getD i default)))))]⟩) (fun k=>k ≤ (ord (l.take i)).length ∧ ∀ j,k ≤ j → j < (ord (l.take i)).length → bef (l.getD i default) ((ord (l.take i)).getD j default) = true) (fun k=>k) ((ord (l.take i)).length) (⟨Nat.le_refl _,fun j h1 h2=>by omega⟩) ⟨⟨zy,trivial⟩,⟨⟨_,rfl,(by rw [ajg];exact amc (CoP.refl _))⟩,trivial⟩⟩ ?_
   rintro k ⟨hk,hK⟩
   (iterate 2 refine a7 ?_);refine d8 (E:=dg) ai c7 [0,1,2,3,4,5,6,7,8,9,10,11,12,13] ?_;(iterate 3 refine qy ?_);refine ct rfl rfl (fun r2=>?_) (fun r2=>?_)
   ·
    have h2:=of_decide_eq_true r2
    try simp only [ty] at h2
    (iterate 9 refine qy ?_ (hg:=(gtt r2)));refine rc rfl rfl rfl rfl rfl rfl aox (anm _ _) (CoL.refl _) rfl (gtt r2) ?_;refine qy ?_;refine a6 ?_;refine ⟨by kernel_rfl, ?_⟩
    refine a8 _ rfl (fun r3=>?_) (fun r3=>?_)
    ·
     have h3:=r3
     have h3:=ef r2 h3
     have hb:=ad6 (by omega) hk h3 (by omega) (by omega)
     refine aa ?_;refine a7 ?_;refine af ?_;refine d8 (E:=dg) ai c7 [0,1,5,6,7,8,9,10,11,12,13,14,15,2,3,4,16,17] ?_;(iterate 12 refine qy ?_);refine s9 ?_
     (iterate 4 refine qy ?_);refine s9 ?_;refine a6 ?_;refine ⟨by kernel_rfl, ?_⟩;refine gy ?_;(iterate 3 refine qy ?_);refine a6 ?_;refine ⟨k - 1, ?_, ?_, ?_⟩
     · refine ⟨by omega,fun j h1 h2=>?_⟩
       by_cases hj:j = k - 1
       · rw [hj];exact hb
       · exact hK j (by omega) h2
     · show k - 1 < k
       omega
     · exact ⟨⟨zy,c9,c9,c9,trivial⟩,⟨⟨_,rfl,(acj (by omega) hk (by omega) (by omega) rfl)⟩,trivial⟩⟩
    ·
     have h3:=r3
     have h3:=ef r2 h3
     have hb:=ad6 (by omega) hk h3 (by omega) (by omega)
     have hfin:=a4m (en _) hin hk hK (.inr (by rw [hb];decide))
     refine au ?_;refine gy ?_;(iterate 3 refine qy ?_);refine a6 ?_
     first | (refine ⟨i + 1, ?_, ?_, ?_⟩
              · show i + 1 ≤ _;omega
              · first | omega | (dsimp only;omega)
              · exact ⟨⟨⟨_,rfl,(bn (by rw [dl (by omega),mh (en _) hin]))⟩,zy,c9,trivial⟩,⟨⟨_,rfl,(bo (by rw [dl (by omega),mh (en _) hin]))⟩,trivial⟩⟩)
           | (refine ⟨i + 1, ?_, ?_, ?_⟩
              · show i + 1 ≤ _;omega
              · first | omega | (dsimp only;omega)
              · exact ⟨⟨⟨_,rfl,(a2z (by rw [dl (by omega),← hfin,gq hk]))⟩,zy,c9,trivial⟩,⟨⟨_,rfl,(yl (by rw [dl (by omega),← hfin]) (by rw [dl (by omega),← hfin,gq hk]))⟩,trivial⟩⟩)
   ·
    have h2:=of_decide_eq_false r2
    try simp only [ty] at h2
    have hfin:=a4m (en _) hin hk hK (.inl (by omega))
    (iterate 10 refine k9 (gft r2) ?_);refine rq rfl rfl rfl rfl rfl ?_ (hp:=r2);refine a6 ?_;refine ⟨by kernel_rfl, ?_⟩;refine a8 _ rfl (fun e=>by cases e) (fun _=>?_);refine au ?_;refine gy ?_
    (iterate 3 refine qy ?_);refine a6 ?_
    first | (refine ⟨i + 1, ?_, ?_, ?_⟩
             · show i + 1 ≤ _;omega
             · first | omega | (dsimp only;omega)
             · exact ⟨⟨⟨_,rfl,(bn (by rw [dl (by omega),mh (en _) hin]))⟩,zy,c9,trivial⟩,⟨⟨_,rfl,(bo (by rw [dl (by omega),mh (en _) hin]))⟩,trivial⟩⟩)
          | (refine ⟨i + 1, ?_, ?_, ?_⟩
             · show i + 1 ≤ _;omega
             · first | omega | (dsimp only;omega)
             · exact ⟨⟨⟨_,rfl,(a2z (by rw [dl (by omega),← hfin,gq hk]))⟩,zy,c9,trivial⟩,⟨⟨_,rfl,(yl (by rw [dl (by omega),← hfin]) (by rw [dl (by omega),← hfin,gq hk]))⟩,trivial⟩⟩)
 ·
  have h0:=of_decide_eq_false r0
  try simp only [ty] at h0
  obtain rfl:i = l.length:=by omega
  refine au ?_;refine sx7 ?_;(iterate 2 refine qy ?_);refine a6 ?_;refine c8 2 rfl rfl rfl ?_
  exact hx8 rfl rfl rfl (⟨CoC.one (CoP.of_eq (by rw [List.take_length];rfl)),trivial⟩)
end Go.Hx
end

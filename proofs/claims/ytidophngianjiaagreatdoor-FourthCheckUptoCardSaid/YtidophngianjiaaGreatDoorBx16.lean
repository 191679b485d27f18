/- A part of the proof: LyTz TzW Cs7 Cs8 V6 Cs9 V7. -/
import Derived.Shelf.Lays7
import Derived.Shelf.Spec.TrailingZeros
import Derived.Test.YtidophngianjiaaGreatDoorProg
import Derived.Test.YtidophngianjiaaGreatDoorBx15
set_option linter.all false
section
namespace Go.Proofs
open Go.Shelf
def Tryz.lays28_ren:Go.Shelf.Ren:=⟨fun | 28=>190 | n=>n,fun | 27=>37 | 3=>3 | 4=>4 | 25=>137 | 53=>213 | 0=>0 | 5=>5 | n=>n,fun | 0=>0 | n=>n⟩
theorem Tryz.lays28:Go.Proofs.Lays7.n28 Tryz.prog Tryz.lays28_ren:={
 mixed:=by kernel_rfl
 f28:=Tryz.func190.trans (congrArg some (by kernel_rfl))
 t0:=Tryz.underlying0
 a0:=Tryz.isAgg0
 z0:=Tryz.sizeOf0
 v0:=Tryz.zeroValue0
 i0:=by kernel_rfl
 t3:=Tryz.underlying3
 a3:=Tryz.isAgg3
 z3:=Tryz.sizeOf3
 v3:=Tryz.zeroValue3
 i3:=by kernel_rfl
 t4:=Tryz.underlying4
 a4:=Tryz.isAgg4
 z4:=Tryz.sizeOf4
 v4:=Tryz.zeroValue4
 i4:=by kernel_rfl
 t5:=Tryz.underlying5
 a5:=Tryz.isAgg5
 z5:=Tryz.sizeOf5
 v5:=Tryz.zeroValue5
 i5:=by kernel_rfl
 t25:=Tryz.underlying137
 a25:=Tryz.isAgg137
 z25:=Tryz.sizeOf137
 v25:=Tryz.zeroValue137
 i25:=by kernel_rfl
 t27:=Tryz.underlying37
 a27:=Tryz.isAgg37
 z27:=Tryz.sizeOf37
 v27:=Tryz.zeroValue37
 i27:=by kernel_rfl
 t53:=Tryz.underlying213
 a53:=Tryz.isAgg213
 z53:=Tryz.sizeOf213
 v53:=Tryz.zeroValue213
 i53:=by kernel_rfl
 g0:=by kernel_rfl }
end Go.Proofs
end
section
namespace Go.Hx
open Go.Proofs Go.RowKit
set_option maxRecDepth 100000
theorem axd:goodFn Tryz.prog 190:=⟨Tryz.f190,Tryz.func190,by kernel_rfl,by kernel_rfl⟩
theorem b25:∀ j,j < Lib.deBruijn32tab.length → t6 0 j = some (.int .u8 (Lib.deBruijn32tab.getD j 0)):=fun j hj=>by
 unfold t6
 rw [show pw 0 = Lib.deBruijn32tab.map (fun k:Nat=>Value.int .u8 (k:Int)) from rfl,List.getElem?_map,List.getElem?_eq_getElem hj,List.getD_eq_getElem?_getD,List.getElem?_eq_getElem hj]
 rfl
theorem cTz (s:AS):ai Tryz.prog 190 [pA s] (ao [pI (ly s)]):=by
 intro w imm us htab him hus
 match us,hus with
 | [u],⟨hu,_⟩ =>
  obtain ⟨rfl,_⟩:=hu
  have h:=Any7.bits_TrailingZeros32 Tryz.lays28 s.toNat s.isLt w fun _ j hj=>by
   have hc:=htab 0 j _ (b25 j hj)
   unfold io at hc
   cases hb:imm 0 with
   | none=>rw [hb] at hc;cases hc
   | some ob =>
    rw [hb] at hc
    have hw:=him 0 ob hb
    cases ob <;> simp at hc
    show w.cell? ⟨0,j,none⟩ = _
    simp [World.cell?,hw,hc]
  refine h.mono ?_
  rintro e w' ⟨rfl,rfl⟩
  exact ⟨_,imm,rfl,⟨rfl,rfl⟩,fun _ _=>rfl,him,Below.refl _ _⟩
 | [],h=>exact h.elim
 | _ :: _ :: _,⟨_,h⟩=>exact h.elim
end Go.Hx
end
section
namespace Go.Hx
theorem a7g {id n m:Nat} (h:n = m):CoR (.v (.one (.ref id n))) (.v (.one (.ref id m))):=by subst h;exact CoR.refl _
section
variable {α:Type} [Inhabited α]
theorem a1y {wr wr':Bool} {s m:Nat} {e:TypeId} {c:α → Nat → PV} {l l':List α} {x:α} {g:Nat → Nat → PV} (h:l' = l ++ [x]) (hg:∀ j,j < s → CoP (g 0 j) (c x j)) (hm:m = 1:=by rfl) (hw:wr' = true → wr = true:=by exact fun h=>h) :
 CoO (.arr wr s e (l.length + m) (ef l.length (lf c l) g)) (.arr wr' s e l'.length (lf c l')):=by
 subst h
 refine akh [x] hw hm fun i j hi hj=>?_
 obtain rfl:i = 0:=by simp at hi;exact hi
 exact hg j hj
theorem c6 {wr wr':Bool} {s:Nat} {e:TypeId} {c:α → Nat → PV} {l l':List α} (h:l' = l) (hw:wr' = true → wr = true:=by exact fun h=>h):CoO (.arr wr s e l.length (lf c l)) (.arr wr' s e l'.length (lf c l')):=by
 subst h
 exact ⟨hw,rfl,rfl,rfl,fun _ _ _ _=>CoP.refl _⟩
end
section
variable {α:Type} [Inhabited α]
theorem d7 {id:Nat} {l l':List α} {x:α} (h:l' = l ++ [x]):CoR (.v (.one (.ref id (l.length + 1)))) (.v (.one (.ref id l'.length))):=by subst h;rw [List.length_append];exact CoR.refl _
theorem ci {id:Nat} {l l':List α} (h:l' = l):CoR (.v (.one (.ref id l.length))) (.v (.one (.ref id l'.length))):=by subst h;exact CoR.refl _
theorem cw {wr wr':Bool} {e:TypeId} {c:α → Nat → PV} {l l':List α} {x:α} {g:Nat → Nat → PV} (h:l' = l ++ [x]) (hg:CoP (g 0 0) (c x 0)) (hw:wr' = true → wr = true:=by exact fun h=>h) :
 CoO (.arr wr 1 e (l.length + 1) (ef l.length (lf c l) g)) (.arr wr' 1 e l'.length (lf c l')) :=
 a1y h (fun j hj=>by
  obtain rfl:j = 0:=by omega
  exact hg) rfl hw
theorem zn {wr wr':Bool} {e:TypeId} {c:α → Nat → PV} {l l':List α} {x:α} {g:Nat → Nat → PV} (h:l' = l ++ [x]) (h0:CoP (g 0 0) (c x 0)) (h1:CoP (g 0 1) (c x 1)) (hw:wr' = true → wr = true:=by exact fun h=>h) :
 CoO (.arr wr 2 e (l.length + 1) (ef l.length (lf c l) g)) (.arr wr' 2 e l'.length (lf c l')) :=
 a1y h (fun j hj=>by
  rcases (by omega:j = 0 ∨ j = 1) with rfl | rfl
  · exact h0
  · exact h1) rfl hw
end
def dz (s:AS) (i:Nat):List Nat:=(List.range i).filter fun k=>s.getLsbD k
theorem ld {s:AS} {i:Nat} (hi:i < 32) (h:c4 s (i:Int) = true):dz s (i + 1) = dz s i ++ [i]:=by
 rw [cj hi] at h
 unfold dz
 rw [List.range_succ,List.filter_append]
 simp [h]
theorem o9 {s:AS} {i:Nat} (hi:i < 32) (h:c4 s (i:Int) = false):dz s (i + 1) = dz s i:=by
 rw [cj hi] at h
 unfold dz
 rw [List.range_succ,List.filter_append]
 simp [h]
theorem am2 (s:AS) (i:Nat):(dz s i).length ≤ i:=by
 unfold dz
 have:=List.length_filter_le (fun k=>s.getLsbD k) (List.range i)
 rwa [List.length_range] at this
end Go.Hx
end
section
namespace Go.Hx
def n9 (b:Nat):Nat:=(List.range 8).countP fun i=>b.testBit i
theorem o5 (p:Nat → Bool) (a b:Nat):(List.range (a + b)).countP p = (List.range a).countP p + (List.range b).countP fun i=>p (a + i):=by
 rw [List.range_add,List.countP_append,List.countP_map]
 rfl
theorem arv {n k j:Nat} (hj:j < 8):(n / 2 ^ k % 256).testBit j = n.testBit (k + j):=by
 rw [show (256:Nat) = 2 ^ 8 from rfl,Nat.testBit_mod_two_pow,Nat.testBit_div_two_pow,Nat.add_comm]
 simp [hj]
theorem b0t (n:Nat) (hn:n < 2 ^ 32):(List.range (8 + (8 + (8 + 8)))).countP (fun i=>n.testBit i) = n9 (n / 2 ^ 24) + n9 (n / 2 ^ 16 % 256) + n9 (n / 2 ^ 8 % 256) + n9 (n % 256):=by
 have h:∀ k,(List.range 8).countP (fun i=>n.testBit (k + i)) = n9 (n / 2 ^ k % 256):=fun k=>by
  unfold n9
  apply List.countP_congr
  intro j hj
  rw [arv (List.mem_range.1 hj)]
 have h3:n / 2 ^ 24 % 256 = n / 2 ^ 24:=Nat.mod_eq_of_lt (by omega)
 have h0:=h 0
 simp only [Nat.zero_add,Nat.pow_zero,Nat.div_one] at h0
 rw [o5,o5,o5,h0]
 have e2:=h 8
 have e3:=h 16
 have e4:=h 24
 rw [h3] at e4
 simp only [← Nat.add_assoc] at *
 simp only [Nat.reduceAdd] at *
 rw [e2,e3,e4]
 omega
theorem aki (s:AS):bsz s = n9 (s.toNat / 2 ^ 24) + n9 (s.toNat / 2 ^ 16 % 256) + n9 (s.toNat / 2 ^ 8 % 256) + n9 (s.toNat % 256):=b0t s.toNat s.isLt
theorem a2m (b:Nat):n9 b ≤ 8:=by
 have:=List.countP_le_length (p:=fun i=>b.testBit i) (l:=List.range 8)
 rwa [List.length_range] at this
theorem ata (s:AS) (k:Nat) (hk:k ≤ 32):((asI s).fdiv (2 ^ (min k 32))).toNat = s.toNat / 2 ^ k:=by
 rw [wn]
 show (((s >>> k).toNat:Nat):Int).toNat = _
 rw [Int.toNat_natCast,BitVec.toNat_ushiftRight,Nat.shiftRight_eq_div_pow]
theorem aj2 (s:AS) (k:Nat) (hk:k ≤ 32):(d4 .and .u32 ((asI s).fdiv (2 ^ (min k 32))) 255).toNat = s.toNat / 2 ^ k % 256:=by
 rw [wn,show (255:Int) = asI 255 from rfl,i6]
 show (((s >>> k &&& 255).toNat:Nat):Int).toNat = _
 rw [Int.toNat_natCast,BitVec.toNat_and,BitVec.toNat_ushiftRight,Nat.shiftRight_eq_div_pow,show (255:AS).toNat = 2 ^ 8 - 1 from rfl,Nat.and_two_pow_sub_one_eq_mod]
theorem at3 (s:AS):(d4 .and .u32 (asI s) 255).toNat = s.toNat % 256:=by
 rw [show (255:Int) = asI 255 from rfl,i6]
 show (((s &&& 255).toNat:Nat):Int).toNat = _
 rw [Int.toNat_natCast,BitVec.toNat_and,show (255:AS).toNat = 2 ^ 8 - 1 from rfl,Nat.and_two_pow_sub_one_eq_mod]
theorem al3 (a b:Int):0 ≤ d4 .and .u32 a b:=by
 show 0 ≤ IntKind.wrap .u32 _
 rw [aeb (Int.natCast_nonneg _) (by have:=(BitVec.ofInt 32 a &&& BitVec.ofInt 32 b).isLt;show ((BitVec.ofInt 32 a &&& BitVec.ofInt 32 b).toNat:Int) < _;omega)]
 exact Int.natCast_nonneg _
theorem avz (s:AS) (k:Nat):0 ≤ (asI s).fdiv (2 ^ (min k 32)):=by rw [wn];exact a6q _
theorem b2v {X:ByteArray} (s:AS) (hX:(256:Int) ≤ X.size):0 ≤ (asI s).fdiv (2 ^ (min 24 32)) ∧ (asI s).fdiv (2 ^ (min 24 32)) < X.size:=by
 have h1:=avz s 24
 have h2:=ata s 24 (by omega)
 have:=s.isLt
 exact ⟨h1,by omega⟩
theorem ixM {X:ByteArray} (s:AS) (k:Nat) (hk:k ≤ 32) (hX:(256:Int) ≤ X.size):0 ≤ d4 .and .u32 ((asI s).fdiv (2 ^ (min k 32))) 255 ∧ d4 .and .u32 ((asI s).fdiv (2 ^ (min k 32))) 255 < X.size:=by
 have h1:=al3 ((asI s).fdiv (2 ^ (min k 32))) 255
 have h2:=aj2 s k hk
 exact ⟨h1,by omega⟩
theorem ixL {X:ByteArray} (s:AS) (hX:(256:Int) ≤ X.size):0 ≤ d4 .and .u32 (asI s) 255 ∧ d4 .and .u32 (asI s) 255 < X.size:=by
 have h1:=al3 (asI s) 255
 have h2:=at3 s
 exact ⟨h1,by omega⟩
theorem a8z {n:Int} (h0:0 ≤ n) (h1:n < 256):IntKind.wrap .u8 n = n:=qt (by simp only [inR,kf,lj];omega)
theorem ao8 {n:Int} (h0:0 ≤ n) (h1:n < 256):IntKind.wrap .i64 n = n:=qt (by simp only [inR,kf,lj];omega)
theorem az5 {X:ByteArray} {s:AS} {i0 i1 i2 i3:Nat} (hX:∀ b,b < 256 → l4 X b = (n9 b:Int)) (h0:i0 = s.toNat / 2 ^ 24) (h1:i1 = s.toNat / 2 ^ 16 % 256) (h2:i2 = s.toNat / 2 ^ 8 % 256) (h3:i3 = s.toNat % 256) :
 IntKind.wrap .i64 (IntKind.wrap .u8 (IntKind.wrap .u8 (IntKind.wrap .u8 (l4 X i0 + l4 X i1) + l4 X i2) + l4 X i3)) = (bsz s:Int):=by
 have:=s.isLt
 subst h0 h1 h2 h3
 rw [hX _ (by omega),hX _ (by omega),hX _ (by omega),hX _ (by omega)]
 have a0:=a2m (s.toNat / 2 ^ 24)
 have a1:=a2m (s.toNat / 2 ^ 16 % 256)
 have a2:=a2m (s.toNat / 2 ^ 8 % 256)
 have a3:=a2m (s.toNat % 256)
 rw [aki]
 generalize n9 (s.toNat / 2 ^ 24) = c0 at *
 generalize n9 (s.toNat / 2 ^ 16 % 256) = c1 at *
 generalize n9 (s.toNat / 2 ^ 8 % 256) = c2 at *
 generalize n9 (s.toNat % 256) = c3 at *
 rw [a8z (n:=c0 + c1) (by omega) (by omega),a8z (n:=c0 + c1 + c2) (by omega) (by omega),a8z (n:=c0 + c1 + c2 + c3) (by omega) (by omega),ao8 (n:=c0 + c1 + c2 + c3) (by omega) (by omega)]
 omega
theorem a6d (s:AS):bsz s ≤ 32:=by
 have:=List.countP_le_length (p:=fun i=>s.getLsbD i) (l:=List.range 32)
 rwa [List.length_range] at this
theorem ak7 {s0:AS} (x:List Nat × AS) (h:x.1 ++ az x.2 = az s0):x.1.length ≤ 32:=by
 have h1:=congrArg List.length h
 rw [List.length_append,← oe s0] at h1
 have:=a6d s0
 omega
theorem aem {s:AS} (h:s ≠ 0):asI s - 1 = asI (s - 1):=by
 have h0:s.toNat ≠ 0:=fun e=>h (BitVec.eq_of_toNat_eq e)
 have:=s.isLt
 have e1:(s - 1).toNat = s.toNat - 1:=by
  rw [BitVec.toNat_sub]
  show (2 ^ 32 - 1 + s.toNat) % 2 ^ 32 = _
  omega
 unfold asI
 rw [e1]
 omega
theorem ae6 {s:AS} (h:s ≠ 0):(fp true .u32 (asI s - 1)).1:=by
 rw [aem h]
 have h1:=a6q (s - 1)
 have h2:=acf (s - 1)
 simp only [fp,inR,kf,lj]
 omega
theorem ash {s:AS} (h:s ≠ 0):d4 .and .u32 (asI s) (asI s - 1) = asI (s &&& (s - 1)):=by rw [aem h,i6]
def it (a b:Int):Int:=if a < b then -1 else if b < a then 1 else 0
def zx (a b:AS):Int:=if it (bsz a) (bsz b) = 0 then it (asI a) (asI b) else it (bsz a) (bsz b)
end Go.Hx
end
section
namespace Go.Hx
open Go.Proofs
set_option maxRecDepth 100000
theorem auw:goodFn Tryz.prog 185:=⟨Tryz.f185,Tryz.func185,by kernel_rfl,by kernel_rfl⟩
theorem b29 (s:AS):ai Tryz.prog 185 [pA s] (ao [pP (il (az s))]):=by
 refine ah (nt:=17) ae Tryz.func185 rfl rfl l9 ?_;refine sx7 ?_;refine qy ?_;refine a6 ?_;refine sx7 ?_;refine qy ?_;refine a6 ?_;refine a7 ?_;refine sx7 ?_;refine qy ?_;refine a6 ?_
 refine ab ?_;refine db 3 900 true 1 3 (lf iC []) (by decide) rfl (CoP.sl rfl (.inr rfl) (fun h=>h) (fun i j hi _=>absurd hi (Nat.not_lt_zero i))) (.inr rfl) rfl ?_
 refine aj (ι:=Nat) ⟨[(0,some _)],[]⟩ ⟨⟨c9,trivial⟩,trivial⟩ (fun i=>⟨[(3,some (.v (.one (.ref 900 (dz s i).length)))),(4,some (vI i))],[(900,some (.arr true 1 3 (dz s i).length (lf iC (dz s i))))]⟩) (fun i=>i ≤ 32) (fun i=>32 - i) (0) (Nat.zero_le _) ⟨⟨zy,zy,trivial⟩,⟨u9,trivial⟩⟩ ?_
 rintro i hi
 have hlen:=am2 s i
 refine a7 ?_;refine sx7 ?_;(iterate 2 refine qy ?_);refine a6 ?_;refine a8 _ rfl (fun r0=>?_) (fun r0=>?_)
 ·
  have h0:=of_decide_eq_true r0
  try simp only [ty] at h0
  refine aa ?_;refine a7 ?_;refine ab ?_;refine sx7 ?_;(iterate 2 refine qy ?_);refine rc rfl rfl rfl rfl rfl rfl tj (a89 s i) (CoL.refl _) rfl rfl ?_;refine a6 ?_
  refine a8 _ rfl (fun r1=>?_) (fun r1=>?_)
  ·
   have h1:=r1
   refine gy ?_;(iterate 2 refine qy ?_);refine m9 0 ?_;refine ra 1 true rfl rfl rfl rfl rfl rfl ?_;refine qy ?_;refine a6 ?_;refine gy ?_;(iterate 3 refine qy ?_);refine a6 ?_
   first | (refine ⟨i + 1, ?_, ?_, ?_⟩
            · show i + 1 ≤ _;omega
            · first | omega | (dsimp only;omega)
            · exact ⟨⟨⟨_,rfl,(d7 (ld (by omega) (by assumption)))⟩,zy,c9,trivial⟩,⟨⟨_,rfl,(cw (ld (by omega) (by assumption)) (CoP.refl _))⟩,trivial⟩⟩)
         | (refine ⟨i + 1, ?_, ?_, ?_⟩
            · show i + 1 ≤ _;omega
            · first | omega | (dsimp only;omega)
            · exact ⟨⟨⟨_,rfl,(ci (o9 (by omega) (by assumption)))⟩,zy,c9,trivial⟩,⟨⟨_,rfl,(c6 (o9 (by omega) (by assumption)))⟩,trivial⟩⟩)
  ·
   have h1:=r1
   refine aa ?_;refine gy ?_;(iterate 3 refine qy ?_);refine a6 ?_
   first | (refine ⟨i + 1, ?_, ?_, ?_⟩
            · show i + 1 ≤ _;omega
            · first | omega | (dsimp only;omega)
            · exact ⟨⟨⟨_,rfl,(d7 (ld (by omega) (by assumption)))⟩,zy,c9,trivial⟩,⟨⟨_,rfl,(cw (ld (by omega) (by assumption)) (CoP.refl _))⟩,trivial⟩⟩)
         | (refine ⟨i + 1, ?_, ?_, ?_⟩
            · show i + 1 ≤ _;omega
            · first | omega | (dsimp only;omega)
            · exact ⟨⟨⟨_,rfl,(ci (o9 (by omega) (by assumption)))⟩,zy,c9,trivial⟩,⟨⟨_,rfl,(c6 (o9 (by omega) (by assumption)))⟩,trivial⟩⟩)
 ·
  have h0:=of_decide_eq_false r0
  try simp only [ty] at h0
  obtain rfl:i = 32:=by omega
  refine ak ?_;refine sx7 ?_;(iterate 2 refine qy ?_);refine a6 ?_;refine bn 2 rfl rfl rfl ?_
  exact hx8 rfl rfl rfl (⟨CoC.one (CoP.refl _),trivial⟩)
theorem py:goodFn Tryz.prog 153:=⟨Tryz.f153,Tryz.func153,by kernel_rfl,by kernel_rfl⟩
theorem v6 (s:AS):ai Tryz.prog 153 [pA s] (ao [pI (bsz s)]):=by
 refine ah (nt:=6) ae Tryz.func153 rfl rfl l9 ?_;refine sx7 ?_;refine qy ?_;refine a6 ?_;refine sx7 ?_;refine qy ?_;refine rc rfl rfl rfl rfl rfl rfl auw (b29 s) (CoL.refl _) rfl rfl ?_
 (iterate 2 refine qy ?_);refine a6 ?_
 exact hx8 rfl rfl rfl (⟨cci (by rw [oe]),trivial⟩)
theorem agn:goodFn Tryz.prog 159:=⟨Tryz.f159,Tryz.func159,by kernel_rfl,by kernel_rfl⟩
theorem azu (s0:AS):ai Tryz.prog 159 [pA s0] (ao [pP (il (az s0))]):=by
 refine ah (nt:=16) ae Tryz.func159 rfl rfl l9 ?_;refine sx7 ?_;refine qy ?_;refine a6 ?_;refine sx7 ?_;refine qy ?_;refine a6 ?_;refine a7 ?_;refine ab ?_
 refine db 3 900 true 1 3 (lf iC []) (by decide) rfl (CoP.sl rfl (.inr rfl) (fun h=>h) (fun i j hi _=>absurd hi (Nat.not_lt_zero i))) (.inr rfl) rfl ?_
 refine aj (ι:=List Nat × AS) ⟨[],[]⟩ ⟨trivial,trivial⟩ (fun x=>⟨[(3,some (.v (.one (.ref 900 x.1.length)))),(0,some (vA x.2))],[(900,some (.arr true 1 3 x.1.length (lf iC x.1)))]⟩) (fun x=>x.1 ++ az x.2 = az s0) (fun x=>x.2.toNat) (([],s0)) (rfl) ⟨⟨zy,zy,trivial⟩,⟨u9,trivial⟩⟩ ?_
 rintro x hx
 have hlen:=ak7 x hx
 refine a7 ?_;refine sx7 ?_;(iterate 2 refine qy ?_);refine a6 ?_;refine a8 _ rfl (fun r0=>?_) (fun r0=>?_)
 ·
  have h0:=r0
  have h0:=of_decide_eq_false (av h0)
  try simp only [ty] at h0
  have hne:x.2 ≠ 0:=fun e=>h0 (by rw [e];rfl)
  refine aa ?_;refine a7 ?_;refine ab ?_;refine gy ?_;(iterate 2 refine qy ?_);refine rc rfl rfl rfl rfl rfl rfl axd (cTz x.2) (CoL.refl _) rfl rfl ?_;refine m9 0 ?_
  refine ra 1 true rfl rfl rfl rfl rfl rfl ?_;refine qy ?_;refine a6 ?_;refine gy ?_;(iterate 2 refine qy ?_);refine rq rfl rfl rfl rfl rfl ?_ (hp:=(ae6 hne));(iterate 2 refine qy ?_);refine a6 ?_
  refine ⟨(x.1 ++ [ly x.2],x.2 &&& (x.2 - 1)), ?_, ?_, ?_⟩
  · show (x.1 ++ [ly x.2]) ++ az (x.2 &&& (x.2 - 1)) = az s0
    rw [← hx,aog hne,List.append_assoc];rfl
  · exact ap1 hne
  · exact ⟨⟨⟨_,rfl,(d7 rfl)⟩,⟨_,rfl,(fg (ash hne))⟩,trivial⟩,⟨⟨_,rfl,(cw rfl (CoP.refl _))⟩,trivial⟩⟩
 ·
  have h0:=r0
  have h0:=of_decide_eq_true (aw h0)
  try simp only [ty] at h0
  have hz:x.2 = 0:=ep.1 h0
  refine ak ?_;refine sx7 ?_;(iterate 2 refine qy ?_);refine a6 ?_;refine bn 2 rfl rfl rfl ?_
  exact hx8 rfl rfl rfl (⟨CoC.one (CoP.of_eq (by rw [hz,ahz,List.append_nil] at hx;rw [← hx];rfl)),trivial⟩)
theorem atv:goodFn Tryz.prog 158:=⟨Tryz.f158,Tryz.func158,by kernel_rfl,by kernel_rfl⟩
theorem b2e (s:AS):ai Tryz.prog 158 [pA s] (ao [pI (bsz s)]):=by
 refine ah (nt:=21) ae Tryz.func158 rfl rfl l9 ?_;refine sx7 ?_;refine qy ?_;refine a6 ?_;refine a7 ?_
 refine ax (E:=bf) ae ar [0,1,2,3,4,5,6,7,8,9,10,11,12,13,14,15,16,17,18] ?_;(iterate 2 refine qy ?_);refine rq rfl rfl rfl rfl rfl ?_ (hp:=(b2v s (by decide +kernel)))
 (iterate 3 refine qy ?_);refine rq rfl rfl rfl rfl rfl ?_ (hp:=(ixM s 16 (by omega) (by decide +kernel)));refine rqw rfl rfl rfl rfl rfl ?_;(iterate 3 refine qy ?_)
 refine rq rfl rfl rfl rfl rfl ?_ (hp:=(ixM s 8 (by omega) (by decide +kernel)));refine rqw rfl rfl rfl rfl rfl ?_;(iterate 2 refine qy ?_);refine rq rfl rfl rfl rfl rfl ?_ (hp:=(ixL s (by decide +kernel)))
 (iterate 2 refine rqw rfl rfl rfl rfl rfl ?_);refine qy ?_;refine a6 ?_;refine ⟨by kernel_rfl, ?_⟩
 exact hx8 rfl rfl rfl (⟨cci (az5 (by decide +kernel) (ata s 24 (by omega)) (aj2 s 16 (by omega)) (aj2 s 8 (by omega)) (at3 s)),trivial⟩)
theorem a1v:goodFn Tryz.prog 106:=⟨Tryz.f106,Tryz.func106,by kernel_rfl,by kernel_rfl⟩
theorem aaw (s:AS):ai Tryz.prog 106 [pA s] (ao [pI (bsz s)]):=by
 refine ah (nt:=5) ae Tryz.func106 rfl rfl l9 ?_;refine sx7 ?_;refine qy ?_;refine a6 ?_;refine sx7 ?_;refine qy ?_;refine rc rfl rfl rfl rfl rfl rfl atv (b2e s) (CoL.refl _) rfl rfl ?_;refine qy ?_
 refine a6 ?_
 exact hx8 rfl rfl rfl (CoL.refl _)
end Go.Hx
end
section
namespace Go.Hx
def j8 (l:List AS) (k:Nat) (r:AS):List AS:=l.take k ++ r :: l.drop k
theorem jw {l:List AS} {k:Nat} {r:AS} (h:k ≤ l.length):(j8 l k r).length = l.length + 1:=by simp [j8];omega
theorem ar5 {l:List AS} {r:AS}:j8 l l.length r = l ++ [r]:=by simp [j8]
theorem zu {l:List AS} {k i:Nat} {r:AS} (h:k ≤ l.length):(j8 l k r)[i]? = if i < k then l[i]? else if i = k then some r else l[i - 1]?:=by
 simp only [j8]
 by_cases h1:i < k
 · rw [if_pos h1,List.getElem?_append_left (by simp;omega),List.getElem?_take,if_pos h1]
 · rw [if_neg h1,List.getElem?_append_right (by simp;omega),List.length_take,Nat.min_eq_left h]
   by_cases h2:i = k
   · subst h2;simp
   · rw [if_neg h2]
     obtain ⟨d,rfl⟩:∃ d,i = k + 1 + d:=⟨i - k - 1,by omega⟩
     rw [show k + 1 + d - k = d + 1 by omega,List.getElem?_cons_succ,List.getElem?_drop]
     congr 1
     omega
theorem ann {l:List AS} {k:Nat} {r:AS} (h:k ≤ l.length):(j8 l k r).getD k default = r:=by
 rw [List.getD_eq_getElem?_getD,zu h,if_neg (by omega),if_pos rfl];rfl
theorem a94 {l:List AS} {k:Nat} {r:AS} (h0:0 < k) (h:k ≤ l.length):(j8 l k r).getD (k - 1) default = l.getD (k - 1) default:=by
 rw [List.getD_eq_getElem?_getD,zu h,if_pos (by omega),List.getD_eq_getElem?_getD]
theorem alv {l:List AS} {k:Nat} {r:AS} (h0:0 < k) (h:k ≤ l.length):((j8 l k r).set k (l.getD (k - 1) default)).set (k - 1) r = j8 l (k - 1) r:=by
 apply List.ext_getElem?
 intro i
 rw [zu (by omega),List.getElem?_set,List.getElem?_set,List.length_set,jw h,zu h]
 by_cases h1:k - 1 = i
 · subst h1
   rw [if_pos rfl,if_pos (by omega),if_neg (by omega),if_pos rfl]
 · rw [if_neg h1]
   by_cases h2:k = i
   · subst h2
     rw [if_pos rfl,if_pos (by omega),if_neg (by omega),if_neg (by omega),List.getD,List.getElem?_eq_getElem (by omega)]
     rfl
   · rw [if_neg h2]
     by_cases h3:i < k
     · rw [if_pos h3,if_pos (by omega)]
     · rw [if_neg h3,if_neg (by omega),if_neg (by omega),if_neg (by omega)]
theorem akq {l:List AS} {k k' m':Nat} {r:AS} (h0:0 < k) (hk:k ≤ l.length) (hk':k' = k) (hm':m' = k - 1) {n:Nat} (hn:n = l.length + 1) {e:TypeId} :
 CoO (.arr true 1 e n (dw (dw (lf sC (j8 l k r)) k' 0 [lf sC (j8 l k r) m' 0]) m' 0 [lf sC (j8 l k r) k' 0])) (.arr true 1 e n (lf sC (j8 l (k - 1) r))):=by
 subst hk' hm'
 rw [← alv h0 hk]
 refine agp (fun h=>h) (by rw [jw hk];exact hn) (by rw [jw hk];omega) (by rw [jw hk];omega) rfl rfl (fun j hj=>?_) (fun j hj=>?_)
 · obtain rfl:j = 0:=by omega
   exact CoP.of_eq (by show sC ((j8 l k' r).getD (k' - 1) default) 0 = _;rw [a94 h0 hk])
 · obtain rfl:j = 0:=by omega
   exact CoP.of_eq (by show sC ((j8 l k' r).getD k' default) 0 = _;rw [ann hk])
theorem akv {l:List AS} {k k' m':Nat} {r:AS} {b:Bool} (h0:0 < k) (hk:k ≤ l.length) (h:bef ((j8 l k r).getD k' default) ((j8 l k r).getD m' default) = b) (hk':k' = k) (hm':m' = k - 1):bef r (l.getD (k - 1) default) = b:=by
 subst hk' hm'
 rwa [ann hk,a94 h0 hk] at h
theorem apg {l:List AS} {j:Nat} (h:j < l.length):l.getD j default ∈ l:=by
 rw [List.getD_eq_getElem?_getD,List.getElem?_eq_getElem h]
 exact List.getElem_mem h
theorem a9p {l:List AS} {k:Nat} {r:AS} (hs:nb l) (hr:r ∉ l) (hk:k ≤ l.length) (h1:∀ j,k ≤ j → j < l.length → bef r (l.getD j default) = true) (h2:k = 0 ∨ ¬ bef r (l.getD (k - 1) default) = true):j8 l k r = jv r l:=by
 refine nn ?_ (vj hs) fun z=>?_
 · unfold nb j8
   rw [List.pairwise_append]
   refine ⟨hs.sublist (List.take_sublist _ _),List.pairwise_cons.2 ⟨fun z hz=>?_,hs.sublist (List.drop_sublist _ _)⟩,fun y hy z hz=>?_⟩
   · obtain ⟨j,hj,rfl⟩:=List.getElem_of_mem hz
     rw [List.length_drop] at hj
     have:=h1 (k + j) (by omega) (by omega)
     rwa [List.getD_eq_getElem?_getD,List.getElem?_eq_getElem (by omega),Option.getD_some,← List.getElem_drop] at this
   · have hyr:bef y r = true:=by
      obtain ⟨j,hj,rfl⟩:=List.getElem_of_mem hy
      rw [List.length_take] at hj
      rcases h2 with h2 | h2
      · omega
      · have hk1:k - 1 < l.length:=by omega
        have hlast:bef (l.getD (k - 1) default) r = true:=by
         rcases a28 (a:=r) (b:=l.getD (k - 1) default) (fun e=>hr (e ▸ apg hk1)) with h | h
         · exact absurd h h2
         · exact h
        rw [List.getElem_take]
        by_cases hjk:j = k - 1
        · subst hjk
          rwa [List.getD_eq_getElem?_getD,List.getElem?_eq_getElem hk1,Option.getD_some] at hlast
        · refine oq ?_ hlast
          rw [List.getD_eq_getElem?_getD,List.getElem?_eq_getElem hk1,Option.getD_some]
          exact List.pairwise_iff_getElem.1 hs j (k - 1) (by omega) hk1 (by omega)
     rcases List.mem_cons.1 hz with rfl | hz
     · exact hyr
     · have h3:bef r z = true:=by
        obtain ⟨j,hj,rfl⟩:=List.getElem_of_mem hz
        rw [List.length_drop] at hj
        have:=h1 (k + j) (by omega) (by omega)
        rwa [List.getD_eq_getElem?_getD,List.getElem?_eq_getElem (by omega),Option.getD_some,← List.getElem_drop] at this
       exact oq hyr h3
 · rw [ul]
   unfold j8
   rw [List.mem_append,List.mem_cons]
   constructor
   · rintro (h | h | h)
     · exact .inr (List.mem_of_mem_take h)
     · exact .inl h
     · exact .inr (List.mem_of_mem_drop h)
   · rintro (h | h)
     · exact .inr (.inl h)
     · rw [← List.take_append_drop k l,List.mem_append] at h
       rcases h with h | h
       · exact .inl h
       · exact .inr (.inr h)
theorem qj {r:AS} {l:List AS} (hs:nb l) (hr:r ∈ l):jv r l = l:=nn (vj hs) hs fun z=>by
 rw [ul]
 constructor
 · rintro (rfl | h)
   · exact hr
   · exact h
 · exact .inr
theorem fk {l:List AS} {i:Nat} (hi:i < l.length):ord (l.take (i + 1)) = jv (l.getD i default) (ord (l.take i)):=by
 unfold ord
 rw [be hi,List.foldl_append]
 rfl
theorem acq (x:AS):∀ l:List AS,(jv x l).length ≤ l.length + 1
 | []=>by simp [jv]
 | y :: l=>by
  unfold jv
  have:=acq x l
  split
  · simp
  · split
    · simp
    · simp only [List.length_cons];omega
theorem ot (l:List AS):(ord l).length ≤ l.length:=by
 have:∀ (l o:List AS),(l.foldl (fun o x=>jv x o) o).length ≤ o.length + l.length:=by
  intro l
  induction l with
  | nil=>intro o;simp
  | cons x l ih =>
   intro o
   have h1:=ih (jv x o)
   have h2:=acq x o
   simp only [List.foldl_cons,List.length_cons]
   omega
 have h:=this l []
 simpa [ord] using h
theorem ahm {l:List AS} {s:AS}:(l.any fun x=>decide (x = s)) = decide (s ∈ l):=by
 rw [Bool.eq_iff_iff,List.any_eq_true,decide_eq_true_iff]
 constructor
 · rintro ⟨x,hx,h⟩
   exact of_decide_eq_true h ▸ hx
 · intro h
   exact ⟨s,h,decide_eq_true rfl⟩
def jC:Int → Nat → PV:=fun n _=>.raw (.int .i64 n)
def orF (l:List Int):Int:=(l.find? fun x=>decide (x ≠ 0)).getD 0
theorem b1z {l:List Int} {i:Nat} (hi:i < l.length) (hI:∀ j,j < i → decide (l.getD j default = 0) = true) (h:¬ l.getD i default = 0):orF l = l.getD i default:=by
 unfold orF
 have:l.find? (fun x=>decide (x ≠ 0)) = some (l.getD i default):=by
  rw [List.find?_eq_some_iff_getElem]
  refine ⟨decide_eq_true h,i,hi,by simp [List.getD,hi],fun j hj=>?_⟩
  have:=of_decide_eq_true (hI j hj)
  rw [List.getD_eq_getElem?_getD,List.getElem?_eq_getElem (by omega),Option.getD_some] at this
  simp [this]
 rw [this];rfl
theorem b22 {l:List Int} (hI:∀ j,j < l.length → decide (l.getD j default = 0) = true):orF l = 0:=by
 unfold orF
 have:l.find? (fun x=>decide (x ≠ 0)) = none:=by
  rw [List.find?_eq_none]
  intro x hx
  obtain ⟨j,hj,rfl⟩:=List.getElem_of_mem hx
  have:=of_decide_eq_true (hI j hj)
  rw [List.getD_eq_getElem?_getD,List.getElem?_eq_getElem hj,Option.getD_some] at this
  simp [this]
 rw [this];rfl
theorem auk (a b:AS):orF [it (bsz a) (bsz b),it (asI a) (asI b)] = zx a b:=by
 unfold orF zx
 by_cases h:it (bsz a) (bsz b) = 0
 · by_cases h2:it (asI a) (asI b) = 0 <;> simp [h,h2]
 · simp [h]
theorem av4 {α:Type} [Inhabited α] {cl:Bool} {c:α → Nat → PV} {x y:α} {f:Nat → Nat → PV} (h0:CoP (f 0 0) (c x 0)) (h1:CoP (f 1 0) (c y 0)):CoP (.sl 2 1 cl f) (psl 1 c [x,y]) :=
 CoP.sl rfl (.inl rfl) (fun h=>by cases h) fun i j hi hj=>by
  obtain rfl:j = 0:=by omega
  rcases (by omega:i = 0 ∨ i = 1) with rfl | rfl
  · exact h0
  · exact h1
theorem ayn {a b:AS} (h:¬ (bsz a:Int) = bsz b):decide ((bsz a:Int) < bsz b) = bef a b:=by
 rw [Bool.eq_iff_iff,decide_eq_true_iff,ke]
 omega
theorem az2 {a b:AS} (h:(bsz a:Int) = bsz b):decide (asI a < asI b) = bef a b:=by
 rw [Bool.eq_iff_iff,decide_eq_true_iff,ke]
 unfold asI
 omega
theorem ag1 {α:Type} [Inhabited α] {wr wr':Bool} {e:TypeId} {c:α → Nat → PV} {l:List α} {x:α} {g:Nat → Nat → PV} (hg:CoP (g 0 0) (c x 0)) (hw:wr' = true → wr = true:=by exact fun h=>h) :
 CoO (.arr wr 1 e (l.length + 1) (ef l.length (lf c l) g)) (.arr wr' 1 e (l.length + 1) (lf c (l ++ [x]))):=by
 have h:=cw (wr:=wr) (wr':=wr') (e:=e) (l:=l) (l':=l ++ [x]) (g:=g) rfl hg hw
 rwa [show (l ++ [x]).length = l.length + 1 by simp] at h
theorem mn {α:Type} [Inhabited α] {wr wr':Bool} {s n m:Nat} {e:TypeId} {c:α → Nat → PV} {l l':List α} (h:l' = l) (hn:n = m) (hw:wr' = true → wr = true:=by exact fun h=>h):CoO (.arr wr s e n (lf c l)) (.arr wr' s e m (lf c l')):=by
 subst h hn
 exact ⟨hw,rfl,rfl,rfl,fun _ _ _ _=>CoP.refl _⟩
theorem ark {a b:AS}:decide (zx a b < 0) = bef a b:=by
 rw [Bool.eq_iff_iff,decide_eq_true_iff,ke]
 unfold zx it asI
 split <;> (repeat' split) <;> omega
end Go.Hx
end
section
namespace Go.Hx
open Go.Proofs
set_option maxRecDepth 100000
set_option maxHeartbeats 1000000
theorem av3:goodFn Tryz.prog 142:=⟨Tryz.f142,Tryz.func142,by kernel_rfl,by kernel_rfl⟩
theorem avl (a b:AS):ai Tryz.prog 142 [pA a,pA b] (ao [pB (bef a b)]):=by
 refine ah (nt:=18) ae Tryz.func142 rfl rfl l9 ?_;refine sx7 ?_;refine qy ?_;refine a6 ?_;refine a7 ?_;refine sx7 ?_;refine qy ?_
 refine rc rfl rfl rfl rfl rfl rfl py (v6 _) (CoL.refl _) rfl rfl ?_;refine qy ?_;refine rc rfl rfl rfl rfl rfl rfl py (v6 _) (CoL.refl _) rfl rfl ?_;refine qy ?_;refine a6 ?_
 refine a8 _ rfl (fun r0=>?_) (fun r0=>?_)
 ·
  have h0:=r0
  have h0:=of_decide_eq_false (av h0)
  try simp only [ty] at h0
  refine sx7 ?_;refine qy ?_;refine rc rfl rfl rfl rfl rfl rfl py (v6 _) (CoL.refl _) rfl rfl ?_;refine qy ?_;refine rc rfl rfl rfl rfl rfl rfl py (v6 _) (CoL.refl _) rfl rfl ?_;(iterate 2 refine qy ?_)
  refine a6 ?_
  exact hx8 rfl rfl rfl (⟨ccb (ayn h0),trivial⟩)
 ·
  have h0:=r0
  have h0:=of_decide_eq_true (aw h0)
  try simp only [ty] at h0
  refine aa ?_;refine sx7 ?_;(iterate 4 refine qy ?_);refine a6 ?_
  exact hx8 rfl rfl rfl (⟨ccb (az2 h0),trivial⟩)
theorem a7y:goodFn Tryz.prog 141:=⟨Tryz.f141,Tryz.func141,by kernel_rfl,by kernel_rfl⟩
theorem cIn (l:List AS) (s:AS):ai Tryz.prog 141 [pP (asl l),pA s] (ao [pB (decide (s ∈ l))]):=by
 refine ah (nt:=18) ae Tryz.func141 rfl rfl l9 ?_;refine a7 ?_
 refine d9 0 rfl fun hn=>?_
 refine gy ?_;refine qy ?_;refine a6 ?_;refine dm (ι:=Unit) ⟨[],[]⟩ ⟨trivial,trivial⟩ (fun _i=>⟨[],[]⟩) (fun _i=>decide (s ∈ l) = false) ?_ ?_
 ·
  refine sx7 ?_;refine qy ?_;refine a6 ?_;refine ab ?_
  refine aj (ι:=Nat) ⟨[(0,some _),(1,some _)],[]⟩ ⟨⟨c9,c9,trivial⟩,trivial⟩ (fun i=>⟨[(5,some (vI i))],[]⟩) (fun i=>i ≤ l.length ∧ (∀ j,j < i → decide (l.getD j default = s) = false)) (fun i=>l.length - i) (0) (⟨Nat.zero_le _,cg⟩) ⟨⟨zy,trivial⟩,trivial⟩ ?_
  rintro i ⟨hi,hI⟩
  refine a7 ?_;refine sx7 ?_;(iterate 4 refine qy ?_);refine a6 ?_;refine a8 _ rfl (fun r0=>?_) (fun r0=>?_)
  ·
   have h0:=of_decide_eq_true r0
   try simp only [ty] at h0
   refine aa ?_;refine a7 ?_;refine ab ?_;refine sx7 ?_;(iterate 6 refine qy ?_);refine a6 ?_;refine a8 _ rfl (fun r1=>?_) (fun r1=>?_)
   ·
    have h1:=of_decide_eq_true r1
    try simp only [ty] at h1
    refine sx7 ?_;refine qy ?_;refine a6 ?_
    exact hx8 rfl rfl rfl (⟨ccb (by rw [← ahm];exact (aan (p:=fun x=>decide (x = s)) (i:=i) (by omega) (decide_eq_true (ep.1 h1))).symm),trivial⟩)
   ·
    have h1:=of_decide_eq_false r1
    try simp only [ty] at h1
    refine aa ?_;refine gy ?_;(iterate 3 refine qy ?_);refine a6 ?_;refine ⟨i + 1, ?_, ?_, ?_⟩
    · exact ⟨by show i + 1 ≤ _;omega,br hI (decide_eq_false fun e=>h1 (congrArg asI e))⟩
    · first | omega | (dsimp only;omega)
    · exact ⟨⟨zy,c9,c9,trivial⟩,trivial⟩
  ·
   have h0:=of_decide_eq_false r0
   try simp only [ty] at h0
   refine ak ?_;refine ⟨(), ?_, ?_⟩
   · rw [← ahm];exact aag (p:=fun x=>decide (x = s)) fun j hj=>hI j (by omega)
   · exact ⟨trivial,trivial⟩
 · rintro _ hj
   refine sx7 ?_;refine qy ?_;refine a6 ?_
   exact hx8 rfl rfl rfl (⟨ccb hj.symm,trivial⟩)
theorem agj:goodFn Tryz.prog 201:=⟨Tryz.f201,Tryz.func201,by kernel_rfl,by kernel_rfl⟩
theorem atr (a:Int):ai Tryz.prog 201 [pI a] (ao [pB false]):=by
 refine ah (nt:=6) ae Tryz.func201 rfl rfl l9 ?_;refine sx7 ?_;refine qy ?_;refine a6 ?_;refine sx7 ?_;(iterate 4 refine qy ?_);refine a6 ?_
 exact hx8 rfl rfl rfl (⟨ccb (by simp),trivial⟩)
theorem ahu:goodFn Tryz.prog 202:=⟨Tryz.f202,Tryz.func202,by kernel_rfl,by kernel_rfl⟩
theorem ass (a:AS):ai Tryz.prog 202 [pA a] (ao [pB false]):=by
 refine ah (nt:=6) ae Tryz.func202 rfl rfl l9 ?_;refine sx7 ?_;refine qy ?_;refine a6 ?_;refine sx7 ?_;(iterate 4 refine qy ?_);refine a6 ?_
 exact hx8 rfl rfl rfl (⟨ccb (by simp),trivial⟩)
theorem ahq:goodFn Tryz.prog 163:=⟨Tryz.f163,Tryz.func163,by kernel_rfl,by kernel_rfl⟩
theorem at1 (a b:Int):ai Tryz.prog 163 [pI a,pI b] (ao [pI (it a b)]):=by
 refine ah (nt:=20) ae Tryz.func163 rfl rfl l9 ?_;refine sx7 ?_;refine qy ?_;refine a6 ?_;refine sx7 ?_;refine qy ?_;refine rc rfl rfl rfl rfl rfl rfl agj (atr _) (CoL.refl _) rfl rfl ?_;refine qy ?_
 refine a6 ?_;refine sx7 ?_;refine qy ?_;refine rc rfl rfl rfl rfl rfl rfl agj (atr _) (CoL.refl _) rfl rfl ?_;refine qy ?_;refine a6 ?_;refine a7 ?_;refine sx7 ?_;refine qy ?_;refine a6 ?_
 refine a8 _ rfl (fun e=>by cases e) (fun _=>?_);refine aa ?_;refine a7 ?_;refine sx7 ?_;refine qy ?_;refine a6 ?_;refine a8 _ rfl (fun e=>by cases e) (fun _=>?_);refine aa ?_
 refine a7 ?_;refine sx7 ?_;(iterate 3 refine qy ?_);refine a6 ?_;refine a8 _ rfl (fun r0=>?_) (fun r0=>?_)
 ·
  have h0:=of_decide_eq_true r0
  try simp only [ty] at h0
  refine sx7 ?_;refine qy ?_;refine a6 ?_
  exact hx8 rfl rfl rfl (⟨cci (by unfold it;first | (rw [if_pos (by omega)]) | (rw [if_neg (by omega),if_pos (by omega)]) | (rw [if_neg (by omega),if_neg (by omega)])),trivial⟩)
 ·
  have h0:=of_decide_eq_false r0
  try simp only [ty] at h0
  refine aa ?_;refine a7 ?_;refine sx7 ?_;(iterate 3 refine qy ?_);refine a6 ?_;refine a8 _ rfl (fun r1=>?_) (fun r1=>?_)
  ·
   have h1:=of_decide_eq_true r1
   try simp only [ty] at h1
   refine sx7 ?_;refine qy ?_;refine a6 ?_
   exact hx8 rfl rfl rfl (⟨cci (by unfold it;first | (rw [if_pos (by omega)]) | (rw [if_neg (by omega),if_pos (by omega)]) | (rw [if_neg (by omega),if_neg (by omega)])),trivial⟩)
  ·
   have h1:=of_decide_eq_false r1
   try simp only [ty] at h1
   refine aa ?_;refine sx7 ?_;refine qy ?_;refine a6 ?_
   exact hx8 rfl rfl rfl (⟨cci (by unfold it;first | (rw [if_pos (by omega)]) | (rw [if_neg (by omega),if_pos (by omega)]) | (rw [if_neg (by omega),if_neg (by omega)])),trivial⟩)
theorem axs:goodFn Tryz.prog 164:=⟨Tryz.f164,Tryz.func164,by kernel_rfl,by kernel_rfl⟩
theorem b2f (a b:AS):ai Tryz.prog 164 [pA a,pA b] (ao [pI (it (asI a) (asI b))]):=by
 refine ah (nt:=20) ae Tryz.func164 rfl rfl l9 ?_;refine sx7 ?_;refine qy ?_;refine a6 ?_;refine sx7 ?_;refine qy ?_;refine rc rfl rfl rfl rfl rfl rfl ahu (ass _) (CoL.refl _) rfl rfl ?_;refine qy ?_
 refine a6 ?_;refine sx7 ?_;refine qy ?_;refine rc rfl rfl rfl rfl rfl rfl ahu (ass _) (CoL.refl _) rfl rfl ?_;refine qy ?_;refine a6 ?_;refine a7 ?_;refine sx7 ?_;refine qy ?_;refine a6 ?_
 refine a8 _ rfl (fun e=>by cases e) (fun _=>?_);refine aa ?_;refine a7 ?_;refine sx7 ?_;refine qy ?_;refine a6 ?_;refine a8 _ rfl (fun e=>by cases e) (fun _=>?_);refine aa ?_
 refine a7 ?_;refine sx7 ?_;(iterate 3 refine qy ?_);refine a6 ?_;refine a8 _ rfl (fun r0=>?_) (fun r0=>?_)
 ·
  have h0:=of_decide_eq_true r0
  try simp only [ty] at h0
  refine sx7 ?_;refine qy ?_;refine a6 ?_
  exact hx8 rfl rfl rfl (⟨cci (by unfold it;first | (rw [if_pos (by omega)]) | (rw [if_neg (by omega),if_pos (by omega)]) | (rw [if_neg (by omega),if_neg (by omega)])),trivial⟩)
 ·
  have h0:=of_decide_eq_false r0
  try simp only [ty] at h0
  refine aa ?_;refine a7 ?_;refine sx7 ?_;(iterate 3 refine qy ?_);refine a6 ?_;refine a8 _ rfl (fun r1=>?_) (fun r1=>?_)
  ·
   have h1:=of_decide_eq_true r1
   try simp only [ty] at h1
   refine sx7 ?_;refine qy ?_;refine a6 ?_
   exact hx8 rfl rfl rfl (⟨cci (by unfold it;first | (rw [if_pos (by omega)]) | (rw [if_neg (by omega),if_pos (by omega)]) | (rw [if_neg (by omega),if_neg (by omega)])),trivial⟩)
  ·
   have h1:=of_decide_eq_false r1
   try simp only [ty] at h1
   refine aa ?_;refine sx7 ?_;refine qy ?_;refine a6 ?_
   exact hx8 rfl rfl rfl (⟨cci (by unfold it;first | (rw [if_pos (by omega)]) | (rw [if_neg (by omega),if_pos (by omega)]) | (rw [if_neg (by omega),if_neg (by omega)])),trivial⟩)
theorem aui:goodFn Tryz.prog 162:=⟨Tryz.f162,Tryz.func162,by kernel_rfl,by kernel_rfl⟩
theorem cOr (l:List Int):ai Tryz.prog 162 [pP (psl 1 jC l)] (ao [pI (orF l)]):=by
 refine ah (nt:=18) ae Tryz.func162 rfl rfl l9 ?_;refine a7 ?_
 refine d9 0 rfl fun hn=>?_
 refine gy ?_;refine qy ?_;refine a6 ?_;refine sx7 ?_;refine qy ?_;refine a6 ?_;refine dm (ι:=Unit) ⟨[(3,some _)],[]⟩ ⟨⟨c9,trivial⟩,trivial⟩ (fun _i=>⟨[],[]⟩) (fun _i=>orF l = 0) ?_ ?_
 ·
  refine sx7 ?_;(iterate 3 refine qy ?_);refine a6 ?_;refine ab ?_
  refine aj (ι:=Nat) ⟨[(3,some _),(6,some _),(7,some _)],[]⟩ ⟨⟨c9,c9,c9,trivial⟩,trivial⟩ (fun i=>⟨[(8,some (vI i))],[]⟩) (fun i=>i ≤ l.length ∧ (∀ j,j < i → decide (l.getD j default = 0) = true)) (fun i=>l.length - i) (0) (⟨Nat.zero_le _,cg⟩) ⟨⟨zy,trivial⟩,trivial⟩ ?_
  rintro i ⟨hi,hI⟩
  refine sx7 ?_;refine qy ?_;refine a6 ?_;refine a7 ?_;refine a8 _ rfl (fun r0=>?_) (fun r0=>?_)
  ·
   have h0:=of_decide_eq_true r0
   try simp only [ty] at h0
   refine aa ?_;refine a7 ?_;refine ab ?_;refine sx7 ?_;(iterate 3 refine qy ?_);refine a6 ?_;refine sx7 ?_;(iterate 3 refine qy ?_);refine a6 ?_;refine a8 _ rfl (fun r1=>?_) (fun r1=>?_)
   ·
    have h1:=r1
    have h1:=of_decide_eq_false (av h1)
    try simp only [ty] at h1
    refine sx7 ?_;(iterate 2 refine qy ?_);refine a6 ?_
    exact hx8 rfl rfl rfl (⟨cci (b1z (i:=i) (by omega) hI h1).symm,trivial⟩)
   ·
    have h1:=r1
    have h1:=of_decide_eq_true (aw h1)
    try simp only [ty] at h1
    refine aa ?_;refine gy ?_;(iterate 2 refine qy ?_);refine a6 ?_;refine ⟨i + 1, ?_, ?_, ?_⟩
    · exact ⟨by show i + 1 ≤ _;omega,br hI (decide_eq_true h1)⟩
    · first | omega | (dsimp only;omega)
    · exact ⟨⟨zy,c9,c9,c9,trivial⟩,trivial⟩
  ·
   have h0:=of_decide_eq_false r0
   try simp only [ty] at h0
   refine ak ?_;refine ⟨(), ?_, ?_⟩
   · exact b22 fun j hj=>hI j (by omega)
   · exact ⟨⟨c9,trivial⟩,trivial⟩
 · rintro _ hj
   refine sx7 ?_;(iterate 2 refine qy ?_);refine a6 ?_
   exact hx8 rfl rfl rfl (⟨cci hj.symm,trivial⟩)
theorem art (a b:AS):ai Tryz.prog 113 [pA a,pA b] (ao [pI (zx a b)]):=by
 refine ah (nt:=15) ae Tryz.func113 rfl rfl l9 ?_;refine sx7 ?_;refine qy ?_;refine a6 ?_;refine sx7 ?_;refine qy ?_;refine rc rfl rfl rfl rfl rfl rfl a1v (aaw _) (CoL.refl _) rfl rfl ?_;refine qy ?_
 refine rc rfl rfl rfl rfl rfl rfl a1v (aaw _) (CoL.refl _) rfl rfl ?_;refine rc rfl rfl rfl rfl rfl rfl ahq (at1 _ _) (CoL.refl _) rfl rfl ?_;(iterate 2 refine qy ?_)
 refine rc rfl rfl rfl rfl rfl rfl axs (b2f _ _) (CoL.refl _) rfl rfl ?_;refine m9 0 ?_
 refine rc rfl rfl rfl rfl rfl rfl aui (cOr [it (bsz a) (bsz b),it (asI a) (asI b)]) (⟨CoC.one (av4 (CoP.refl _) (CoP.refl _)),trivial⟩) rfl rfl ?_;refine qy ?_;refine a6 ?_
 exact hx8 rfl rfl rfl (⟨cci (auk a b),trivial⟩)
theorem aco:goodFn Tryz.prog 94:=⟨Tryz.f94,Tryz.func94,by kernel_rfl,by kernel_rfl⟩
theorem a7h (l:List AS) (hl:l.length ≤ 8589934592):ai Tryz.prog 94 [pP (asl l)] (ao [pP (asl (ord l))]):=by
 refine ah (nt:=61) ae Tryz.func94 rfl rfl l9 ?_;refine a7 ?_
 refine d9 0 rfl fun hn=>?_
 refine gy ?_;refine qy ?_;refine a6 ?_;refine sx7 ?_;refine qy ?_;refine a6 ?_;refine a7 ?_;refine sx7 ?_;refine qy ?_;refine a6 ?_;refine ab ?_
 refine db 3 900 true 1 38 (lf sC []) (by decide) rfl (CoP.sl rfl (.inr rfl) (fun h=>h) (fun i j hi _=>absurd hi (Nat.not_lt_zero i))) (.inr rfl) rfl ?_
 refine aj (ι:=Nat) ⟨[(0,some _)],[]⟩ ⟨⟨c9,trivial⟩,trivial⟩ (fun i=>⟨[(3,some (.v (.one (.ref 900 (ord (l.take i)).length)))),(4,some (vI i))],[(900,some (.arr true 1 38 (ord (l.take i)).length (lf sC (ord (l.take i)))))]⟩) (fun i=>i ≤ l.length) (fun i=>l.length - i) (0) (Nat.zero_le _) ⟨⟨zy,zy,trivial⟩,⟨u9,trivial⟩⟩ ?_
 rintro i hi
 have hlen:=ot (l.take i)
 rw [List.length_take] at hlen
 refine a7 ?_;refine sx7 ?_;(iterate 4 refine qy ?_);refine a6 ?_;refine a8 _ rfl (fun r0=>?_) (fun r0=>?_)
 ·
  have h0:=of_decide_eq_true r0
  try simp only [ty] at h0
  refine aa ?_;refine a7 ?_;refine ab ?_;refine a7 ?_;refine sx7 ?_;(iterate 5 refine qy ?_);refine rc rfl rfl rfl rfl rfl rfl a7y (cIn (ord (l.take i)) (l.getD i default)) (CoL.refl _) rfl rfl ?_
  refine a6 ?_;refine a8 _ rfl (fun r1=>?_) (fun r1=>?_)
  ·
   have h1:=r1
   have hin:=of_decide_eq_true h1
   refine ak ?_;refine gy ?_;(iterate 3 refine qy ?_);refine a6 ?_
   first | (refine ⟨i + 1, ?_, ?_, ?_⟩
            · show i + 1 ≤ _;omega
            · first | omega | (dsimp only;omega)
            · exact ⟨⟨⟨_,rfl,(ci (by rw [fk (by omega),qj (gd _) hin]))⟩,zy,c9,trivial⟩,⟨⟨_,rfl,(c6 (by rw [fk (by omega),qj (gd _) hin]))⟩,trivial⟩⟩)
         | (refine ⟨i + 1, ?_, ?_, ?_⟩
            · show i + 1 ≤ _;omega
            · first | omega | (dsimp only;omega)
            · exact ⟨⟨⟨_,rfl,(a7g (by rw [fk (by omega),← hfin,jw hk]))⟩,zy,c9,trivial⟩,⟨⟨_,rfl,(mn (by rw [fk (by omega),← hfin]) (by rw [fk (by omega),← hfin,jw hk]))⟩,trivial⟩⟩)
  ·
   have h1:=r1
   have hin:=of_decide_eq_false h1
   refine aa ?_;refine sx7 ?_;(iterate 5 refine qy ?_);refine m9 0 ?_;refine ra 1 true rfl rfl rfl rfl rfl rfl ?_;refine qy ?_;refine a6 ?_;refine sx7 ?_;(iterate 4 refine qy ?_);refine a6 ?_
   refine ab ?_
   refine aj (ι:=Nat) ⟨[(0,some _),(3,some _),(4,some _)],[]⟩ ⟨⟨c9,c9,c9,trivial⟩,trivial⟩ (fun k=>⟨[(5,some (vI k))],[(900,some (.arr true 1 38 ((ord (l.take i)).length + 1) (lf sC (j8 (ord (l.take i)) k (l.getD i default)))))]⟩) (fun k=>k ≤ (ord (l.take i)).length ∧ ∀ j,k ≤ j → j < (ord (l.take i)).length → bef (l.getD i default) ((ord (l.take i)).getD j default) = true) (fun k=>k) ((ord (l.take i)).length) (⟨Nat.le_refl _,fun j h1 h2=>by omega⟩) ⟨⟨zy,trivial⟩,⟨⟨_,rfl,(by rw [ar5];exact ag1 (CoP.refl _))⟩,trivial⟩⟩ ?_
   rintro k ⟨hk,hK⟩
   (iterate 2 refine a7 ?_);refine ax (E:=bf) ae ar [0,1,2,3,4,5,6,7,8,9,10,11,12,13] ?_;(iterate 3 refine qy ?_);refine b4 rfl rfl (fun r2=>?_) (fun r2=>?_)
   ·
    have h2:=of_decide_eq_true r2
    try simp only [ty] at h2
    (iterate 9 refine qy ?_ (hg:=(gtt r2)));refine rc rfl rfl rfl rfl rfl rfl av3 (avl _ _) (CoL.refl _) rfl (gtt r2) ?_;refine qy ?_;refine a6 ?_;refine ⟨by kernel_rfl, ?_⟩
    refine a8 _ rfl (fun r3=>?_) (fun r3=>?_)
    ·
     have h3:=r3
     have h3:=df r2 h3
     have hb:=akv (by omega) hk h3 (by omega) (by omega)
     refine aa ?_;refine a7 ?_;refine ab ?_;refine ax (E:=bf) ae ar [0,1,5,6,7,8,9,10,11,12,13,14,15,2,3,4,16,17] ?_;(iterate 12 refine qy ?_);refine s9 ?_
     (iterate 4 refine qy ?_);refine s9 ?_;refine a6 ?_;refine ⟨by kernel_rfl, ?_⟩;refine gy ?_;(iterate 3 refine qy ?_);refine a6 ?_;refine ⟨k - 1, ?_, ?_, ?_⟩
     · refine ⟨by omega,fun j h1 h2=>?_⟩
       by_cases hj:j = k - 1
       · rw [hj];exact hb
       · exact hK j (by omega) h2
     · show k - 1 < k
       omega
     · exact ⟨⟨zy,c9,c9,c9,trivial⟩,⟨⟨_,rfl,(akq (by omega) hk (by omega) (by omega) rfl)⟩,trivial⟩⟩
    ·
     have h3:=r3
     have h3:=df r2 h3
     have hb:=akv (by omega) hk h3 (by omega) (by omega)
     have hfin:=a9p (gd _) hin hk hK (.inr (by rw [hb];decide))
     refine ak ?_;refine gy ?_;(iterate 3 refine qy ?_);refine a6 ?_
     first | (refine ⟨i + 1, ?_, ?_, ?_⟩
              · show i + 1 ≤ _;omega
              · first | omega | (dsimp only;omega)
              · exact ⟨⟨⟨_,rfl,(ci (by rw [fk (by omega),qj (gd _) hin]))⟩,zy,c9,trivial⟩,⟨⟨_,rfl,(c6 (by rw [fk (by omega),qj (gd _) hin]))⟩,trivial⟩⟩)
           | (refine ⟨i + 1, ?_, ?_, ?_⟩
              · show i + 1 ≤ _;omega
              · first | omega | (dsimp only;omega)
              · exact ⟨⟨⟨_,rfl,(a7g (by rw [fk (by omega),← hfin,jw hk]))⟩,zy,c9,trivial⟩,⟨⟨_,rfl,(mn (by rw [fk (by omega),← hfin]) (by rw [fk (by omega),← hfin,jw hk]))⟩,trivial⟩⟩)
   ·
    have h2:=of_decide_eq_false r2
    try simp only [ty] at h2
    have hfin:=a9p (gd _) hin hk hK (.inl (by omega))
    (iterate 10 refine k9 (gft r2) ?_);refine rq rfl rfl rfl rfl rfl ?_ (hp:=r2);refine a6 ?_;refine ⟨by kernel_rfl, ?_⟩;refine a8 _ rfl (fun e=>by cases e) (fun _=>?_);refine ak ?_;refine gy ?_
    (iterate 3 refine qy ?_);refine a6 ?_
    first | (refine ⟨i + 1, ?_, ?_, ?_⟩
             · show i + 1 ≤ _;omega
             · first | omega | (dsimp only;omega)
             · exact ⟨⟨⟨_,rfl,(ci (by rw [fk (by omega),qj (gd _) hin]))⟩,zy,c9,trivial⟩,⟨⟨_,rfl,(c6 (by rw [fk (by omega),qj (gd _) hin]))⟩,trivial⟩⟩)
          | (refine ⟨i + 1, ?_, ?_, ?_⟩
             · show i + 1 ≤ _;omega
             · first | omega | (dsimp only;omega)
             · exact ⟨⟨⟨_,rfl,(a7g (by rw [fk (by omega),← hfin,jw hk]))⟩,zy,c9,trivial⟩,⟨⟨_,rfl,(mn (by rw [fk (by omega),← hfin]) (by rw [fk (by omega),← hfin,jw hk]))⟩,trivial⟩⟩)
 ·
  have h0:=of_decide_eq_false r0
  try simp only [ty] at h0
  obtain rfl:i = l.length:=by omega
  refine ak ?_;refine sx7 ?_;(iterate 2 refine qy ?_);refine a6 ?_;refine bn 2 rfl rfl rfl ?_
  exact hx8 rfl rfl rfl (⟨CoC.one (CoP.of_eq (by rw [List.take_length];rfl)),trivial⟩)
end Go.Hx
end

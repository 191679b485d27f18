/- A part of the proof: LyTz TzW Cs7 Cs8 V6 Cs9 V7. -/
import Derived.Shelf.Lays7
import Derived.Shelf.Spec.TrailingZeros
import Derived.Test.YtodligmokcbbkaaDoorProg
import Derived.Test.YtodligmokcbbkaaDoorPx16
import Derived.Test.YtodligmokcbbkaaDoorPx17
set_option linter.all false
section
namespace Go.Proofs
open Go.Shelf
def Tryd.lays28_ren:Go.Shelf.Ren:=⟨fun | 28=>69 | n=>n,fun | 27=>39 | 3=>3 | 4=>4 | 25=>113 | 53=>131 | 0=>0 | 5=>5 | n=>n,fun | 0=>0 | n=>n⟩
theorem Tryd.lays28:Go.Proofs.Lays7.n28 Tryd.prog Tryd.lays28_ren:={
 mixed:=by kernel_rfl
 f28:=Tryd.func69.trans (congrArg some (by kernel_rfl))
 t0:=Tryd.underlying0
 a0:=Tryd.isAgg0
 z0:=Tryd.sizeOf0
 v0:=Tryd.zeroValue0
 i0:=by kernel_rfl
 t3:=Tryd.underlying3
 a3:=Tryd.isAgg3
 z3:=Tryd.sizeOf3
 v3:=Tryd.zeroValue3
 i3:=by kernel_rfl
 t4:=Tryd.underlying4
 a4:=Tryd.isAgg4
 z4:=Tryd.sizeOf4
 v4:=Tryd.zeroValue4
 i4:=by kernel_rfl
 t5:=Tryd.underlying5
 a5:=Tryd.isAgg5
 z5:=Tryd.sizeOf5
 v5:=Tryd.zeroValue5
 i5:=by kernel_rfl
 t25:=Tryd.underlying113
 a25:=Tryd.isAgg113
 z25:=Tryd.sizeOf113
 v25:=Tryd.zeroValue113
 i25:=by kernel_rfl
 t27:=Tryd.underlying39
 a27:=Tryd.isAgg39
 z27:=Tryd.sizeOf39
 v27:=Tryd.zeroValue39
 i27:=by kernel_rfl
 t53:=Tryd.underlying131
 a53:=Tryd.isAgg131
 z53:=Tryd.sizeOf131
 v53:=Tryd.zeroValue131
 i53:=by kernel_rfl
 g0:=by kernel_rfl }
end Go.Proofs
end
section
namespace Go.Hx
open Go.Proofs Go.RowKit
set_option maxRecDepth 100000
theorem an0:am Tryd.prog 69:=⟨Tryd.f69,Tryd.func69,by kernel_rfl,by kernel_rfl⟩
theorem aqg:∀ j,j < Lib.deBruijn32tab.length → p8 0 j = some (.int .u8 (Lib.deBruijn32tab.getD j 0)):=fun j hj=>by
 unfold p8
 rw [show n4 0 = Lib.deBruijn32tab.map (fun k:Nat=>Value.int .u8 (k:Int)) from rfl,List.getElem?_map,List.getElem?_eq_getElem hj,List.getD_eq_getElem?_getD,List.getElem?_eq_getElem hj]
 rfl
theorem cTz (s:AS):ao Tryd.prog 69 [pA s] (ay [pI (jw s)]):=by
 intro w imm us htab him hus
 match us,hus with
 | [u],⟨hu,_⟩ =>
  obtain ⟨rfl,_⟩:=hu
  have h:=Any7.bits_TrailingZeros32 Tryd.lays28 s.toNat s.isLt w fun _ j hj=>by
   have hc:=htab 0 j _ (aqg j hj)
   unfold fg at hc
   cases hb:imm 0 with
   | none=>rw [hb] at hc;cases hc
   | some ob =>
    rw [hb] at hc
    have hw:=him 0 ob hb
    cases ob <;> simp at hc
    show w.cell? ⟨0,j,none⟩ = _
    simp [World.cell?,hw,hc]
  refine h.mono ?_
  rintro e w' ⟨rfl,rfl⟩
  exact ⟨_,imm,rfl,⟨rfl,rfl⟩,fun _ _=>rfl,him,Below.refl _ _⟩
 | [],h=>exact h.elim
 | _ :: _ :: _,⟨_,h⟩=>exact h.elim
end Go.Hx
end
section
namespace Go.Hx
section
variable {α:Type} [Inhabited α]
theorem a06 {wr wr':Bool} {s m:Nat} {e:TypeId} {c:α → Nat → PV} {l l':List α} {x:α} {g:Nat → Nat → PV} (h:l' = l ++ [x]) (hg:∀ j,j < s → CoP (g 0 j) (c x j)) (hm:m = 1:=by rfl) (hw:wr' = true → wr = true:=by exact fun h=>h) :
 CoO (.arr wr s e (l.length + m) (ey l.length (lf c l) g)) (.arr wr' s e l'.length (lf c l')):=by
 subst h
 refine ap1 [x] hw hm fun i j hi hj=>?_
 obtain rfl:i = 0:=by simp at hi;exact hi
 exact hg j hj
theorem c5 {wr wr':Bool} {s:Nat} {e:TypeId} {c:α → Nat → PV} {l l':List α} (h:l' = l) (hw:wr' = true → wr = true:=by exact fun h=>h):CoO (.arr wr s e l.length (lf c l)) (.arr wr' s e l'.length (lf c l')):=by
 subst h
 exact ⟨hw,rfl,rfl,rfl,fun _ _ _ _=>CoP.refl _⟩
end
section
variable {α:Type} [Inhabited α]
theorem ej {id:Nat} {l l':List α} {x:α} (h:l' = l ++ [x]):CoR (.v (.one (.ref id (l.length + 1)))) (.v (.one (.ref id l'.length))):=by subst h;rw [List.length_append];exact CoR.refl _
theorem cn {id:Nat} {l l':List α} (h:l' = l):CoR (.v (.one (.ref id l.length))) (.v (.one (.ref id l'.length))):=by subst h;exact CoR.refl _
theorem i7 {wr wr':Bool} {e:TypeId} {c:α → Nat → PV} {l l':List α} {x:α} {g:Nat → Nat → PV} (h:l' = l ++ [x]) (hg:CoP (g 0 0) (c x 0)) (hw:wr' = true → wr = true:=by exact fun h=>h) :
 CoO (.arr wr 1 e (l.length + 1) (ey l.length (lf c l) g)) (.arr wr' 1 e l'.length (lf c l')) :=
 a06 h (fun j hj=>by
  obtain rfl:j = 0:=by omega
  exact hg) rfl hw
theorem j1 {wr wr':Bool} {e:TypeId} {c:α → Nat → PV} {l l':List α} {x:α} {g:Nat → Nat → PV} (h:l' = l ++ [x]) (h0:CoP (g 0 0) (c x 0)) (h1:CoP (g 0 1) (c x 1)) (hw:wr' = true → wr = true:=by exact fun h=>h) :
 CoO (.arr wr 2 e (l.length + 1) (ey l.length (lf c l) g)) (.arr wr' 2 e l'.length (lf c l')) :=
 a06 h (fun j hj=>by
  rcases (by omega:j = 0 ∨ j = 1) with rfl | rfl
  · exact h0
  · exact h1) rfl hw
end
def aqv (s:AS) (i:Nat):List Nat:=(List.range i).filter fun k=>s.getLsbD k
end Go.Hx
end
section
namespace Go.Hx
def ks (b:Nat):Nat:=(List.range 8).countP fun i=>b.testBit i
theorem ll (p:Nat → Bool) (a b:Nat):(List.range (a + b)).countP p = (List.range a).countP p + (List.range b).countP fun i=>p (a + i):=by
 rw [List.range_add,List.countP_append,List.countP_map]
 rfl
theorem ai3 {n k j:Nat} (hj:j < 8):(n / 2 ^ k % 256).testBit j = n.testBit (k + j):=by
 rw [show (256:Nat) = 2 ^ 8 from rfl,Nat.testBit_mod_two_pow,Nat.testBit_div_two_pow,Nat.add_comm]
 simp [hj]
theorem alx (n:Nat) (hn:n < 2 ^ 32):(List.range (8 + (8 + (8 + 8)))).countP (fun i=>n.testBit i) = ks (n / 2 ^ 24) + ks (n / 2 ^ 16 % 256) + ks (n / 2 ^ 8 % 256) + ks (n % 256):=by
 have h:∀ k,(List.range 8).countP (fun i=>n.testBit (k + i)) = ks (n / 2 ^ k % 256):=fun k=>by
  unfold ks
  apply List.countP_congr
  intro j hj
  rw [ai3 (List.mem_range.1 hj)]
 have h3:n / 2 ^ 24 % 256 = n / 2 ^ 24:=Nat.mod_eq_of_lt (by omega)
 have h0:=h 0
 simp only [Nat.zero_add,Nat.pow_zero,Nat.div_one] at h0
 rw [ll,ll,ll,h0]
 have e2:=h 8
 have e3:=h 16
 have e4:=h 24
 rw [h3] at e4
 simp only [← Nat.add_assoc] at *
 simp only [Nat.reduceAdd] at *
 rw [e2,e3,e4]
 omega
theorem aeb (s:AS):bsz s = ks (s.toNat / 2 ^ 24) + ks (s.toNat / 2 ^ 16 % 256) + ks (s.toNat / 2 ^ 8 % 256) + ks (s.toNat % 256):=alx s.toNat s.isLt
theorem zn (b:Nat):ks b ≤ 8:=by
 have:=List.countP_le_length (p:=fun i=>b.testBit i) (l:=List.range 8)
 rwa [List.length_range] at this
theorem ajl (s:AS) (k:Nat) (hk:k ≤ 32):((asI s).fdiv (2 ^ (min k 32))).toNat = s.toNat / 2 ^ k:=by
 rw [v8]
 show (((s >>> k).toNat:Nat):Int).toNat = _
 rw [Int.toNat_natCast,BitVec.toNat_ushiftRight,Nat.shiftRight_eq_div_pow]
theorem ac6 (s:AS) (k:Nat) (hk:k ≤ 32):(ct .and .u32 ((asI s).fdiv (2 ^ (min k 32))) 255).toNat = s.toNat / 2 ^ k % 256:=by
 rw [v8,show (255:Int) = asI 255 from rfl,iz]
 show (((s >>> k &&& 255).toNat:Nat):Int).toNat = _
 rw [Int.toNat_natCast,BitVec.toNat_and,BitVec.toNat_ushiftRight,Nat.shiftRight_eq_div_pow,show (255:AS).toNat = 2 ^ 8 - 1 from rfl,Nat.and_two_pow_sub_one_eq_mod]
theorem ajy (s:AS):(ct .and .u32 (asI s) 255).toNat = s.toNat % 256:=by
 rw [show (255:Int) = asI 255 from rfl,iz]
 show (((s &&& 255).toNat:Nat):Int).toNat = _
 rw [Int.toNat_natCast,BitVec.toNat_and,show (255:AS).toNat = 2 ^ 8 - 1 from rfl,Nat.and_two_pow_sub_one_eq_mod]
theorem agf (a b:Int):0 ≤ ct .and .u32 a b:=by
 show 0 ≤ IntKind.wrap .u32 _
 rw [a8u (Int.natCast_nonneg _) (by have:=(BitVec.ofInt 32 a &&& BitVec.ofInt 32 b).isLt;show ((BitVec.ofInt 32 a &&& BitVec.ofInt 32 b).toNat:Int) < _;omega)]
 exact Int.natCast_nonneg _
theorem al5 (s:AS) (k:Nat):0 ≤ (asI s).fdiv (2 ^ (min k 32)):=by rw [v8];exact a3h _
theorem as5 {X:ByteArray} (s:AS) (hX:(256:Int) ≤ X.size):0 ≤ (asI s).fdiv (2 ^ (min 24 32)) ∧ (asI s).fdiv (2 ^ (min 24 32)) < X.size:=by
 have h1:=al5 s 24
 have h2:=ajl s 24 (by omega)
 have:=s.isLt
 exact ⟨h1,by omega⟩
theorem ixM {X:ByteArray} (s:AS) (k:Nat) (hk:k ≤ 32) (hX:(256:Int) ≤ X.size):0 ≤ ct .and .u32 ((asI s).fdiv (2 ^ (min k 32))) 255 ∧ ct .and .u32 ((asI s).fdiv (2 ^ (min k 32))) 255 < X.size:=by
 have h1:=agf ((asI s).fdiv (2 ^ (min k 32))) 255
 have h2:=ac6 s k hk
 exact ⟨h1,by omega⟩
theorem ixL {X:ByteArray} (s:AS) (hX:(256:Int) ≤ X.size):0 ≤ ct .and .u32 (asI s) 255 ∧ ct .and .u32 (asI s) 255 < X.size:=by
 have h1:=agf (asI s) 255
 have h2:=ajy s
 exact ⟨h1,by omega⟩
theorem a4u {n:Int} (h0:0 ≤ n) (h1:n < 256):IntKind.wrap .u8 n = n:=n3 (by simp only [inR,o6,tf];omega)
theorem adw {n:Int} (h0:0 ≤ n) (h1:n < 256):IntKind.wrap .i64 n = n:=n3 (by simp only [inR,o6,tf];omega)
theorem am1 {X:ByteArray} {s:AS} {i0 i1 i2 i3:Nat} (hX:∀ b,b < 256 → c8 X b = (ks b:Int)) (h0:i0 = s.toNat / 2 ^ 24) (h1:i1 = s.toNat / 2 ^ 16 % 256) (h2:i2 = s.toNat / 2 ^ 8 % 256) (h3:i3 = s.toNat % 256) :
 IntKind.wrap .i64 (IntKind.wrap .u8 (IntKind.wrap .u8 (IntKind.wrap .u8 (c8 X i0 + c8 X i1) + c8 X i2) + c8 X i3)) = (bsz s:Int):=by
 have:=s.isLt
 subst h0 h1 h2 h3
 rw [hX _ (by omega),hX _ (by omega),hX _ (by omega),hX _ (by omega)]
 have a0:=zn (s.toNat / 2 ^ 24)
 have a1:=zn (s.toNat / 2 ^ 16 % 256)
 have a2:=zn (s.toNat / 2 ^ 8 % 256)
 have a3:=zn (s.toNat % 256)
 rw [aeb]
 generalize ks (s.toNat / 2 ^ 24) = c0 at *
 generalize ks (s.toNat / 2 ^ 16 % 256) = c1 at *
 generalize ks (s.toNat / 2 ^ 8 % 256) = c2 at *
 generalize ks (s.toNat % 256) = c3 at *
 rw [a4u (n:=c0 + c1) (by omega) (by omega),a4u (n:=c0 + c1 + c2) (by omega) (by omega),a4u (n:=c0 + c1 + c2 + c3) (by omega) (by omega),adw (n:=c0 + c1 + c2 + c3) (by omega) (by omega)]
 omega
theorem ae8 (s:AS):bsz s ≤ 32:=by
 have:=List.countP_le_length (p:=fun i=>s.getLsbD i) (l:=List.range 32)
 rwa [List.length_range] at this
theorem af8 {s0:AS} (x:List Nat × AS) (h:x.1 ++ bq x.2 = bq s0):x.1.length ≤ 32:=by
 have h1:=congrArg List.length h
 rw [List.length_append,← s5 s0] at h1
 have:=ae8 s0
 omega
theorem a7c {s:AS} (h:s ≠ 0):asI s - 1 = asI (s - 1):=by
 have h0:s.toNat ≠ 0:=fun e=>h (BitVec.eq_of_toNat_eq e)
 have:=s.isLt
 have e1:(s - 1).toNat = s.toNat - 1:=by
  rw [BitVec.toNat_sub]
  show (2 ^ 32 - 1 + s.toNat) % 2 ^ 32 = _
  omega
 unfold asI
 rw [e1]
 omega
theorem a9e {s:AS} (h:s ≠ 0):(fw true .u32 (asI s - 1)).1:=by
 rw [a7c h]
 have h1:=a3h (s - 1)
 have h2:=a98 (s - 1)
 simp only [fw,inR,o6,tf]
 omega
theorem agp {s:AS} (h:s ≠ 0):ct .and .u32 (asI s) (asI s - 1) = asI (s &&& (s - 1)):=by rw [a7c h,iz]
def jk (a b:Int):Int:=if a < b then -1 else if b < a then 1 else 0
def w3 (a b:AS):Int:=if jk (bsz a) (bsz b) = 0 then jk (asI a) (asI b) else jk (bsz a) (bsz b)
end Go.Hx
end
section
namespace Go.Hx
open Go.Proofs
set_option maxRecDepth 100000
theorem am9:am Tryd.prog 56:=⟨Tryd.f56,Tryd.func56,by kernel_rfl,by kernel_rfl⟩
theorem asq (s0:AS):ao Tryd.prog 56 [pA s0] (ay [pP (il (bq s0))]):=by
 refine ak (nt:=16) ai Tryd.func56 rfl rfl l9 ?_;refine sx7 ?_;refine qy ?_;refine a6 ?_;refine sx7 ?_;refine qy ?_;refine a6 ?_;refine a7 ?_;refine ah ?_
 refine gf 3 900 true 1 3 (lf iC []) (by decide) rfl (CoP.sl rfl (.inr rfl) (fun h=>h) (fun i j hi _=>absurd hi (Nat.not_lt_zero i))) (.inr rfl) rfl ?_
 refine b4 (ι:=List Nat × AS) ⟨[],[]⟩ ⟨trivial,trivial⟩ (fun x=>⟨[(3,some (.v (.one (.ref 900 x.1.length)))),(0,some (vA x.2))],[(900,some (.arr true 1 3 x.1.length (lf iC x.1)))]⟩) (fun x=>x.1 ++ bq x.2 = bq s0) (fun x=>x.2.toNat) (([],s0)) (rfl) ⟨⟨zy,zy,trivial⟩,⟨u9,trivial⟩⟩ ?_
 rintro x hx
 have hlen:=af8 x hx
 refine a7 ?_;refine sx7 ?_;(iterate 2 refine qy ?_);refine a6 ?_;refine a8 _ rfl (fun r0=>?_) (fun r0=>?_)
 ·
  have h0:=r0
  have h0:=of_decide_eq_false (bn h0)
  try simp only [ty] at h0
  have hne:x.2 ≠ 0:=fun e=>h0 (by rw [e];rfl)
  refine aa ?_;refine a7 ?_;refine ah ?_;refine gy ?_;(iterate 2 refine qy ?_);refine rc rfl rfl rfl rfl rfl rfl an0 (cTz x.2) (CoL.refl _) rfl rfl ?_;refine m9 0 ?_
  refine ra 1 true rfl rfl rfl rfl rfl rfl ?_;refine qy ?_;refine a6 ?_;refine gy ?_;(iterate 2 refine qy ?_);refine rq rfl rfl rfl rfl rfl ?_ (hp:=(a9e hne));(iterate 2 refine qy ?_);refine a6 ?_
  refine ⟨(x.1 ++ [jw x.2],x.2 &&& (x.2 - 1)), ?_, ?_, ?_⟩
  · show (x.1 ++ [jw x.2]) ++ bq (x.2 &&& (x.2 - 1)) = bq s0
    rw [← hx,aeo hne,List.append_assoc];rfl
  · exact ah9 hne
  · exact ⟨⟨⟨_,rfl,(ej rfl)⟩,⟨_,rfl,(l7 (agp hne))⟩,trivial⟩,⟨⟨_,rfl,(i7 rfl (CoP.refl _))⟩,trivial⟩⟩
 ·
  have h0:=r0
  have h0:=of_decide_eq_true (bm h0)
  try simp only [ty] at h0
  have hz:x.2 = 0:=fb.1 h0
  refine az ?_;refine sx7 ?_;(iterate 2 refine qy ?_);refine a6 ?_;refine dl 2 rfl rfl rfl ?_
  exact hx8 rfl rfl rfl (⟨CoC.one (CoP.of_eq (by rw [hz,abt,List.append_nil] at hx;rw [← hx];rfl)),trivial⟩)
theorem aop:am Tryd.prog 50:=⟨Tryd.f50,Tryd.func50,by kernel_rfl,by kernel_rfl⟩
theorem aqf (s:AS):ao Tryd.prog 50 [pA s] (ay [pI (bsz s)]):=by
 refine ak (nt:=21) ai Tryd.func50 rfl rfl l9 ?_;refine sx7 ?_;refine qy ?_;refine a6 ?_;refine a7 ?_
 refine cw (E:=d6) ai bw [0,1,2,3,4,5,6,7,8,9,10,11,12,13,14,15,16,17,18] ?_;(iterate 2 refine qy ?_);refine rq rfl rfl rfl rfl rfl ?_ (hp:=(as5 s (by decide +kernel)))
 (iterate 3 refine qy ?_);refine rq rfl rfl rfl rfl rfl ?_ (hp:=(ixM s 16 (by omega) (by decide +kernel)));refine rqw rfl rfl rfl rfl rfl ?_;(iterate 3 refine qy ?_)
 refine rq rfl rfl rfl rfl rfl ?_ (hp:=(ixM s 8 (by omega) (by decide +kernel)));refine rqw rfl rfl rfl rfl rfl ?_;(iterate 2 refine qy ?_);refine rq rfl rfl rfl rfl rfl ?_ (hp:=(ixL s (by decide +kernel)))
 (iterate 2 refine rqw rfl rfl rfl rfl rfl ?_);refine qy ?_;refine a6 ?_;refine ⟨by kernel_rfl, ?_⟩
 exact hx8 rfl rfl rfl (⟨cci (am1 (by decide +kernel) (ajl s 24 (by omega)) (ac6 s 16 (by omega)) (ac6 s 8 (by omega)) (ajy s)),trivial⟩)
theorem a3i:am Tryd.prog 35:=⟨Tryd.f35,Tryd.func35,by kernel_rfl,by kernel_rfl⟩
theorem a6v (s:AS):ao Tryd.prog 35 [pA s] (ay [pI (bsz s)]):=by
 refine ak (nt:=5) ai Tryd.func35 rfl rfl l9 ?_;refine sx7 ?_;refine qy ?_;refine a6 ?_;refine sx7 ?_;refine qy ?_;refine rc rfl rfl rfl rfl rfl rfl aop (aqf s) (CoL.refl _) rfl rfl ?_;refine qy ?_
 refine a6 ?_
 exact hx8 rfl rfl rfl (CoL.refl _)
end Go.Hx
end
section
namespace Go.Hx
def auh (l:List AS) (k:Nat) (r:AS):List AS:=l.take k ++ r :: l.drop k
theorem a87 (x:AS):∀ l:List AS,(jh x l).length ≤ l.length + 1
 | []=>by simp [jh]
 | y :: l=>by
  unfold jh
  have:=a87 x l
  split
  · simp
  · split
    · simp
    · simp only [List.length_cons];omega
theorem zj (l:List AS):(ord l).length ≤ l.length:=by
 have:∀ (l o:List AS),(l.foldl (fun o x=>jh x o) o).length ≤ o.length + l.length:=by
  intro l
  induction l with
  | nil=>intro o;simp
  | cons x l ih =>
   intro o
   have h1:=ih (jh x o)
   have h2:=a87 x o
   simp only [List.foldl_cons,List.length_cons]
   omega
 have h:=this l []
 simpa [ord] using h
def jC:Int → Nat → PV:=fun n _=>.raw (.int .i64 n)
def orF (l:List Int):Int:=(l.find? fun x=>decide (x ≠ 0)).getD 0
theorem ar2 {l:List Int} {i:Nat} (hi:i < l.length) (hI:∀ j,j < i → decide (l.getD j default = 0) = true) (h:¬ l.getD i default = 0):orF l = l.getD i default:=by
 unfold orF
 have:l.find? (fun x=>decide (x ≠ 0)) = some (l.getD i default):=by
  rw [List.find?_eq_some_iff_getElem]
  refine ⟨decide_eq_true h,i,hi,by simp [List.getD,hi],fun j hj=>?_⟩
  have:=of_decide_eq_true (hI j hj)
  rw [List.getD_eq_getElem?_getD,List.getElem?_eq_getElem (by omega),Option.getD_some] at this
  simp [this]
 rw [this];rfl
theorem aq9 {l:List Int} (hI:∀ j,j < l.length → decide (l.getD j default = 0) = true):orF l = 0:=by
 unfold orF
 have:l.find? (fun x=>decide (x ≠ 0)) = none:=by
  rw [List.find?_eq_none]
  intro x hx
  obtain ⟨j,hj,rfl⟩:=List.getElem_of_mem hx
  have:=of_decide_eq_true (hI j hj)
  rw [List.getD_eq_getElem?_getD,List.getElem?_eq_getElem hj,Option.getD_some] at this
  simp [this]
 rw [this];rfl
theorem akq (a b:AS):orF [jk (bsz a) (bsz b),jk (asI a) (asI b)] = w3 a b:=by
 unfold orF w3
 by_cases h:jk (bsz a) (bsz b) = 0
 · by_cases h2:jk (asI a) (asI b) = 0 <;> simp [h,h2]
 · simp [h]
theorem alj {α:Type} [Inhabited α] {cl:Bool} {c:α → Nat → PV} {x y:α} {f:Nat → Nat → PV} (h0:CoP (f 0 0) (c x 0)) (h1:CoP (f 1 0) (c y 0)):CoP (.sl 2 1 cl f) (psl 1 c [x,y]) :=
 CoP.sl rfl (.inl rfl) (fun h=>by cases h) fun i j hi hj=>by
  obtain rfl:j = 0:=by omega
  rcases (by omega:i = 0 ∨ i = 1) with rfl | rfl
  · exact h0
  · exact h1
theorem ald {α:Type} [Inhabited α] {wr wr':Bool} {s n m:Nat} {e:TypeId} {c:α → Nat → PV} {l l':List α} (h:l' = l) (hn:n = m) (hw:wr' = true → wr = true:=by exact fun h=>h):CoO (.arr wr s e n (lf c l)) (.arr wr' s e m (lf c l')):=by
 subst h hn
 exact ⟨hw,rfl,rfl,rfl,fun _ _ _ _=>CoP.refl _⟩
theorem aiu {a b:AS}:decide (w3 a b < 0) = bef a b:=by
 rw [Bool.eq_iff_iff,decide_eq_true_iff,lq]
 unfold w3 jk asI
 split <;> (repeat' split) <;> omega
end Go.Hx
end
section
namespace Go.Hx
open Go.Proofs
set_option maxRecDepth 100000
theorem ag6:am Tryd.prog 82:=⟨Tryd.f82,Tryd.func82,by kernel_rfl,by kernel_rfl⟩
theorem ajn (a:Int):ao Tryd.prog 82 [pI a] (ay [pB false]):=by
 refine ak (nt:=6) ai Tryd.func82 rfl rfl l9 ?_;refine sx7 ?_;refine qy ?_;refine a6 ?_;refine sx7 ?_;(iterate 4 refine qy ?_);refine a6 ?_
 exact hx8 rfl rfl rfl (⟨ccb (by simp),trivial⟩)
theorem adx:am Tryd.prog 83:=⟨Tryd.f83,Tryd.func83,by kernel_rfl,by kernel_rfl⟩
theorem ajk (a:AS):ao Tryd.prog 83 [pA a] (ay [pB false]):=by
 refine ak (nt:=6) ai Tryd.func83 rfl rfl l9 ?_;refine sx7 ?_;refine qy ?_;refine a6 ?_;refine sx7 ?_;(iterate 4 refine qy ?_);refine a6 ?_
 exact hx8 rfl rfl rfl (⟨ccb (by simp),trivial⟩)
theorem amp:am Tryd.prog 67:=⟨Tryd.f67,Tryd.func67,by kernel_rfl,by kernel_rfl⟩
theorem apv (a b:Int):ao Tryd.prog 67 [pI a,pI b] (ay [pI (jk a b)]):=by
 refine ak (nt:=20) ai Tryd.func67 rfl rfl l9 ?_;refine sx7 ?_;refine qy ?_;refine a6 ?_;refine sx7 ?_;refine qy ?_;refine rc rfl rfl rfl rfl rfl rfl ag6 (ajn _) (CoL.refl _) rfl rfl ?_;refine qy ?_
 refine a6 ?_;refine sx7 ?_;refine qy ?_;refine rc rfl rfl rfl rfl rfl rfl ag6 (ajn _) (CoL.refl _) rfl rfl ?_;refine qy ?_;refine a6 ?_;refine a7 ?_;refine sx7 ?_;refine qy ?_;refine a6 ?_
 refine a8 _ rfl (fun e=>by cases e) (fun _=>?_);refine aa ?_;refine a7 ?_;refine sx7 ?_;refine qy ?_;refine a6 ?_;refine a8 _ rfl (fun e=>by cases e) (fun _=>?_);refine aa ?_
 refine a7 ?_;refine sx7 ?_;(iterate 3 refine qy ?_);refine a6 ?_;refine a8 _ rfl (fun r0=>?_) (fun r0=>?_)
 ·
  have h0:=of_decide_eq_true r0
  try simp only [ty] at h0
  refine sx7 ?_;refine qy ?_;refine a6 ?_
  exact hx8 rfl rfl rfl (⟨cci (by unfold jk;first | (rw [if_pos (by omega)]) | (rw [if_neg (by omega),if_pos (by omega)]) | (rw [if_neg (by omega),if_neg (by omega)])),trivial⟩)
 ·
  have h0:=of_decide_eq_false r0
  try simp only [ty] at h0
  refine aa ?_;refine a7 ?_;refine sx7 ?_;(iterate 3 refine qy ?_);refine a6 ?_;refine a8 _ rfl (fun r1=>?_) (fun r1=>?_)
  ·
   have h1:=of_decide_eq_true r1
   try simp only [ty] at h1
   refine sx7 ?_;refine qy ?_;refine a6 ?_
   exact hx8 rfl rfl rfl (⟨cci (by unfold jk;first | (rw [if_pos (by omega)]) | (rw [if_neg (by omega),if_pos (by omega)]) | (rw [if_neg (by omega),if_neg (by omega)])),trivial⟩)
  ·
   have h1:=of_decide_eq_false r1
   try simp only [ty] at h1
   refine aa ?_;refine sx7 ?_;refine qy ?_;refine a6 ?_
   exact hx8 rfl rfl rfl (⟨cci (by unfold jk;first | (rw [if_pos (by omega)]) | (rw [if_neg (by omega),if_pos (by omega)]) | (rw [if_neg (by omega),if_neg (by omega)])),trivial⟩)
theorem aol:am Tryd.prog 68:=⟨Tryd.f68,Tryd.func68,by kernel_rfl,by kernel_rfl⟩
theorem ar1 (a b:AS):ao Tryd.prog 68 [pA a,pA b] (ay [pI (jk (asI a) (asI b))]):=by
 refine ak (nt:=20) ai Tryd.func68 rfl rfl l9 ?_;refine sx7 ?_;refine qy ?_;refine a6 ?_;refine sx7 ?_;refine qy ?_;refine rc rfl rfl rfl rfl rfl rfl adx (ajk _) (CoL.refl _) rfl rfl ?_;refine qy ?_
 refine a6 ?_;refine sx7 ?_;refine qy ?_;refine rc rfl rfl rfl rfl rfl rfl adx (ajk _) (CoL.refl _) rfl rfl ?_;refine qy ?_;refine a6 ?_;refine a7 ?_;refine sx7 ?_;refine qy ?_;refine a6 ?_
 refine a8 _ rfl (fun e=>by cases e) (fun _=>?_);refine aa ?_;refine a7 ?_;refine sx7 ?_;refine qy ?_;refine a6 ?_;refine a8 _ rfl (fun e=>by cases e) (fun _=>?_);refine aa ?_
 refine a7 ?_;refine sx7 ?_;(iterate 3 refine qy ?_);refine a6 ?_;refine a8 _ rfl (fun r0=>?_) (fun r0=>?_)
 ·
  have h0:=of_decide_eq_true r0
  try simp only [ty] at h0
  refine sx7 ?_;refine qy ?_;refine a6 ?_
  exact hx8 rfl rfl rfl (⟨cci (by unfold jk;first | (rw [if_pos (by omega)]) | (rw [if_neg (by omega),if_pos (by omega)]) | (rw [if_neg (by omega),if_neg (by omega)])),trivial⟩)
 ·
  have h0:=of_decide_eq_false r0
  try simp only [ty] at h0
  refine aa ?_;refine a7 ?_;refine sx7 ?_;(iterate 3 refine qy ?_);refine a6 ?_;refine a8 _ rfl (fun r1=>?_) (fun r1=>?_)
  ·
   have h1:=of_decide_eq_true r1
   try simp only [ty] at h1
   refine sx7 ?_;refine qy ?_;refine a6 ?_
   exact hx8 rfl rfl rfl (⟨cci (by unfold jk;first | (rw [if_pos (by omega)]) | (rw [if_neg (by omega),if_pos (by omega)]) | (rw [if_neg (by omega),if_neg (by omega)])),trivial⟩)
  ·
   have h1:=of_decide_eq_false r1
   try simp only [ty] at h1
   refine aa ?_;refine sx7 ?_;refine qy ?_;refine a6 ?_
   exact hx8 rfl rfl rfl (⟨cci (by unfold jk;first | (rw [if_pos (by omega)]) | (rw [if_neg (by omega),if_pos (by omega)]) | (rw [if_neg (by omega),if_neg (by omega)])),trivial⟩)
theorem aox:am Tryd.prog 66:=⟨Tryd.f66,Tryd.func66,by kernel_rfl,by kernel_rfl⟩
theorem cOr (l:List Int):ao Tryd.prog 66 [pP (psl 1 jC l)] (ay [pI (orF l)]):=by
 refine ak (nt:=18) ai Tryd.func66 rfl rfl l9 ?_;refine a7 ?_
 refine l4 0 rfl fun hn=>?_
 refine gy ?_;refine qy ?_;refine a6 ?_;refine sx7 ?_;refine qy ?_;refine a6 ?_;refine dx (ι:=Unit) ⟨[(3,some _)],[]⟩ ⟨⟨c9,trivial⟩,trivial⟩ (fun _i=>⟨[],[]⟩) (fun _i=>orF l = 0) ?_ ?_
 ·
  refine sx7 ?_;(iterate 3 refine qy ?_);refine a6 ?_;refine ah ?_
  refine b4 (ι:=Nat) ⟨[(3,some _),(6,some _),(7,some _)],[]⟩ ⟨⟨c9,c9,c9,trivial⟩,trivial⟩ (fun i=>⟨[(8,some (vI i))],[]⟩) (fun i=>i ≤ l.length ∧ (∀ j,j < i → decide (l.getD j default = 0) = true)) (fun i=>l.length - i) (0) (⟨Nat.zero_le _,en⟩) ⟨⟨zy,trivial⟩,trivial⟩ ?_
  rintro i ⟨hi,hI⟩
  refine sx7 ?_;refine qy ?_;refine a6 ?_;refine a7 ?_;refine a8 _ rfl (fun r0=>?_) (fun r0=>?_)
  ·
   have h0:=of_decide_eq_true r0
   try simp only [ty] at h0
   refine aa ?_;refine a7 ?_;refine ah ?_;refine sx7 ?_;(iterate 3 refine qy ?_);refine a6 ?_;refine sx7 ?_;(iterate 3 refine qy ?_);refine a6 ?_;refine a8 _ rfl (fun r1=>?_) (fun r1=>?_)
   ·
    have h1:=r1
    have h1:=of_decide_eq_false (bn h1)
    try simp only [ty] at h1
    refine sx7 ?_;(iterate 2 refine qy ?_);refine a6 ?_
    exact hx8 rfl rfl rfl (⟨cci (ar2 (i:=i) (by omega) hI h1).symm,trivial⟩)
   ·
    have h1:=r1
    have h1:=of_decide_eq_true (bm h1)
    try simp only [ty] at h1
    refine aa ?_;refine gy ?_;(iterate 2 refine qy ?_);refine a6 ?_;refine ⟨i + 1, ?_, ?_, ?_⟩
    · exact ⟨by show i + 1 ≤ _;omega,d9 hI (decide_eq_true h1)⟩
    · first | omega | (dsimp only;omega)
    · exact ⟨⟨zy,c9,c9,c9,trivial⟩,trivial⟩
  ·
   have h0:=of_decide_eq_false r0
   try simp only [ty] at h0
   refine az ?_;refine ⟨(), ?_, ?_⟩
   · exact aq9 fun j hj=>hI j (by omega)
   · exact ⟨⟨c9,trivial⟩,trivial⟩
 · rintro _ hj
   refine sx7 ?_;(iterate 2 refine qy ?_);refine a6 ?_
   exact hx8 rfl rfl rfl (⟨cci hj.symm,trivial⟩)
theorem aib (a b:AS):ao Tryd.prog 53 [pA a,pA b] (ay [pI (w3 a b)]):=by
 refine ak (nt:=15) ai Tryd.func53 rfl rfl l9 ?_;refine sx7 ?_;refine qy ?_;refine a6 ?_;refine sx7 ?_;refine qy ?_;refine rc rfl rfl rfl rfl rfl rfl a3i (a6v _) (CoL.refl _) rfl rfl ?_;refine qy ?_
 refine rc rfl rfl rfl rfl rfl rfl a3i (a6v _) (CoL.refl _) rfl rfl ?_;refine rc rfl rfl rfl rfl rfl rfl amp (apv _ _) (CoL.refl _) rfl rfl ?_;(iterate 2 refine qy ?_)
 refine rc rfl rfl rfl rfl rfl rfl aol (ar1 _ _) (CoL.refl _) rfl rfl ?_;refine m9 0 ?_
 refine rc rfl rfl rfl rfl rfl rfl aox (cOr [jk (bsz a) (bsz b),jk (asI a) (asI b)]) (⟨CoC.one (alj (CoP.refl _) (CoP.refl _)),trivial⟩) rfl rfl ?_;refine qy ?_;refine a6 ?_
 exact hx8 rfl rfl rfl (⟨cci (akq a b),trivial⟩)
end Go.Hx
end

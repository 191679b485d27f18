/- A part of the proof: LyTz TzW Cs7 Cs8 V6 Cs9 V7. -/
import Derived.Shelf.Lays7
import Derived.Shelf.Spec.TrailingZeros
import Derived.Test.YtkkenjdfbojdlaaGreatDoorProg
import Derived.Test.YtkkenjdfbojdlaaGreatDoorEx17
set_option linter.all false
section
namespace Go.Proofs
open Go.Shelf
def Tryz.lays28_ren:Go.Shelf.Ren:=⟨fun | 28=>114 | n=>n,fun | 27=>43 | 3=>3 | 4=>4 | 25=>177 | 53=>176 | 0=>0 | 5=>5 | n=>n,fun | 0=>0 | n=>n⟩
theorem Tryz.lays28:Go.Proofs.Lays7.n28 Tryz.prog Tryz.lays28_ren:={
 mixed:=by kernel_rfl
 f28:=Tryz.func114.trans (congrArg some (by kernel_rfl))
 t0:=Tryz.underlying0
 a0:=Tryz.isAgg0
 z0:=Tryz.sizeOf0
 v0:=Tryz.zeroValue0
 i0:=by kernel_rfl
 t3:=Tryz.underlying3
 a3:=Tryz.isAgg3
 z3:=Tryz.sizeOf3
 v3:=Tryz.zeroValue3
 i3:=by kernel_rfl
 t4:=Tryz.underlying4
 a4:=Tryz.isAgg4
 z4:=Tryz.sizeOf4
 v4:=Tryz.zeroValue4
 i4:=by kernel_rfl
 t5:=Tryz.underlying5
 a5:=Tryz.isAgg5
 z5:=Tryz.sizeOf5
 v5:=Tryz.zeroValue5
 i5:=by kernel_rfl
 t25:=Tryz.underlying177
 a25:=Tryz.isAgg177
 z25:=Tryz.sizeOf177
 v25:=Tryz.zeroValue177
 i25:=by kernel_rfl
 t27:=Tryz.underlying43
 a27:=Tryz.isAgg43
 z27:=Tryz.sizeOf43
 v27:=Tryz.zeroValue43
 i27:=by kernel_rfl
 t53:=Tryz.underlying176
 a53:=Tryz.isAgg176
 z53:=Tryz.sizeOf176
 v53:=Tryz.zeroValue176
 i53:=by kernel_rfl
 g0:=by kernel_rfl }
end Go.Proofs
end
section
namespace Go.Hx
open Go.Proofs Go.RowKit
set_option maxRecDepth 100000
theorem b5b:goodFn Tryz.prog 114:=⟨Tryz.f114,Tryz.func114,by kernel_rfl,by kernel_rfl⟩
theorem ba7:∀ j,j < Lib.deBruijn32tab.length → ue 0 j = some (.int .u8 (Lib.deBruijn32tab.getD j 0)):=fun j hj=>by
 unfold ue
 rw [show qd 0 = Lib.deBruijn32tab.map (fun k:Nat=>Value.int .u8 (k:Int)) from rfl,List.getElem?_map,List.getElem?_eq_getElem hj,List.getD_eq_getElem?_getD,List.getElem?_eq_getElem hj]
 rfl
theorem cTz (s:AS):ae Tryz.prog 114 [pA s] (ai [pI (gh s)]):=by
 intro w imm us htab him hus
 match us,hus with
 | [u],⟨hu,_⟩ =>
  obtain ⟨rfl,_⟩:=hu
  have h:=Any7.bits_TrailingZeros32 Tryz.lays28 s.toNat s.isLt w fun _ j hj=>by
   have hc:=htab 0 j _ (ba7 j hj)
   unfold ij at hc
   cases hb:imm 0 with
   | none=>rw [hb] at hc;cases hc
   | some ob =>
    rw [hb] at hc
    have hw:=him 0 ob hb
    cases ob <;> simp at hc
    show w.cell? ⟨0,j,none⟩ = _
    simp [World.cell?,hw,hc]
  refine h.mono ?_
  rintro e w' ⟨rfl,rfl⟩
  exact ⟨_,imm,rfl,⟨rfl,rfl⟩,fun _ _=>rfl,him,Below.refl _ _⟩
 | [],h=>exact h.elim
 | _ :: _ :: _,⟨_,h⟩=>exact h.elim
end Go.Hx
end
section
namespace Go.Hx
section
variable {α:Type} [Inhabited α]
theorem a9g {wr wr':Bool} {s m:Nat} {e:TypeId} {c:α → Nat → PV} {l l':List α} {x:α} {g:Nat → Nat → PV} (h:l' = l ++ [x]) (hg:∀ j,j < s → CoP (g 0 j) (c x j)) (hm:m = 1:=by rfl) (hw:wr' = true → wr = true:=by exact fun h=>h) :
 CoO (.arr wr s e (l.length + m) (i9 l.length (lf c l) g)) (.arr wr' s e l'.length (lf c l')):=by
 subst h
 refine ap8 [x] hw hm fun i j hi hj=>?_
 obtain rfl:i = 0:=by simp at hi;exact hi
 exact hg j hj
theorem d4 {wr wr':Bool} {s:Nat} {e:TypeId} {c:α → Nat → PV} {l l':List α} (h:l' = l) (hw:wr' = true → wr = true:=by exact fun h=>h):CoO (.arr wr s e l.length (lf c l)) (.arr wr' s e l'.length (lf c l')):=by
 subst h
 exact ⟨hw,rfl,rfl,rfl,fun _ _ _ _=>CoP.refl _⟩
end
section
variable {α:Type} [Inhabited α]
theorem d8 {id:Nat} {l l':List α} {x:α} (h:l' = l ++ [x]):CoR (.v (.one (.ref id (l.length + 1)))) (.v (.one (.ref id l'.length))):=by subst h;rw [List.length_append];exact CoR.refl _
theorem cz {id:Nat} {l l':List α} (h:l' = l):CoR (.v (.one (.ref id l.length))) (.v (.one (.ref id l'.length))):=by subst h;exact CoR.refl _
theorem dt {wr wr':Bool} {e:TypeId} {c:α → Nat → PV} {l l':List α} {x:α} {g:Nat → Nat → PV} (h:l' = l ++ [x]) (hg:CoP (g 0 0) (c x 0)) (hw:wr' = true → wr = true:=by exact fun h=>h) :
 CoO (.arr wr 1 e (l.length + 1) (i9 l.length (lf c l) g)) (.arr wr' 1 e l'.length (lf c l')) :=
 a9g h (fun j hj=>by
  obtain rfl:j = 0:=by omega
  exact hg) rfl hw
theorem kf {wr wr':Bool} {e:TypeId} {c:α → Nat → PV} {l l':List α} {x:α} {g:Nat → Nat → PV} (h:l' = l ++ [x]) (h0:CoP (g 0 0) (c x 0)) (h1:CoP (g 0 1) (c x 1)) (hw:wr' = true → wr = true:=by exact fun h=>h) :
 CoO (.arr wr 2 e (l.length + 1) (i9 l.length (lf c l) g)) (.arr wr' 2 e l'.length (lf c l')) :=
 a9g h (fun j hj=>by
  rcases (by omega:j = 0 ∨ j = 1) with rfl | rfl
  · exact h0
  exact h1) rfl hw
end
def bae (s:AS) (i:Nat):List Nat:=(List.range i).filter fun k=>s.getLsbD k
end Go.Hx
end
section
namespace Go.Hx
def mw (b:Nat):Nat:=(List.range 8).countP fun i=>b.testBit i
theorem ny (p:Nat → Bool) (a b:Nat):(List.range (a + b)).countP p = (List.range a).countP p + (List.range b).countP fun i=>p (a + i):=by
 rw [List.range_add,List.countP_append,List.countP_map]
 rfl
theorem aug {n k j:Nat} (hj:j < 8):(n / 2 ^ k % 256).testBit j = n.testBit (k + j):=by
 rw [show (256:Nat) = 2 ^ 8 from rfl,Nat.testBit_mod_two_pow,Nat.testBit_div_two_pow,Nat.add_comm]
 simp [hj]
theorem b72 (n:Nat) (hn:n < 2 ^ 32):(List.range (8 + (8 + (8 + 8)))).countP (fun i=>n.testBit i) = mw (n / 2 ^ 24) + mw (n / 2 ^ 16 % 256) + mw (n / 2 ^ 8 % 256) + mw (n % 256):=by
 have h:∀ k,(List.range 8).countP (fun i=>n.testBit (k + i)) = mw (n / 2 ^ k % 256):=fun k=>by
  unfold mw
  apply List.countP_congr
  intro j hj
  rw [aug (List.mem_range.1 hj)]
 have h3:n / 2 ^ 24 % 256 = n / 2 ^ 24:=Nat.mod_eq_of_lt (by omega)
 have h0:=h 0
 simp only [Nat.zero_add,Nat.pow_zero,Nat.div_one] at h0
 rw [ny,ny,ny,h0]
 have e2:=h 8
 have e3:=h 16
 have e4:=h 24
 rw [h3] at e4
 simp only [← Nat.add_assoc] at *
 simp only [Nat.reduceAdd] at *
 rw [e2,e3,e4]
 omega
theorem as8 (s:AS):bsz s = mw (s.toNat / 2 ^ 24) + mw (s.toNat / 2 ^ 16 % 256) + mw (s.toNat / 2 ^ 8 % 256) + mw (s.toNat % 256):=b72 s.toNat s.isLt
theorem a30 (b:Nat):mw b ≤ 8:=by
 have:=List.countP_le_length (p:=fun i=>b.testBit i) (l:=List.range 8)
 rwa [List.length_range] at this
theorem azy (s:AS) (k:Nat) (hk:k ≤ 32):((asI s).fdiv (2 ^ (min k 32))).toNat = s.toNat / 2 ^ k:=by
 rw [sy]
 show (((s >>> k).toNat:Nat):Int).toNat = _
 rw [Int.toNat_natCast,BitVec.toNat_ushiftRight,Nat.shiftRight_eq_div_pow]
theorem akr (s:AS) (k:Nat) (hk:k ≤ 32):(bj .and .u32 ((asI s).fdiv (2 ^ (min k 32))) 255).toNat = s.toNat / 2 ^ k % 256:=by
 rw [sy,show (255:Int) = asI 255 from rfl,i6]
 show (((s >>> k &&& 255).toNat:Nat):Int).toNat = _
 rw [Int.toNat_natCast,BitVec.toNat_and,BitVec.toNat_ushiftRight,Nat.shiftRight_eq_div_pow,show (255:AS).toNat = 2 ^ 8 - 1 from rfl,Nat.and_two_pow_sub_one_eq_mod]
theorem azk (s:AS):(bj .and .u32 (asI s) 255).toNat = s.toNat % 256:=by
 rw [show (255:Int) = asI 255 from rfl,i6]
 show (((s &&& 255).toNat:Nat):Int).toNat = _
 rw [Int.toNat_natCast,BitVec.toNat_and,show (255:AS).toNat = 2 ^ 8 - 1 from rfl,Nat.and_two_pow_sub_one_eq_mod]
theorem amf (a b:Int):0 ≤ bj .and .u32 a b:=by
 show 0 ≤ IntKind.wrap .u32 _
 rw [aek (Int.natCast_nonneg _) (by have:=(BitVec.ofInt 32 a &&& BitVec.ofInt 32 b).isLt;show ((BitVec.ofInt 32 a &&& BitVec.ofInt 32 b).toNat:Int) < _;omega)]
 exact Int.natCast_nonneg _
theorem b0m (s:AS) (k:Nat):0 ≤ (asI s).fdiv (2 ^ (min k 32)):=by rw [sy];exact a16 _
theorem bcq {X:ByteArray} (s:AS) (hX:(256:Int) ≤ X.size):0 ≤ (asI s).fdiv (2 ^ (min 24 32)) ∧ (asI s).fdiv (2 ^ (min 24 32)) < X.size:=by
 have h1:=b0m s 24
 have h2:=azy s 24 (by omega)
 have:=s.isLt
 exact ⟨h1,by omega⟩
theorem ixM {X:ByteArray} (s:AS) (k:Nat) (hk:k ≤ 32) (hX:(256:Int) ≤ X.size):0 ≤ bj .and .u32 ((asI s).fdiv (2 ^ (min k 32))) 255 ∧ bj .and .u32 ((asI s).fdiv (2 ^ (min k 32))) 255 < X.size:=by
 have h1:=amf ((asI s).fdiv (2 ^ (min k 32))) 255
 have h2:=akr s k hk
 exact ⟨h1,by omega⟩
theorem ixL {X:ByteArray} (s:AS) (hX:(256:Int) ≤ X.size):0 ≤ bj .and .u32 (asI s) 255 ∧ bj .and .u32 (asI s) 255 < X.size:=by
 have h1:=amf (asI s) 255
 have h2:=azk s
 exact ⟨h1,by omega⟩
theorem a8l {n:Int} (h0:0 ≤ n) (h1:n < 256):IntKind.wrap .u8 n = n:=qo (by simp only [inR,qf,ve];omega)
theorem aoo {n:Int} (h0:0 ≤ n) (h1:n < 256):IntKind.wrap .i64 n = n:=qo (by simp only [inR,qf,ve];omega)
theorem b8j {X:ByteArray} {s:AS} {i0 i1 i2 i3:Nat} (hX:∀ b,b < 256 → j9 X b = (mw b:Int)) (h0:i0 = s.toNat / 2 ^ 24) (h1:i1 = s.toNat / 2 ^ 16 % 256) (h2:i2 = s.toNat / 2 ^ 8 % 256) (h3:i3 = s.toNat % 256) :
 IntKind.wrap .i64 (IntKind.wrap .u8 (IntKind.wrap .u8 (IntKind.wrap .u8 (j9 X i0 + j9 X i1) + j9 X i2) + j9 X i3)) = (bsz s:Int):=by
 have:=s.isLt
 subst h0 h1 h2 h3
 rw [hX _ (by omega),hX _ (by omega),hX _ (by omega),hX _ (by omega)]
 have a0:=a30 (s.toNat / 2 ^ 24)
 have a1:=a30 (s.toNat / 2 ^ 16 % 256)
 have a2:=a30 (s.toNat / 2 ^ 8 % 256)
 have a3:=a30 (s.toNat % 256)
 rw [as8]
 generalize mw (s.toNat / 2 ^ 24) = c0 at *
 generalize mw (s.toNat / 2 ^ 16 % 256) = c1 at *
 generalize mw (s.toNat / 2 ^ 8 % 256) = c2 at *
 generalize mw (s.toNat % 256) = c3 at *
 rw [a8l (n:=c0 + c1) (by omega) (by omega),a8l (n:=c0 + c1 + c2) (by omega) (by omega),a8l (n:=c0 + c1 + c2 + c3) (by omega) (by omega),aoo (n:=c0 + c1 + c2 + c3) (by omega) (by omega)]
 omega
theorem ao3 (s:AS):bsz s ≤ 32:=by
 have:=List.countP_le_length (p:=fun i=>s.getLsbD i) (l:=List.range 32)
 rwa [List.length_range] at this
theorem as6 {s0:AS} (x:List Nat × AS) (h:x.1 ++ al x.2 = al s0):x.1.length ≤ 32:=by
 have h1:=congrArg List.length h
 rw [List.length_append,← w6 s0] at h1
 have:=ao3 s0
 omega
theorem ad6 {s:AS} (h:s ≠ 0):asI s - 1 = asI (s - 1):=by
 have h0:s.toNat ≠ 0:=fun e=>h (BitVec.eq_of_toNat_eq e)
 have:=s.isLt
 have e1:(s - 1).toNat = s.toNat - 1:=by
  rw [BitVec.toNat_sub]
  show (2 ^ 32 - 1 + s.toNat) % 2 ^ 32 = _
  omega
 unfold asI
 rw [e1]
 omega
theorem vf {s:AS} (h:s ≠ 0):(io true .u32 (asI s - 1)).1:=by
 rw [ad6 h]
 have h1:=a16 (s - 1)
 have h2:=a7d (s - 1)
 simp only [io,inR,qf,ve]
 omega
theorem adq {s:AS} (h:s ≠ 0):bj .and .u32 (asI s) (asI s - 1) = asI (s &&& (s - 1)):=by rw [ad6 h,i6]
def iw (a b:Int):Int:=if a < b then -1 else if b < a then 1 else 0
def zi (a b:AS):Int:=if iw (bsz a) (bsz b) = 0 then iw (asI a) (asI b) else iw (bsz a) (bsz b)
end Go.Hx
end
section
namespace Go.Hx
open Go.Proofs
set_option maxRecDepth 100000
theorem xk:goodFn Tryz.prog 55:=⟨Tryz.f55,Tryz.func55,by kernel_rfl,by kernel_rfl⟩
theorem a9y (s0:AS):ae Tryz.prog 55 [pA s0] (ai [pP (il (al s0))]):=by
 refine a8 (nt:=16) a7 Tryz.func55 rfl rfl l9 ?_;refine d7 ?_
 refine dy 3 900 true 1 3 (lf iC []) (by decide) rfl (CoP.sl rfl (.inr rfl) (fun h=>h) (fun i j hi _=>absurd hi (Nat.not_lt_zero i))) (.inr rfl) rfl ?_
 refine aj (ι:=List Nat × AS) ⟨[],[]⟩ ⟨trivial,trivial⟩ (fun x=>⟨[(3,some (.v (.one (.ref 900 x.1.length)))),(0,some (vA x.2))],[(900,some (.arr true 1 3 x.1.length (lf iC x.1)))]⟩) (fun x=>x.1 ++ al x.2 = al s0) (fun x=>x.2.toNat) (([],s0)) (rfl) ⟨⟨zy,zy,trivial⟩,⟨u9,trivial⟩⟩ ?_
 rintro x hx
 have hlen:=as6 x hx
 refine w_6 ?_;refine a6 _ rfl (fun r0=>?_) (fun r0=>?_)
 ·
  have h0:=r0
  have h0:=of_decide_eq_false (ap h0)
  try simp only [ty] at h0
  have hne:x.2 ≠ 0:=fun e=>h0 (by rw [e];rfl)
  refine w_6 ?_;refine rc rfl rfl rfl rfl rfl rfl b5b (cTz x.2) (CoL.refl _) rfl rfl ?_;refine m9 0 ?_;refine ra 1 true rfl rfl rfl rfl rfl rfl ?_;refine w_5 ?_;refine rq rfl rfl rfl rfl rfl ?_ (hp:=(vf hne))
  refine w_3 ?_;refine ⟨(x.1 ++ [gh x.2],x.2 &&& (x.2 - 1)), ?_, ?_, ?_⟩
  · show (x.1 ++ [gh x.2]) ++ al (x.2 &&& (x.2 - 1)) = al s0
    rw [← hx,aoe hne,List.append_assoc];rfl
  · exact aue hne
  exact ⟨⟨⟨_,rfl,(d8 rfl)⟩,⟨_,rfl,(dv (adq hne))⟩,trivial⟩,⟨⟨_,rfl,(dt rfl (CoP.refl _))⟩,trivial⟩⟩
 have h0:=r0
 have h0:=of_decide_eq_true (am h0)
 try simp only [ty] at h0
 have hz:x.2 = 0:=c6.1 h0
 refine w_6 ?_;refine bt 2 rfl rfl rfl ?_
 exact hx8 rfl rfl rfl (⟨CoC.one (CoP.of_eq (by rw [hz,a7e,List.append_nil] at hx;rw [← hx];rfl)),trivial⟩)
theorem b0j:goodFn Tryz.prog 213:=⟨Tryz.f213,Tryz.func213,by kernel_rfl,by kernel_rfl⟩
theorem bbo (s:AS):ae Tryz.prog 213 [pA s] (ai [pI (bsz s)]):=by
 refine a8 (nt:=21) a7 Tryz.func213 rfl rfl l9 ?_;refine w_5 ?_;refine bp (E:=bm) a7 ax [0,1,2,3,4,5,6,7,8,9,10,11,12,13,14,15,16,17,18] ?_;refine w_2 ?_
 refine rq rfl rfl rfl rfl rfl ?_ (hp:=(bcq s (by decide +kernel)));refine w_3 ?_;refine rq rfl rfl rfl rfl rfl ?_ (hp:=(ixM s 16 (by omega) (by decide +kernel)));refine rqw rfl rfl rfl rfl rfl ?_;refine w_3 ?_
 refine rq rfl rfl rfl rfl rfl ?_ (hp:=(ixM s 8 (by omega) (by decide +kernel)));refine rqw rfl rfl rfl rfl rfl ?_;refine w_2 ?_;refine rq rfl rfl rfl rfl rfl ?_ (hp:=(ixL s (by decide +kernel)))
 (iterate 2 refine rqw rfl rfl rfl rfl rfl ?_);refine w_2 ?_;refine ⟨by kernel_rfl, ?_⟩
 exact hx8 rfl rfl rfl (⟨cci (b8j (by decide +kernel) (azy s 24 (by omega)) (akr s 16 (by omega)) (akr s 8 (by omega)) (azk s)),trivial⟩)
theorem tv:goodFn Tryz.prog 168:=⟨Tryz.f168,Tryz.func168,by kernel_rfl,by kernel_rfl⟩
theorem a3k (s:AS):ae Tryz.prog 168 [pA s] (ai [pI (bsz s)]):=by
 refine a8 (nt:=5) a7 Tryz.func168 rfl rfl l9 ?_;refine w_7 ?_;refine rc rfl rfl rfl rfl rfl rfl b0j (bbo s) (CoL.refl _) rfl rfl ?_;refine w_2 ?_
 exact hx8 rfl rfl rfl (CoL.refl _)
end Go.Hx
end
section
namespace Go.Hx
def beu (l:List AS) (k:Nat) (r:AS):List AS:=l.take k ++ r :: l.drop k
theorem acy {l:List AS} {j:Nat} (h:j < l.length):l.getD j default ∈ l:=by
 rw [List.getD_eq_getElem?_getD,List.getElem?_eq_getElem h]
 exact List.getElem_mem h
theorem adt (x:AS):∀ l:List AS,(lg x l).length ≤ l.length + 1
 | []=>by simp [lg]
 | y :: l=>by
  unfold lg
  have:=adt x l
  split
  · simp
  split
  · simp
  simp only [List.length_cons];omega
theorem mo (l:List AS):(ord l).length ≤ l.length:=by
 have:∀ (l o:List AS),(l.foldl (fun o x=>lg x o) o).length ≤ o.length + l.length:=by
  intro l
  induction l with
  | nil=>intro o;simp
  | cons x l ih =>
   intro o
   have h1:=ih (lg x o)
   have h2:=adt x o
   simp only [List.foldl_cons,List.length_cons]
   omega
 have h:=this l []
 simpa [ord] using h
def jC:Int → Nat → PV:=fun n _=>.raw (.int .i64 n)
def orF (l:List Int):Int:=(l.find? fun x=>decide (x ≠ 0)).getD 0
theorem bb8 {l:List Int} {i:Nat} (hi:i < l.length) (hI:∀ j,j < i → decide (l.getD j default = 0) = true) (h:¬ l.getD i default = 0):orF l = l.getD i default:=by
 unfold orF
 have:l.find? (fun x=>decide (x ≠ 0)) = some (l.getD i default):=by
  rw [List.find?_eq_some_iff_getElem]
  refine ⟨decide_eq_true h,i,hi,by simp [List.getD,hi],fun j hj=>?_⟩
  have:=of_decide_eq_true (hI j hj)
  rw [List.getD_eq_getElem?_getD,List.getElem?_eq_getElem (by omega),Option.getD_some] at this
  simp [this]
 rw [this];rfl
theorem baw {l:List Int} (hI:∀ j,j < l.length → decide (l.getD j default = 0) = true):orF l = 0:=by
 unfold orF
 have:l.find? (fun x=>decide (x ≠ 0)) = none:=by
  rw [List.find?_eq_none]
  intro x hx
  obtain ⟨j,hj,rfl⟩:=List.getElem_of_mem hx
  have:=of_decide_eq_true (hI j hj)
  rw [List.getD_eq_getElem?_getD,List.getElem?_eq_getElem hj,Option.getD_some] at this
  simp [this]
 rw [this];rfl
theorem b1d (a b:AS):orF [iw (bsz a) (bsz b),iw (asI a) (asI b)] = zi a b:=by
 unfold orF zi
 by_cases h:iw (bsz a) (bsz b) = 0
 · by_cases h2:iw (asI a) (asI b) = 0 <;> simp [h,h2]
 simp [h]
theorem b36 {α:Type} [Inhabited α] {cl:Bool} {c:α → Nat → PV} {x y:α} {f:Nat → Nat → PV} (h0:CoP (f 0 0) (c x 0)) (h1:CoP (f 1 0) (c y 0)):CoP (.sl 2 1 cl f) (psl 1 c [x,y]) :=
 CoP.sl rfl (.inl rfl) (fun h=>by cases h) fun i j hi hj=>by
  obtain rfl:j = 0:=by omega
  rcases (by omega:i = 0 ∨ i = 1) with rfl | rfl
  · exact h0
  exact h1
theorem gu {α:Type} [Inhabited α] {wr wr':Bool} {s n m:Nat} {e:TypeId} {c:α → Nat → PV} {l l':List α} (h:l' = l) (hn:n = m) (hw:wr' = true → wr = true:=by exact fun h=>h):CoO (.arr wr s e n (lf c l)) (.arr wr' s e m (lf c l')):=by
 subst h hn
 exact ⟨hw,rfl,rfl,rfl,fun _ _ _ _=>CoP.refl _⟩
theorem au4 {a b:AS}:decide (zi a b < 0) = bef a b:=by
 rw [Bool.eq_iff_iff,decide_eq_true_iff,oe]
 unfold zi iw asI
 split <;> (repeat' split) <;> omega
end Go.Hx
end
section
namespace Go.Hx
open Go.Proofs
set_option maxRecDepth 100000
set_option maxHeartbeats 1000000
theorem agx:goodFn Tryz.prog 266:=⟨Tryz.f266,Tryz.func266,by kernel_rfl,by kernel_rfl⟩
theorem b01 (a:Int):ae Tryz.prog 266 [pI a] (ai [pB false]):=by
 refine a8 (nt:=6) a7 Tryz.func266 rfl rfl l9 ?_;refine ez ?_
 exact hx8 rfl rfl rfl (⟨ccb (by simp),trivial⟩)
theorem ahu:goodFn Tryz.prog 267:=⟨Tryz.f267,Tryz.func267,by kernel_rfl,by kernel_rfl⟩
theorem azs (a:AS):ae Tryz.prog 267 [pA a] (ai [pB false]):=by
 refine a8 (nt:=6) a7 Tryz.func267 rfl rfl l9 ?_;refine ez ?_
 exact hx8 rfl rfl rfl (⟨ccb (by simp),trivial⟩)
theorem aia:goodFn Tryz.prog 245:=⟨Tryz.f245,Tryz.func245,by kernel_rfl,by kernel_rfl⟩
theorem b0b (a b:Int):ae Tryz.prog 245 [pI a,pI b] (ai [pI (iw a b)]):=by
 refine a8 (nt:=20) a7 Tryz.func245 rfl rfl l9 ?_;refine w_7 ?_;refine rc rfl rfl rfl rfl rfl rfl agx (b01 _) (CoL.refl _) rfl rfl ?_;refine w_5 ?_
 refine rc rfl rfl rfl rfl rfl rfl agx (b01 _) (CoL.refl _) rfl rfl ?_;refine w_7 ?_;refine a6 _ rfl (fun e=>by cases e) (fun _=>?_);refine w_6 ?_;refine a6 _ rfl (fun e=>by cases e) (fun _=>?_)
 refine w_8 ?_;refine a6 _ rfl (fun r0=>?_) (fun r0=>?_)
 ·
  have h0:=of_decide_eq_true r0
  try simp only [ty] at h0
  refine w_4 ?_
  exact hx8 rfl rfl rfl (⟨cci (by unfold iw;first | (rw [if_pos (by omega)]) | (rw [if_neg (by omega),if_pos (by omega)]) | (rw [if_neg (by omega),if_neg (by omega)])),trivial⟩)
 have h0:=of_decide_eq_false r0
 try simp only [ty] at h0
 refine w_8 ?_;refine a6 _ rfl (fun r1=>?_) (fun r1=>?_)
 ·
  have h1:=of_decide_eq_true r1
  try simp only [ty] at h1
  refine w_4 ?_
  exact hx8 rfl rfl rfl (⟨cci (by unfold iw;first | (rw [if_pos (by omega)]) | (rw [if_neg (by omega),if_pos (by omega)]) | (rw [if_neg (by omega),if_neg (by omega)])),trivial⟩)
 have h1:=of_decide_eq_false r1
 try simp only [ty] at h1
 refine w_5 ?_
 exact hx8 rfl rfl rfl (⟨cci (by unfold iw;first | (rw [if_pos (by omega)]) | (rw [if_neg (by omega),if_pos (by omega)]) | (rw [if_neg (by omega),if_neg (by omega)])),trivial⟩)
theorem b46:goodFn Tryz.prog 246:=⟨Tryz.f246,Tryz.func246,by kernel_rfl,by kernel_rfl⟩
theorem b9x (a b:AS):ae Tryz.prog 246 [pA a,pA b] (ai [pI (iw (asI a) (asI b))]):=by
 refine a8 (nt:=20) a7 Tryz.func246 rfl rfl l9 ?_;refine w_7 ?_;refine rc rfl rfl rfl rfl rfl rfl ahu (azs _) (CoL.refl _) rfl rfl ?_;refine w_5 ?_
 refine rc rfl rfl rfl rfl rfl rfl ahu (azs _) (CoL.refl _) rfl rfl ?_;refine w_7 ?_;refine a6 _ rfl (fun e=>by cases e) (fun _=>?_);refine w_6 ?_;refine a6 _ rfl (fun e=>by cases e) (fun _=>?_)
 refine w_8 ?_;refine a6 _ rfl (fun r0=>?_) (fun r0=>?_)
 ·
  have h0:=of_decide_eq_true r0
  try simp only [ty] at h0
  refine w_4 ?_
  exact hx8 rfl rfl rfl (⟨cci (by unfold iw;first | (rw [if_pos (by omega)]) | (rw [if_neg (by omega),if_pos (by omega)]) | (rw [if_neg (by omega),if_neg (by omega)])),trivial⟩)
 have h0:=of_decide_eq_false r0
 try simp only [ty] at h0
 refine w_8 ?_;refine a6 _ rfl (fun r1=>?_) (fun r1=>?_)
 ·
  have h1:=of_decide_eq_true r1
  try simp only [ty] at h1
  refine w_4 ?_
  exact hx8 rfl rfl rfl (⟨cci (by unfold iw;first | (rw [if_pos (by omega)]) | (rw [if_neg (by omega),if_pos (by omega)]) | (rw [if_neg (by omega),if_neg (by omega)])),trivial⟩)
 have h1:=of_decide_eq_false r1
 try simp only [ty] at h1
 refine w_5 ?_
 exact hx8 rfl rfl rfl (⟨cci (by unfold iw;first | (rw [if_pos (by omega)]) | (rw [if_neg (by omega),if_pos (by omega)]) | (rw [if_neg (by omega),if_neg (by omega)])),trivial⟩)
theorem b5a:goodFn Tryz.prog 244:=⟨Tryz.f244,Tryz.func244,by kernel_rfl,by kernel_rfl⟩
theorem cOr (l:List Int):ae Tryz.prog 244 [pP (psl 1 jC l)] (ai [pI (orF l)]):=by
 refine a8 (nt:=18) a7 Tryz.func244 rfl rfl l9 ?_;refine ct ?_
 refine dg 0 rfl fun hn=>?_
 refine w_7 ?_;refine cj (ι:=Unit) ⟨[(3,some _)],[]⟩ ⟨⟨c9,trivial⟩,trivial⟩ (fun _i=>⟨[],[]⟩) (fun _i=>orF l = 0) ?_ ?_
 ·
  refine w_7 ?_
  refine aj (ι:=Nat) ⟨[(3,some _),(6,some _),(7,some _)],[]⟩ ⟨⟨c9,c9,c9,trivial⟩,trivial⟩ (fun i=>⟨[(8,some (vI i))],[]⟩) (fun i=>i ≤ l.length ∧ (∀ j,j < i → decide (l.getD j default = 0) = true)) (fun i=>l.length - i) (0) (⟨Nat.zero_le _,ck⟩) ⟨⟨zy,trivial⟩,trivial⟩ ?_
  rintro i ⟨hi,hI⟩
  refine w_5 ?_;refine a6 _ rfl (fun r0=>?_) (fun r0=>?_)
  ·
   have h0:=of_decide_eq_true r0
   try simp only [ty] at h0
   refine o0 ?_;refine a6 _ rfl (fun r1=>?_) (fun r1=>?_)
   ·
    have h1:=r1
    have h1:=of_decide_eq_false (ap h1)
    try simp only [ty] at h1
    refine w_5 ?_
    exact hx8 rfl rfl rfl (⟨cci (bb8 (i:=i) (by omega) hI h1).symm,trivial⟩)
   have h1:=r1
   have h1:=of_decide_eq_true (am h1)
   try simp only [ty] at h1
   refine w_5 ?_;refine ⟨i + 1, ?_, ?_, ?_⟩
   · exact ⟨by show i + 1 ≤ _;omega,br hI (decide_eq_true h1)⟩
   · first | omega | (dsimp only;omega)
   exact ⟨⟨zy,c9,c9,c9,trivial⟩,trivial⟩
  have h0:=of_decide_eq_false r0
  try simp only [ty] at h0
  refine er ?_;refine ⟨(), ?_, ?_⟩
  · exact baw fun j hj=>hI j (by omega)
  exact ⟨⟨c9,trivial⟩,trivial⟩
 rintro _ hj
 refine w_5 ?_
 exact hx8 rfl rfl rfl (⟨cci hj.symm,trivial⟩)
theorem ax6 (a b:AS):ae Tryz.prog 215 [pA a,pA b] (ai [pI (zi a b)]):=by
 refine a8 (nt:=15) a7 Tryz.func215 rfl rfl l9 ?_;refine w_7 ?_;refine rc rfl rfl rfl rfl rfl rfl tv (a3k _) (CoL.refl _) rfl rfl ?_;refine qy ?_
 refine rc rfl rfl rfl rfl rfl rfl tv (a3k _) (CoL.refl _) rfl rfl ?_;refine rc rfl rfl rfl rfl rfl rfl aia (b0b _ _) (CoL.refl _) rfl rfl ?_;refine w_2 ?_
 refine rc rfl rfl rfl rfl rfl rfl b46 (b9x _ _) (CoL.refl _) rfl rfl ?_;refine m9 0 ?_
 refine rc rfl rfl rfl rfl rfl rfl b5a (cOr [iw (bsz a) (bsz b),iw (asI a) (asI b)]) (⟨CoC.one (b36 (CoP.refl _) (CoP.refl _)),trivial⟩) rfl rfl ?_;refine w_2 ?_
 exact hx8 rfl rfl rfl (⟨cci (b1d a b),trivial⟩)
end Go.Hx
end

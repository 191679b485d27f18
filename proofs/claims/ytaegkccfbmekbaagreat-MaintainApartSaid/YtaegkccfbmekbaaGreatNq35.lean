/- A part of the proof: SrC Mw4 Mw5 Mw6. -/
import Derived.Test.YtaegkccfbmekbaaGreatNq15
import Derived.Test.YtaegkccfbmekbaaGreatNq21
import Derived.Test.YtaegkccfbmekbaaGreatNq23
import Derived.Test.YtaegkccfbmekbaaGreatNq24
import Derived.Test.YtaegkccfbmekbaaGreatNq25
import Derived.Test.YtaegkccfbmekbaaGreatNq33
import Derived.Test.YtaegkccfbmekbaaGreatNq34
set_option linter.all false
section
namespace Go.Hx
open Go.Proofs Go.RowKit
set_option maxRecDepth 100000
theorem at5:∀ (a b:List UInt8),Lib.compareBytes a b = ke a b
 | [],[]=>rfl
 | [],_ :: _=>rfl
 | _ :: _,[]=>rfl
 | x :: xs,y :: ys=>by
  unfold Lib.compareBytes ke
  rw [at5 xs ys]
  by_cases h1:x < y
  · have h2:x.toNat < y.toNat:=h1
    rw [if_pos h1,if_neg (fun e=>by rw [e] at h2;omega)]
    unfold sgn
    rw [if_pos (by omega)]
  · have h2:¬ x.toNat < y.toNat:=h1
    rw [if_neg h1]
    by_cases h3:y < x
    · have h4:y.toNat < x.toNat:=h3
      rw [if_pos h3,if_neg (fun e=>by rw [e] at h4;omega)]
      unfold sgn
      rw [if_neg (by omega),if_pos (by omega)]
    · have h4:¬ y.toNat < x.toNat:=h3
      rw [if_neg h3,if_pos (UInt8.toNat_inj.1 (by omega))]
theorem apx:aj Tryz.prog 169:=⟨Tryz.f169,Tryz.func169,by kernel_rfl,by kernel_rfl⟩
theorem aox (a b:ByteArray):ap Tryz.prog 169 [pS a,pS b] (b4 [pI (m8 a b)]):=by
 intro w imm us htab him hus
 match us,hus with
 | [u,v],⟨hu,hv,_⟩ =>
  obtain ⟨rfl,_⟩:=hu
  obtain ⟨rfl,_⟩:=hv
  refine (Any.bytealg_CompareString Tryz.laysCS a b w).mono ?_
  rintro e w' ⟨rfl,rfl⟩
  exact ⟨_,imm,rfl,⟨by rw [at5];rfl,rfl⟩,fun _ _=>rfl,him,Below.refl _ _⟩
 | [],h=>exact h.elim
 | [_],⟨_,h⟩=>exact h.elim
 | _ :: _ :: _ :: _,⟨_,_,h⟩=>exact h.elim
end Go.Hx
end
section
namespace Go.Hx
open Go.Proofs
set_option maxRecDepth 100000
set_option maxHeartbeats 1000000
theorem apl {α:Type} [Inhabited α] {cl:Bool} {c:α → Nat → PV} {x y z:α} {f:Nat → Nat → PV} (h0:CoP (f 0 0) (c x 0)) (h1:CoP (f 1 0) (c y 0)) (h2:CoP (f 2 0) (c z 0)):CoP (.sl 3 1 cl f) (psl 1 c [x,y,z]) :=
 CoP.sl rfl (.inl rfl) (fun h=>by cases h) fun i j hi hj=>by
  obtain rfl:j = 0:=by omega
  match i,hi with
  | 0,_=>exact h0
  | 1,_=>exact h1
  | 2,_=>exact h2
theorem anp (a b:Val):orF [fh a.kind b.kind,fh a.num b.num,m8 a.str b.str] = kj a b:=by
 have e:∀ x y:Int,sgn x y = fh x y:=fun _ _=>rfl
 unfold kj orF
 rw [e,e]
 by_cases h1:fh a.kind b.kind = 0
 · by_cases h2:fh a.num b.num = 0
   · by_cases h3:m8 a.str b.str = 0
     · simp [h1,h2,h3]
     · simp [h1,h2,h3]
   · simp [h1,h2]
 · simp [h1]
theorem ahd:aj Tryz.prog 95:=⟨Tryz.f95,Tryz.func95,by kernel_rfl,by kernel_rfl⟩
theorem a9y (a b:List Fd) (ha:a.length ≤ 68719476736) (hb:b.length ≤ 68719476736):ap Tryz.prog 95 [pP (fdl a),pP (fdl b)] (b4 [pP (fdl (er a b))]):=by
 refine ah (nt:=24) ae Tryz.func95 rfl rfl l9 ?_;refine sx7 ?_;refine qy ?_;refine a6 ?_;refine sx7 ?_;refine qy ?_;refine a6 ?_;refine a7 ?_;refine sx7 ?_;(iterate 3 refine qy ?_);refine a6 ?_
 refine af ?_;refine dw 5 900 true 2 71 (lf Fd.c []) (by decide) rfl (CoP.sl rfl (.inr rfl) (fun h=>h) (fun i j hi _=>absurd hi (Nat.not_lt_zero i))) (.inr rfl) rfl ?_
 refine av (ι:=Nat) ⟨[(1,some _),(8,some _),(9,some _)],[]⟩ ⟨⟨c9,c9,c9,trivial⟩,trivial⟩ (fun i=>⟨[(5,some (.v (.one (.ref 900 (i4 a b i).length)))),(10,some (vI i))],[(900,some (.arr true 2 71 (i4 a b i).length (lf Fd.c (i4 a b i))))]⟩) (fun i=>i ≤ a.length) (fun i=>a.length - i) (0) (Nat.zero_le _) ⟨⟨zy,zy,trivial⟩,⟨u9,trivial⟩⟩ ?_
 rintro i hi
 have hlen:=aei a b i
 refine sx7 ?_;refine qy ?_;refine a6 ?_;refine a7 ?_;refine a8 _ rfl (fun r0=>?_) (fun r0=>?_)
 ·
  have h0:=of_decide_eq_true r0
  try simp only [ty] at h0
  refine aa ?_;refine a7 ?_;refine af ?_;refine sx7 ?_;(iterate 2 refine qy ?_);refine m9 0 ?_;refine s9 ?_;refine a6 ?_;refine sx7 ?_;(iterate 2 refine qy ?_)
  refine rc rfl rfl rfl rfl rfl rfl anz (avb b (a.getD i default)) (CoL.refl _) rfl rfl ?_;refine qy ?_;refine a6 ?_;refine a8 _ rfl (fun r1=>?_) (fun r1=>?_)
  ·
   have h1:=r1
   have h1:=be h1
   have hf:=be r1
   refine gy ?_;(iterate 2 refine qy ?_);refine m9 1 ?_;refine ra 2 true rfl rfl rfl rfl rfl rfl ?_;refine qy ?_;refine a6 ?_;refine gy ?_;(iterate 2 refine qy ?_);refine a6 ?_
   first | (refine ⟨i + 1, ?_, ?_, ?_⟩
            · show i + 1 ≤ _;omega
            · first | omega | (dsimp only;omega)
            · exact ⟨⟨⟨_,rfl,(df (v2 (by omega) hf))⟩,zy,c9,c9,c9,trivial⟩,⟨⟨_,rfl,(ji (v2 (by omega) hf) (CoP.refl _) (CoP.refl _))⟩,trivial⟩⟩)
         | (refine ⟨i + 1, ?_, ?_, ?_⟩
            · show i + 1 ≤ _;omega
            · first | omega | (dsimp only;omega)
            · exact ⟨⟨⟨_,rfl,(d5 (uq (by omega) hf))⟩,zy,c9,c9,c9,trivial⟩,⟨⟨_,rfl,(ci (uq (by omega) hf))⟩,trivial⟩⟩)
  ·
   have h1:=r1
   have h1:=bf h1
   have hf:=bf r1
   refine aa ?_;refine gy ?_;(iterate 2 refine qy ?_);refine a6 ?_
   first | (refine ⟨i + 1, ?_, ?_, ?_⟩
            · show i + 1 ≤ _;omega
            · first | omega | (dsimp only;omega)
            · exact ⟨⟨⟨_,rfl,(df (v2 (by omega) hf))⟩,zy,c9,c9,c9,trivial⟩,⟨⟨_,rfl,(ji (v2 (by omega) hf) (CoP.refl _) (CoP.refl _))⟩,trivial⟩⟩)
         | (refine ⟨i + 1, ?_, ?_, ?_⟩
            · show i + 1 ≤ _;omega
            · first | omega | (dsimp only;omega)
            · exact ⟨⟨⟨_,rfl,(d5 (uq (by omega) hf))⟩,zy,c9,c9,c9,trivial⟩,⟨⟨_,rfl,(ci (uq (by omega) hf))⟩,trivial⟩⟩)
 ·
  have h0:=of_decide_eq_false r0
  try simp only [ty] at h0
  obtain rfl:i = a.length:=by omega
  refine au ?_;refine a7 ?_;refine dn 5 rfl rfl rfl ?_;refine gy ?_;(iterate 2 refine qy ?_);refine a6 ?_
  exact hx8 rfl rfl rfl (⟨CoC.one (CoP.of_eq (by rw [afl (Nat.le_refl _)];rfl)),trivial⟩)
theorem aji:aj Tryz.prog 39:=⟨Tryz.f39,Tryz.func39,by kernel_rfl,by kernel_rfl⟩
theorem amd (l:List UInt8) (hl:l.length ≤ 1000000):ap Tryz.prog 39 [pP (u8s l)] (b4 [pP (vals (s4 l))]):=by
 refine ah (nt:=20) ae Tryz.func39 rfl rfl l9 ?_;refine sx7 ?_;refine qy ?_;refine a6 ?_;refine sx7 ?_;refine qy ?_;refine a6 ?_;refine a7 ?_;refine sx7 ?_;refine qy ?_;refine a6 ?_
 refine af ?_;refine dw 3 900 true 3 81 (lf Val.c (s4 l)) (by decide) rfl (CoP.sl rfl (.inr rfl) (fun h=>h) (fun i j hi _=>absurd hi (Nat.not_lt_zero i))) (.inr rfl) rfl ?_
 refine av (ι:=Nat) ⟨[(0,some _)],[]⟩ ⟨⟨c9,trivial⟩,trivial⟩ (fun i=>⟨[(3,some (.v (.one (.ref 900 i)))),(4,some (vI i))],[(900,some (.arr true 3 81 i (lf Val.c (s4 l))))]⟩) (fun i=>i ≤ l.length) (fun i=>l.length - i) (0) (Nat.zero_le _) ⟨⟨zy,zy,trivial⟩,⟨u9,trivial⟩⟩ ?_
 rintro i hi
 refine a7 ?_;refine sx7 ?_;(iterate 4 refine qy ?_);refine a6 ?_;refine a8 _ rfl (fun r0=>?_) (fun r0=>?_)
 ·
  have h0:=of_decide_eq_true r0
  try simp only [ty] at h0
  refine aa ?_;refine a7 ?_;refine af ?_;refine gy ?_;(iterate 5 refine qy ?_);refine rc rfl rfl rfl rfl rfl rfl a4s (c49 _ (by omega)) (CoL.refl _) rfl rfl ?_;refine m9 0 ?_
  refine ra 1 true rfl rfl rfl rfl rfl rfl ?_;refine qy ?_;refine a6 ?_;refine gy ?_;(iterate 3 refine qy ?_);refine a6 ?_;refine ⟨i + 1, ?_, ?_, ?_⟩
  · show i + 1 ≤ _;omega
  · first | omega | (dsimp only;omega)
  · exact ⟨⟨zy,zy,c9,trivial⟩,⟨⟨_,rfl,(kz (fun h=>h) (by intro j hj;show CoP _ (Val.c ((s4 l).getD i default) j);rw [ai6 (by omega)];revert j;exact lt3 (CoP.refl _) (CoP.refl _) (CoP.refl _)))⟩,trivial⟩⟩
 ·
  have h0:=of_decide_eq_false r0
  try simp only [ty] at h0
  obtain rfl:i = l.length:=by omega
  refine au ?_;refine a7 ?_;refine dn 3 rfl rfl rfl ?_;refine gy ?_;(iterate 2 refine qy ?_);refine a6 ?_
  exact hx8 rfl rfl rfl (⟨CoC.one (CoP.sl (aim _) (.inl rfl) (fun h=>h) (fun _ _ _ _=>CoP.refl _)),trivial⟩)
theorem ail:aj Tryz.prog 21:=⟨Tryz.f21,Tryz.func21,by kernel_rfl,by kernel_rfl⟩
theorem aav (t:Tbl) (o:MOp) (hn:t.attrs.length ≤ 16):ap Tryz.prog 21 [t.pc,o.pc] (b4 [(opT t o).pc,pI (opE t o)]):=by
 refine ah (nt:=56) ae Tryz.func21 rfl rfl l9 ?_
 have hk:=o.kind.toNat_lt
 have hid:=o.id.toNat_lt
 refine sx7 ?_;refine m9 0 ?_;refine m9 1 ?_;refine m9 2 ?_;refine qy ?_;refine a6 ?_;refine sx7 ?_;(iterate 4 refine qy ?_);refine a6 ?_;refine sx7 ?_;refine qy ?_;refine m9 3 ?_;refine s9 ?_;refine qy ?_
 refine a6 ?_;refine a7 ?_;refine sx7 ?_;(iterate 3 refine qy ?_);refine a6 ?_;refine af ?_;refine sx7 ?_;(iterate 2 refine qy ?_);refine a6 ?_;refine a8 _ rfl (fun r0=>?_) (fun r0=>?_)
 ·
  have h0:=of_decide_eq_true r0
  try simp only [ty] at h0
  refine gy ?_;(iterate 5 refine qy ?_);refine rc rfl rfl rfl rfl rfl rfl asf (c74 t (gw o)) (⟨CoC.refl _,cci (by unfold gw;omega),trivial⟩) rfl rfl ?_;(iterate 3 refine qy ?_);refine s9 ?_;refine qy ?_
  refine a6 ?_;refine a7 ?_;refine sx7 ?_;(iterate 2 refine qy ?_);refine a6 ?_;refine a8 _ rfl (fun r1=>?_) (fun r1=>?_)
  ·
   have h1:=r1
   have h1:=of_decide_eq_false (be h1)
   try simp only [ty] at h1
   refine sx7 ?_;(iterate 2 refine qy ?_);refine s9 ?_;refine qy ?_;refine a6 ?_;refine aw ?_;refine ⟨.inr rfl, ?_⟩
   obtain ⟨hE,hT⟩:opE t o = _ ∧ opT t o = _:=by first | exact op2 (t:=t) (o:=o) (by omega) | exact op3 (t:=t) (o:=o) (by omega) (by omega) | exact op0 (t:=t) (o:=o) (by omega) (by omega)
   rw [hE,hT]
   exact f9 rfl rfl (⟨CoC.of_eq (congrArg Tbl.pc (by first | rfl | exact (if_pos (by omega)).symm | exact (if_neg (by omega)).symm | omega)),cci (by first | rfl | exact (if_pos (by omega)).symm | exact (if_neg (by omega)).symm | omega),trivial⟩)
  ·
   have h1:=r1
   have h1:=of_decide_eq_true (bf h1)
   try simp only [ty] at h1
   refine aa ?_;refine sx7 ?_;refine qy ?_;refine s9 ?_;refine qy ?_;refine a6 ?_;refine aw ?_;refine ⟨.inr rfl, ?_⟩
   obtain ⟨hE,hT⟩:opE t o = _ ∧ opT t o = _:=by first | exact op2 (t:=t) (o:=o) (by omega) | exact op3 (t:=t) (o:=o) (by omega) (by omega) | exact op0 (t:=t) (o:=o) (by omega) (by omega)
   rw [hE,hT]
   exact f9 rfl rfl (⟨CoC.of_eq (congrArg Tbl.pc (by first | rfl | exact (if_pos (by omega)).symm | exact (if_neg (by omega)).symm | omega)),cci (by first | rfl | exact (if_pos (by omega)).symm | exact (if_neg (by omega)).symm | omega),trivial⟩)
 ·
  have h0:=of_decide_eq_false r0
  try simp only [ty] at h0
  refine sx7 ?_;(iterate 2 refine qy ?_);refine a6 ?_;refine a8 _ rfl (fun r2=>?_) (fun r2=>?_)
  ·
   have h2:=of_decide_eq_true r2
   try simp only [ty] at h2
   refine sx7 ?_;(iterate 2 refine qy ?_);refine rc rfl rfl rfl rfl rfl rfl agh (adi t.attrs.length o hn) (CoL.refl _) rfl rfl ?_;(iterate 3 refine qy ?_);refine m9 4 ?_;refine m9 5 ?_;(iterate 2 refine s9 ?_)
   refine a6 ?_;refine gy ?_;(iterate 3 refine qy ?_);refine rc rfl rfl rfl rfl rfl rfl aq6 (c63 t (gw o) (om t.attrs.length o) (md o)) (CoL.refl _) rfl rfl ?_;(iterate 3 refine qy ?_);refine s9 ?_
   refine qy ?_;refine a6 ?_;refine a7 ?_;refine sx7 ?_;(iterate 2 refine qy ?_);refine a6 ?_;refine a8 _ rfl (fun r3=>?_) (fun r3=>?_)
   ·
    have h3:=r3
    have h3:=of_decide_eq_false (be h3)
    try simp only [ty] at h3
    refine sx7 ?_;(iterate 2 refine qy ?_);refine s9 ?_;refine qy ?_;refine a6 ?_;refine aw ?_;refine ⟨.inr rfl, ?_⟩
    obtain ⟨hE,hT⟩:opE t o = _ ∧ opT t o = _:=by first | exact op2 (t:=t) (o:=o) (by omega) | exact op3 (t:=t) (o:=o) (by omega) (by omega) | exact op0 (t:=t) (o:=o) (by omega) (by omega)
    rw [hE,hT]
    exact f9 rfl rfl (⟨CoC.of_eq (congrArg Tbl.pc (by first | rfl | exact (if_pos (by omega)).symm | exact (if_neg (by omega)).symm | omega)),cci (by first | rfl | exact (if_pos (by omega)).symm | exact (if_neg (by omega)).symm | omega),trivial⟩)
   ·
    have h3:=r3
    have h3:=of_decide_eq_true (bf h3)
    try simp only [ty] at h3
    refine aa ?_;refine sx7 ?_;refine qy ?_;refine s9 ?_;refine qy ?_;refine a6 ?_;refine aw ?_;refine ⟨.inr rfl, ?_⟩
    obtain ⟨hE,hT⟩:opE t o = _ ∧ opT t o = _:=by first | exact op2 (t:=t) (o:=o) (by omega) | exact op3 (t:=t) (o:=o) (by omega) (by omega) | exact op0 (t:=t) (o:=o) (by omega) (by omega)
    rw [hE,hT]
    exact f9 rfl rfl (⟨CoC.of_eq (congrArg Tbl.pc (by first | rfl | exact (if_pos (by omega)).symm | exact (if_neg (by omega)).symm | omega)),cci (by first | rfl | exact (if_pos (by omega)).symm | exact (if_neg (by omega)).symm | omega),trivial⟩)
  ·
   have h2:=of_decide_eq_false r2
   try simp only [ty] at h2
   refine a7 ?_;refine ax (E:=aq) ae ak [0,1,2,3,4,5,6,7,8] ?_;(iterate 3 refine qy ?_);refine rc rfl rfl rfl rfl rfl rfl ags (ahq t.attrs.length o hn) (CoL.refl _) rfl rfl ?_
   refine rc rfl rfl rfl rfl rfl rfl asz (auy t (mb t.attrs.length o)) (CoL.refl _) rfl rfl ?_;(iterate 2 refine qy ?_);refine s9 ?_;refine qy ?_;refine a6 ?_;refine ⟨by kernel_rfl, ?_⟩;refine aw ?_
   refine ⟨.inr rfl, ?_⟩
   obtain ⟨hE,hT⟩:opE t o = _ ∧ opT t o = _:=by first | exact op2 (t:=t) (o:=o) (by omega) | exact op3 (t:=t) (o:=o) (by omega) (by omega) | exact op0 (t:=t) (o:=o) (by omega) (by omega)
   rw [hE,hT]
   exact f9 rfl rfl (⟨CoC.of_eq (congrArg Tbl.pc (by first | rfl | exact (if_pos (by omega)).symm | exact (if_neg (by omega)).symm | omega)),cci (by first | rfl | exact (if_pos (by omega)).symm | exact (if_neg (by omega)).symm | omega),trivial⟩)
theorem ae8:aj Tryz.prog 168:=⟨Tryz.f168,Tryz.func168,by kernel_rfl,by kernel_rfl⟩
theorem aiy (a:Int):ap Tryz.prog 168 [pI a] (b4 [pB false]):=by
 refine ah (nt:=6) ae Tryz.func168 rfl rfl l9 ?_;refine sx7 ?_;refine qy ?_;refine a6 ?_;refine sx7 ?_;(iterate 4 refine qy ?_);refine a6 ?_
 exact hx8 rfl rfl rfl (⟨ccb (by simp),trivial⟩)
theorem apq:aj Tryz.prog 152:=⟨Tryz.f152,Tryz.func152,by kernel_rfl,by kernel_rfl⟩
theorem ar6 (a b:Int):ap Tryz.prog 152 [pI a,pI b] (b4 [pI (fh a b)]):=by
 refine ah (nt:=20) ae Tryz.func152 rfl rfl l9 ?_;refine sx7 ?_;refine qy ?_;refine a6 ?_;refine sx7 ?_;refine qy ?_;refine rc rfl rfl rfl rfl rfl rfl ae8 (aiy _) (CoL.refl _) rfl rfl ?_;refine qy ?_
 refine a6 ?_;refine sx7 ?_;refine qy ?_;refine rc rfl rfl rfl rfl rfl rfl ae8 (aiy _) (CoL.refl _) rfl rfl ?_;refine qy ?_;refine a6 ?_;refine a7 ?_;refine sx7 ?_;refine qy ?_;refine a6 ?_
 refine a8 _ rfl (fun e=>by cases e) (fun _=>?_);refine aa ?_;refine a7 ?_;refine sx7 ?_;refine qy ?_;refine a6 ?_;refine a8 _ rfl (fun e=>by cases e) (fun _=>?_);refine aa ?_
 refine a7 ?_;refine sx7 ?_;(iterate 3 refine qy ?_);refine a6 ?_;refine a8 _ rfl (fun r0=>?_) (fun r0=>?_)
 ·
  have h0:=of_decide_eq_true r0
  try simp only [ty] at h0
  refine sx7 ?_;refine qy ?_;refine a6 ?_
  exact hx8 rfl rfl rfl (⟨cci (by unfold fh;first | (rw [if_pos (by omega)]) | (rw [if_neg (by omega),if_pos (by omega)]) | (rw [if_neg (by omega),if_neg (by omega)])),trivial⟩)
 ·
  have h0:=of_decide_eq_false r0
  try simp only [ty] at h0
  refine aa ?_;refine a7 ?_;refine sx7 ?_;(iterate 3 refine qy ?_);refine a6 ?_;refine a8 _ rfl (fun r1=>?_) (fun r1=>?_)
  ·
   have h1:=of_decide_eq_true r1
   try simp only [ty] at h1
   refine sx7 ?_;refine qy ?_;refine a6 ?_
   exact hx8 rfl rfl rfl (⟨cci (by unfold fh;first | (rw [if_pos (by omega)]) | (rw [if_neg (by omega),if_pos (by omega)]) | (rw [if_neg (by omega),if_neg (by omega)])),trivial⟩)
  ·
   have h1:=of_decide_eq_false r1
   try simp only [ty] at h1
   refine aa ?_;refine sx7 ?_;refine qy ?_;refine a6 ?_
   exact hx8 rfl rfl rfl (⟨cci (by unfold fh;first | (rw [if_pos (by omega)]) | (rw [if_neg (by omega),if_pos (by omega)]) | (rw [if_neg (by omega),if_neg (by omega)])),trivial⟩)
theorem an5:aj Tryz.prog 153:=⟨Tryz.f153,Tryz.func153,by kernel_rfl,by kernel_rfl⟩
theorem ape (a b:ByteArray):ap Tryz.prog 153 [pS a,pS b] (b4 [pI (m8 a b)]):=by
 refine ah (nt:=8) ae Tryz.func153 rfl rfl l9 ?_;refine sx7 ?_;refine qy ?_;refine a6 ?_;refine sx7 ?_;(iterate 2 refine qy ?_);refine rc rfl rfl rfl rfl rfl rfl apx (aox _ _) (CoL.refl _) rfl rfl ?_
 refine qy ?_;refine a6 ?_
 exact hx8 rfl rfl rfl (CoL.refl _)
theorem ao5:aj Tryz.prog 125:=⟨Tryz.f125,Tryz.func125,by kernel_rfl,by kernel_rfl⟩
theorem ao0 (a b:Val):ap Tryz.prog 125 [a.pc,b.pc] (b4 [pI (kj a b)]):=by
 refine ah (nt:=22) ae Tryz.func125 rfl rfl l9 ?_;refine sx7 ?_;refine m9 0 ?_;refine m9 1 ?_;refine qy ?_;refine a6 ?_;refine a7 ?_
 refine ax (E:=aq) ae ak [0,1,2,3,4,5,6,7,8,9,10,11,12,13,14,15,16,17] ?_;(iterate 4 refine qy ?_);refine rc rfl rfl rfl rfl rfl rfl aa0 (afk _ _) (CoL.refl _) rfl rfl ?_
 (iterate 4 refine qy ?_);refine rc rfl rfl rfl rfl rfl rfl apq (ar6 _ _) (CoL.refl _) rfl rfl ?_;(iterate 4 refine qy ?_);refine rc rfl rfl rfl rfl rfl rfl an5 (ape _ _) (CoL.refl _) rfl rfl ?_;refine m9 2 ?_
 refine rc rfl rfl rfl rfl rfl rfl a99 (cOr [fh a.kind b.kind,fh a.num b.num,m8 a.str b.str]) (⟨CoC.one (apl (CoP.refl _) (CoP.refl _) (CoP.refl _)),trivial⟩) rfl rfl ?_;refine qy ?_;refine a6 ?_
 refine ⟨by kernel_rfl, ?_⟩
 exact hx8 rfl rfl rfl (⟨cci (anp a b),trivial⟩)
theorem aqt:aj Tryz.prog 94:=⟨Tryz.f94,Tryz.func94,by kernel_rfl,by kernel_rfl⟩
theorem aso (a b:Row) (hab:b.vals.length = a.vals.length) (hn:a.vals.length ≤ 16):ap Tryz.prog 94 [a.pc,b.pc] (b4 [pA (agR a b)]):=by
 refine ah (nt:=30) ae Tryz.func94 rfl rfl l9 ?_;refine sx7 ?_;refine m9 0 ?_;refine m9 1 ?_;refine qy ?_;refine a6 ?_;refine sx7 ?_;refine qy ?_;refine a6 ?_;refine a7 ?_;refine sx7 ?_
 (iterate 4 refine qy ?_);refine a6 ?_;refine af ?_
 refine av (ι:=Nat) ⟨[(3,some _),(9,some _),(10,some _)],[(1,some _)]⟩ ⟨⟨c9,c9,c9,trivial⟩,⟨u9,trivial⟩⟩ (fun i=>⟨[(5,some (vA (agT a b i))),(11,some (vI i))],[]⟩) (fun i=>i ≤ a.vals.length) (fun i=>a.vals.length - i) (0) (Nat.zero_le _) ⟨⟨zy,zy,trivial⟩,trivial⟩ ?_
 rintro i hi
 refine sx7 ?_;refine qy ?_;refine a6 ?_;refine a7 ?_;refine a8 _ rfl (fun r0=>?_) (fun r0=>?_)
 ·
  have h0:=of_decide_eq_true r0
  try simp only [ty] at h0
  refine aa ?_;refine a7 ?_;refine af ?_;refine sx7 ?_;(iterate 3 refine qy ?_);refine m9 2 ?_;refine qy ?_;refine s9 ?_;refine a6 ?_;refine a7 ?_
  refine ax (E:=aq) ae ak [0,1,2,3,4,5,6,7] ?_;(iterate 6 refine qy ?_);refine rc rfl rfl rfl rfl rfl rfl ao5 (ao0 _ _) (CoL.refl _) rfl rfl ?_;refine qy ?_;refine a6 ?_
  refine ⟨by kernel_rfl, ?_⟩;refine a8 _ rfl (fun r1=>?_) (fun r1=>?_)
  ·
   have h1:=of_decide_eq_true r1
   try simp only [ty] at h1
   refine gy ?_;(iterate 5 refine qy ?_);refine a6 ?_;refine gy ?_;(iterate 2 refine qy ?_);refine a6 ?_
   first | (refine ⟨i + 1, ?_, ?_, ?_⟩
            · show i + 1 ≤ _;omega
            · first | omega | (dsimp only;omega)
            · exact ⟨⟨⟨_,rfl,(by simp only [Int.toNat_natCast];exact i6 (yh (by assumption)))⟩,zy,c9,c9,c9,trivial⟩,⟨u9,trivial⟩⟩)
         | (refine ⟨i + 1, ?_, ?_, ?_⟩
            · show i + 1 ≤ _;omega
            · first | omega | (dsimp only;omega)
            · exact ⟨⟨⟨_,rfl,(i6 (by rw [a8w (by assumption)]))⟩,zy,c9,c9,c9,trivial⟩,⟨u9,trivial⟩⟩)
  ·
   have h1:=of_decide_eq_false r1
   try simp only [ty] at h1
   refine aa ?_;refine gy ?_;(iterate 2 refine qy ?_);refine a6 ?_
   first | (refine ⟨i + 1, ?_, ?_, ?_⟩
            · show i + 1 ≤ _;omega
            · first | omega | (dsimp only;omega)
            · exact ⟨⟨⟨_,rfl,(by simp only [Int.toNat_natCast];exact i6 (yh (by assumption)))⟩,zy,c9,c9,c9,trivial⟩,⟨u9,trivial⟩⟩)
         | (refine ⟨i + 1, ?_, ?_, ?_⟩
            · show i + 1 ≤ _;omega
            · first | omega | (dsimp only;omega)
            · exact ⟨⟨⟨_,rfl,(i6 (by rw [a8w (by assumption)]))⟩,zy,c9,c9,c9,trivial⟩,⟨u9,trivial⟩⟩)
 ·
  have h0:=of_decide_eq_false r0
  try simp only [ty] at h0
  obtain rfl:i = a.vals.length:=by omega
  refine au ?_;refine sx7 ?_;(iterate 2 refine qy ?_);refine a6 ?_
  exact hx8 rfl rfl rfl (CoL.refl _)
end Go.Hx
end
section
namespace Go.Hx
open Go.Proofs
set_option maxRecDepth 100000
theorem a48:aj Tryz.prog 51:=⟨Tryz.f51,Tryz.func51,by kernel_rfl,by kernel_rfl⟩
theorem a4l (x:MSt) (r:Row) (y:Int) (hy:y = 1 ∨ y = -1) (ht:TOk x.t) (hr:r.vals.length = x.t.attrs.length) (hc:∀ s, -1000000 ≤ x.c s ∧ x.c s ≤ 1000000):ce Tryz.prog 51 [.one (.ptr 1000 0),r.pc.toH, .one (.p (.raw (.int .i64 (y))))] x.objs (.tup []) ({ x with c:=f5 x.t.rows r y x.c }:MSt).objs [1000]:=by
 refine ct (nt:=48) ae Tryz.func51 rfl rfl l9 rfl ?_
 have hnr:=ht.nr
 have hna:=ht.na
 refine sx7 ?_;refine m9 0 ?_;refine a6 ?_;refine sx7 ?_;(iterate 7 refine qy ?_);refine a6 ?_;refine af ?_
 refine av (ι:=Nat) ⟨[(0,some _),(2,some _),(4,some _),(13,some _),(14,some _)],[(1000,some _),(0,some _)]⟩ ⟨⟨c9,c9,c9,c9,c9,trivial⟩,⟨u9,u9,trivial⟩⟩ (fun i=>⟨[(15,some (vI i))],[(901,some (.mp (.int .u32) 4294967296 (mpF (f5 (x.t.rows.take i) r y x.c))))]⟩) (fun i=>i ≤ x.t.rows.length) (fun i=>x.t.rows.length - i) (0) (Nat.zero_le _) ⟨⟨zy,trivial⟩,⟨⟨_,rfl,(qd (by rw [List.take_zero,ah8]))⟩,trivial⟩⟩ ?_
 rintro i hi
 refine sx7 ?_;refine qy ?_;refine a6 ?_;refine a7 ?_;refine a8 _ rfl (fun r0=>?_) (fun r0=>?_)
 ·
  have h0:=of_decide_eq_true r0
  try simp only [ty] at h0
  refine aa ?_;refine a7 ?_;refine af ?_;refine sx7 ?_;(iterate 2 refine qy ?_);refine m9 1 ?_;refine s9 ?_;refine a6 ?_;refine a7 ?_;refine sx7 ?_;(iterate 5 refine qy ?_);refine a6 ?_
  refine a8 _ rfl (fun r1=>?_) (fun r1=>?_)
  ·
   have h1:=of_decide_eq_true r1
   try simp only [ty] at h1
   have hid:(x.t.rows.getD i default).id = r.id:=h1
   refine au ?_;refine gy ?_;(iterate 2 refine qy ?_);refine a6 ?_
   first | (refine ⟨i + 1, ?_, ?_, ?_⟩
            · show i + 1 ≤ _;omega
            · first | omega | (dsimp only;omega)
            · exact ⟨⟨zy,c9,c9,c9,c9,c9,trivial⟩,⟨⟨_,rfl,(qd (by rw [zg (by omega) hid]))⟩,u9,u9,trivial⟩⟩)
         | (refine ⟨i + 1, ?_, ?_, ?_⟩
            · show i + 1 ≤ _;omega
            · first | omega | (dsimp only;omega)
            · exact ⟨⟨zy,c9,c9,c9,c9,c9,trivial⟩,⟨⟨_,rfl,(qd ((a6u (by assumption)).trans (congrArg mpF (xf (by omega) hid))))⟩,u9,u9,trivial⟩⟩)
         | (refine ⟨i + 1, ?_, ?_, ?_⟩
            · show i + 1 ≤ _;omega
            · first | omega | (dsimp only;omega)
            · exact ⟨⟨zy,c9,c9,c9,c9,c9,trivial⟩,⟨⟨_,rfl,(qd ((a6s (by assumption)).trans (congrArg mpF (xf (by omega) hid))))⟩,u9,u9,trivial⟩⟩)
  ·
   have h1:=of_decide_eq_false r1
   try simp only [ty] at h1
   have hid:¬ (x.t.rows.getD i default).id = r.id:=h1
   refine aa ?_;refine sx7 ?_;(iterate 2 refine qy ?_)
   refine rc rfl rfl rfl rfl rfl rfl aqt (aso (x.t.rows.getD i default) r (by rw [ht.width (by omega),hr]) (by rw [ht.width (by omega)];omega)) (CoL.refl _) rfl rfl ?_;refine qy ?_;refine a6 ?_;refine sx7 ?_
   (iterate 5 refine qy ?_)
   refine rq (out:=⟨_, .v (.one (.p (nI ((f5 (x.t.rows.take i) r y x.c) (agR (x.t.rows.getD i default) r)))))⟩) rfl rfl rfl (congrArg (fun z=>some (Out.mk _ (HR.v (HC.one (HV.p z))))) (asx (f5 (x.t.rows.take i) r y x.c) (agR (x.t.rows.getD i default) r))) rfl ?_ (hp:=⟨rfl,rfl,wfA _⟩)
   refine qy ?_
   refine rq rfl rfl rfl rfl rfl ?_ (hp:=by have h1:=hc (agR (x.t.rows.getD i default) r);have h2:=anv (l:=x.t.rows.take i) (r:=r) (c:=x.c) hy (agR (x.t.rows.getD i default) r);rw [List.length_take] at h2;simp only [inR,jq,lg];omega)
   refine rs rfl rfl rfl rfl rfl ?_ (hp:=⟨rfl,⟨rfl,wfA _⟩,by simp only [maxLen];omega⟩);refine a6 ?_;refine ash 901 rfl ?_;refine sx7 ?_;(iterate 5 refine qy ?_)
   refine rq (out:=⟨_, .v (.one (.p (nI ((f5 (x.t.rows.take i) r y x.c) (agR (x.t.rows.getD i default) r) + y))))⟩) rfl rfl rfl (congrArg (fun z=>some (Out.mk _ (HR.v (HC.one (HV.p z))))) (aj8 (mpF (f5 (x.t.rows.take i) r y x.c)) (mkA (agR (x.t.rows.getD i default) r)) (nI ((f5 (x.t.rows.take i) r y x.c) (agR (x.t.rows.getD i default) r) + y)) (.int .i64 0))) rfl ?_ (hp:=⟨rfl,rfl,wfA _⟩)
   refine qy ?_;refine a6 ?_;refine a8 _ rfl (fun r2=>?_) (fun r2=>?_)
   ·
    have h2:=of_decide_eq_true r2
    try simp only [ty] at h2
    refine c7 [] [0,1,2,3,4,5] rfl ?_;refine cj (E:=aq) (L1:=[0,1,2,3,4]) (L2:=[5]) ae ?_;(iterate 5 refine qy ?_);refine a6 ?_
    refine ahi ae (k:=5) (L:=[]) rfl (okA (agR (x.t.rows.getD i default) r)) ?_;refine dm ?_;refine gy ?_;(iterate 2 refine qy ?_);refine a6 ?_
    first | (refine ⟨i + 1, ?_, ?_, ?_⟩
             · show i + 1 ≤ _;omega
             · first | omega | (dsimp only;omega)
             · exact ⟨⟨zy,c9,c9,c9,c9,c9,trivial⟩,⟨⟨_,rfl,(qd (by rw [zg (by omega) hid]))⟩,u9,u9,trivial⟩⟩)
          | (refine ⟨i + 1, ?_, ?_, ?_⟩
             · show i + 1 ≤ _;omega
             · first | omega | (dsimp only;omega)
             · exact ⟨⟨zy,c9,c9,c9,c9,c9,trivial⟩,⟨⟨_,rfl,(qd ((a6u (by assumption)).trans (congrArg mpF (xf (by omega) hid))))⟩,u9,u9,trivial⟩⟩)
          | (refine ⟨i + 1, ?_, ?_, ?_⟩
             · show i + 1 ≤ _;omega
             · first | omega | (dsimp only;omega)
             · exact ⟨⟨zy,c9,c9,c9,c9,c9,trivial⟩,⟨⟨_,rfl,(qd ((a6s (by assumption)).trans (congrArg mpF (xf (by omega) hid))))⟩,u9,u9,trivial⟩⟩)
   ·
    have h2:=of_decide_eq_false r2
    try simp only [ty] at h2
    refine aa ?_;refine gy ?_;(iterate 2 refine qy ?_);refine a6 ?_
    first | (refine ⟨i + 1, ?_, ?_, ?_⟩
             · show i + 1 ≤ _;omega
             · first | omega | (dsimp only;omega)
             · exact ⟨⟨zy,c9,c9,c9,c9,c9,trivial⟩,⟨⟨_,rfl,(qd (by rw [zg (by omega) hid]))⟩,u9,u9,trivial⟩⟩)
          | (refine ⟨i + 1, ?_, ?_, ?_⟩
             · show i + 1 ≤ _;omega
             · first | omega | (dsimp only;omega)
             · exact ⟨⟨zy,c9,c9,c9,c9,c9,trivial⟩,⟨⟨_,rfl,(qd ((a6u (by assumption)).trans (congrArg mpF (xf (by omega) hid))))⟩,u9,u9,trivial⟩⟩)
          | (refine ⟨i + 1, ?_, ?_, ?_⟩
             · show i + 1 ≤ _;omega
             · first | omega | (dsimp only;omega)
             · exact ⟨⟨zy,c9,c9,c9,c9,c9,trivial⟩,⟨⟨_,rfl,(qd ((a6s (by assumption)).trans (congrArg mpF (xf (by omega) hid))))⟩,u9,u9,trivial⟩⟩)
 ·
  have h0:=of_decide_eq_false r0
  try simp only [ty] at h0
  obtain rfl:i = x.t.rows.length:=by omega
  refine au ?_;refine ⟨.inl rfl, ?_⟩
  rw [List.take_length]
  exact ⟨_,_,rfl,(by (repeat' apply And.intro) <;> first | trivial | exact Nat.le_of_ble_eq_true rfl),CoR.refl _,⟨u9,u9,trivial⟩⟩
end Go.Hx
end
section
namespace Go.Hx
open Go.Proofs
set_option maxRecDepth 100000
set_option maxHeartbeats 1000000
theorem a4h:aj Tryz.prog 59:=⟨Tryz.f59,Tryz.func59,by kernel_rfl,by kernel_rfl⟩
theorem a5p (t:Tbl) (fds add rem:List Fd) (hna:t.attrs.length ≤ 8):ce Tryz.prog 59 [.one (.ptr 1000 0)] (⟨t,cw t.rows,fds,add,rem⟩:MSt).objs (.v (.one (.p (asC (b6 (t.attrs.length:Nat)))))) (⟨t,cw t.rows,fds,add,rem⟩:MSt).objs [1000]:=by
 refine ct (nt:=11) ae Tryz.func59 rfl rfl l9 rfl ?_
 have h0z:(0:Int) ≤ (t.attrs.length:Int):=by omega
 have h1z:((t.attrs.length:Nat):Int) ≤ 16:=by omega
 refine sx7 ?_;refine qy ?_;refine a6 ?_;refine sx7 ?_;(iterate 7 refine qy ?_);refine rq rfl rfl rfl rfl rfl ?_ (hp:=⟨alv h0z h1z,ajj h0z h1z⟩);refine qy ?_;refine a6 ?_;refine aw ?_
 refine ⟨.inr rfl, ?_⟩
 exact ⟨_,_,rfl,(by (repeat' apply And.intro) <;> first | trivial | exact Nat.le_of_ble_eq_true rfl),i6 (a9u h0z h1z),⟨u9,u9,trivial⟩⟩
theorem atj:aj Tryz.prog 77:=⟨Tryz.f77,Tryz.func77,by kernel_rfl,by kernel_rfl⟩
theorem aud (y z:AS):ap Tryz.prog 77 [pA y,pP (bx (asC z))] (b4 [pB (decide (sub y z))]):=by
 refine ah (nt:=8) ae Tryz.func77 rfl rfl l9 ?_;refine sx7 ?_;refine qy ?_;refine a6 ?_;refine sx7 ?_;(iterate 5 refine qy ?_);refine a6 ?_
 exact hx8 rfl rfl rfl (⟨ccb (decide_eq_decide.2 mo),trivial⟩)
theorem ahh:aj Tryz.prog 60:=⟨Tryz.f60,Tryz.func60,by kernel_rfl,by kernel_rfl⟩
theorem amf (y z:AS):ap Tryz.prog 60 [pA y,pP (bx (asC z))] (b4 [pB (decide (sub y z))]):=by
 refine ah (nt:=8) ae Tryz.func60 rfl rfl l9 ?_;refine sx7 ?_;refine qy ?_;refine a6 ?_;refine sx7 ?_;(iterate 5 refine qy ?_);refine a6 ?_
 exact hx8 rfl rfl rfl (⟨ccb (decide_eq_decide.2 mo),trivial⟩)
theorem aga:aj Tryz.prog 42:=⟨Tryz.f42,Tryz.func42,by kernel_rfl,by kernel_rfl⟩
theorem aa6 (t:Tbl) (fds add rem:List Fd) (hna:t.attrs.length ≤ 8):ce Tryz.prog 42 [.one (.ptr 1000 0)] (⟨t,cw t.rows,fds,add,rem⟩:MSt).objs (.v (.one (.p (fdl (a3r (prs t.rows) t.attrs.length))))) (⟨t,cw t.rows,fds,add,rem⟩:MSt).objs [1000]:=by
 refine ct (nt:=92) ae Tryz.func42 rfl rfl l9 rfl ?_
 have hsl:=ny (b6 (t.attrs.length:Nat))
 refine sx7 ?_;refine qy ?_;refine a6 ?_;refine sx7 ?_;refine qy ?_;refine a6 ?_;refine sx7 ?_;(iterate 6 refine qy ?_);refine m9 0 ?_;refine qy ?_;refine a6 ?_
 refine afw 4 0 900 69 1 (fun _ _ _=>.any) rfl rfl (fun _ _=>rfl) ?_;refine a7 ?_;refine sx7 ?_;refine qy ?_
 refine ay rfl rfl rfl rfl rfl rfl a4h (a5p t fds add rem hna) (bs.refl _) ⟨u9,u9,trivial⟩ rfl rfl ?_;refine rc rfl rfl rfl rfl rfl rfl aat (aes (b6 (t.attrs.length:Nat))) (CoL.refl _) rfl rfl ?_
 (iterate 2 refine qy ?_);refine a6 ?_;refine af ?_;refine dw 3 905 true 2 71 (lf Fd.c []) (by decide) rfl (CoP.sl rfl (.inr rfl) (fun h=>h) (fun i j hi _=>absurd hi (Nat.not_lt_zero i))) (.inr rfl) rfl ?_
 refine av (ι:=Nat) ⟨[(0,some _),(4,some _),(19,some _),(20,some _)],[(1000,some _),(901,some _)]⟩ ⟨⟨c9,c9,c9,c9,trivial⟩,⟨u9,u9,trivial⟩⟩ (fun i=>⟨[(3,some (.v (.one (.ref 905 (jh (prs t.rows) t.attrs.length i 0).length)))),(21,some (vI i))],[(905,some (.arr true 2 71 (jh (prs t.rows) t.attrs.length i 0).length (lf Fd.c (jh (prs t.rows) t.attrs.length i 0)))),(900,some (nst (prs t.rows) t.attrs.length i 0))]⟩) (fun i=>i ≤ (ck (b6 (t.attrs.length:Nat))).length) (fun i=>(ck (b6 (t.attrs.length:Nat))).length - i) (0) (Nat.zero_le _) ⟨⟨zy,zy,trivial⟩,⟨u9,⟨_,rfl,aui⟩,trivial⟩⟩ ?_
 rintro i hi
 refine sx7 ?_;refine qy ?_;refine a6 ?_;refine a7 ?_;refine a8 _ rfl (fun r0=>?_) (fun r0=>?_)
 ·
  have h0:=of_decide_eq_true r0
  try simp only [ty] at h0
  have hil:i < (d6 t.attrs.length).length:=Int.ofNat_lt.1 h0
  refine aa ?_;refine a7 ?_;refine af ?_;refine sx7 ?_;(iterate 2 refine qy ?_);refine m9 1 ?_;refine s9 ?_;refine a6 ?_;refine nb 6 rfl rfl rfl ?_;refine sx7 ?_;refine qy ?_
  refine ay rfl rfl rfl rfl rfl rfl a4h (a5p t fds add rem hna) (bs.refl _) ⟨u9,u9,trivial⟩ rfl rfl ?_;refine qy ?_;refine a6 ?_;(iterate 2 refine a7 ?_);refine c7 [] [0,1,2,3,4] rfl ?_
  refine cj (E:=aq) (L1:=[0,1,2,3]) (L2:=[4]) ae ?_;(iterate 4 refine qy ?_);refine a6 ?_;refine gt ?_
  refine qz 901 rfl w7 fun b es clock hf=>?_
  refine dp ?_
  refine ue (k:=4) (L:=[]) 2 rfl rfl fun bi=>?_
  refine dm ?_;refine af ?_
  refine av (ι:=(Array Nat × List AS)) ⟨[(0,some _),(3,some _),(4,some _),(6,some _),(19,some _),(20,some _),(21,some _),(31,some _)],[(905,some _),(900,some _),(1000,some _),(901,some _)]⟩ ⟨⟨c9,c9,c9,c9,c9,c9,c9,c9,trivial⟩,⟨u9,u9,u9,u9,trivial⟩⟩ (fun v=>⟨[(7,some (vA (m7 v.2 (b6 (t.attrs.length:Nat)) ((ck (b6 (t.attrs.length:Nat))).getD i default))))],[(2,some (.ex 2 (.pointer (some ⟨bi,0,none⟩)) bi (.mapIter (some b) clock v.1 clock)))]⟩) (fun v=>Vis es v.1 (v.2.map mkA)) (fun v=>(leftOf es v.1).size) ((#[],[])) (w4) ⟨⟨zy,trivial⟩,⟨u9,trivial⟩⟩ ?_
  rintro ⟨s,K⟩ hV
  refine a7 ?_;refine c7 [] [0,1] rfl ?_;refine wn (mid:=901) (k:=0) (L:=[1]) rfl hf (fun h0=>?_) (fun e he key v hk hv hev=>?_)
  ·
   have hD:=ak9 (w8 hf hV h0) (b6 (t.attrs.length:Nat)) ((ck (b6 (t.attrs.length:Nat))).getD i default)
   refine gt ?_;refine oh 901 rfl hf ?_;refine dp ?_;refine cj (E:=aq) (L1:=[1]) (L2:=[]) ae ?_;refine qy ?_;refine a6 ?_;refine dm ?_;refine a7 ?_
   refine a8 _ rfl (fun e=>by cases e) (fun _=>?_);refine au ?_;refine sx7 ?_;(iterate 7 refine qy ?_);refine a6 ?_;refine af ?_
   refine av (ι:=Nat) ⟨[(0,some _),(4,some _),(6,some _),(7,some _),(19,some _),(20,some _),(21,some _),(48,some _)],[(1000,some _),(901,some _)]⟩ ⟨⟨c9,c9,c9,c9,c9,c9,c9,c9,trivial⟩,⟨u9,u9,trivial⟩⟩ (fun a=>⟨[(3,some (.v (.one (.ref 905 (jh (prs t.rows) t.attrs.length i a).length)))),(49,some (vI a))],[(905,some (.arr true 2 71 (jh (prs t.rows) t.attrs.length i a).length (lf Fd.c (jh (prs t.rows) t.attrs.length i a)))),(900,some (nst (prs t.rows) t.attrs.length i a))]⟩) (fun a=>a ≤ t.attrs.length) (fun a=>t.attrs.length - a) (0) (Nat.zero_le _) ⟨⟨zy,zy,trivial⟩,⟨u9,u9,trivial⟩⟩ ?_
   rintro a ha
   refine sx7 ?_;refine qy ?_;refine a6 ?_;refine a7 ?_;refine a8 _ rfl (fun r1=>?_) (fun r1=>?_)
   ·
    have h1:=of_decide_eq_true r1
    try simp only [ty] at h1
    have hfl:(dj (prs t.rows) t.attrs.length a (fk i a a)).length ≤ i:=by rw [kw];exact alu _ _ _ _
    have hol:=a9r (prs t.rows) t.attrs.length i a
    have hmul:i * t.attrs.length ≤ 4294967296 * 8:=Nat.mul_le_mul (by omega) hna
    refine aa ?_;refine a7 ?_;refine af ?_;refine sx7 ?_;(iterate 2 refine qy ?_);refine a6 ?_
    refine ad1 (i:=i) rfl (by omega) fun hd B hbf=>?_
    refine a7 ?_;refine sx7 ?_;(iterate 6 refine qy ?_);refine b5 rfl rfl (fun r2=>?_) (fun r2=>?_)
    ·
     have h2:=of_decide_eq_true r2
     try simp only [ty] at h2
     have hb1:=auo (by omega) h2
     rw [hD] at hb1
     have hn:nwB (prs t.rows) t.attrs.length i a = false:=atq hb1
     (iterate 5 refine k9 (gtf r2) ?_);refine rq rfl rfl rfl rfl rfl ?_ (hp:=r2);refine qy ?_;(iterate 6 refine k9 rfl ?_);refine qy ?_;refine a6 ?_;refine a8 _ rfl (fun _=>?_) (fun e=>by cases e)
     refine au ?_
     refine ka ⟨[(0,some _),(3,some _),(4,some _),(6,some _),(7,some _),(19,some _),(20,some _),(21,some _),(48,some _),(49,some _)],[(1000,some _),(901,some _),(905,some _),(900,some _),(906,some _),(907,some _)]⟩ ⟨⟨c9,c9,c9,c9,c9,c9,c9,c9,c9,c9,trivial⟩,⟨u9,u9,u9,u9,u9,u9,trivial⟩⟩ ?_
     refine y9 4 900 906 907 908 hbf rfl rfl rfl rfl (by omega) (by first | exact re _ _ _ _ _ | exact a4b) (fun b _ hne=>by first | exact tt hne | exact a5k hne) ?_
     refine ka ⟨[(0,some _),(3,some _),(4,some _),(6,some _),(7,some _),(19,some _),(20,some _),(21,some _),(48,some _),(49,some _)],[(1000,some _),(901,some _),(905,some _),(908,some _)]⟩ ⟨⟨c9,c9,c9,c9,c9,c9,c9,c9,c9,c9,trivial⟩,⟨u9,u9,u9,u9,trivial⟩⟩ ?_
     refine a1a 4 908 900 rfl rfl ?_;refine gy ?_;(iterate 2 refine qy ?_);refine a6 ?_
     first | (refine ⟨a + 1, ?_, ?_, ?_⟩
              · show a + 1 ≤ _;omega
              · first | omega | (dsimp only;omega)
              · exact ⟨⟨⟨_,rfl,(d5 (qv hn))⟩,zy,c9,c9,c9,c9,c9,c9,c9,c9,trivial⟩,⟨⟨_,rfl,(ci (qv hn))⟩,⟨_,rfl,(lp (ci (l:=(dj (prs t.rows) t.attrs.length a (fk i a a))) (l':=(dj (prs t.rows) t.attrs.length a (i + 1))) (by rw [kw];exact a4m hil hn)))⟩,u9,u9,trivial⟩⟩)
           | (refine ⟨a + 1, ?_, ?_, ?_⟩
              · show a + 1 ≤ _;omega
              · first | omega | (dsimp only;omega)
              · exact ⟨⟨⟨_,rfl,(df (qu hn))⟩,zy,c9,c9,c9,c9,c9,c9,c9,c9,trivial⟩,⟨⟨_,rfl,(ji (qu hn) (CoP.refl _) (CoP.of_eq (congrArg (fun z=>PV.raw (.int .u32 z)) (vf 1 a))))⟩,⟨_,rfl,(lp (dx (l:=(dj (prs t.rows) t.attrs.length a (fk i a a))) (l':=(dj (prs t.rows) t.attrs.length a (i + 1))) (by rw [kw];exact a3y hil hn) (CoP.refl _)))⟩,u9,u9,trivial⟩⟩)
    ·
     have h2:=of_decide_eq_false r2
     try simp only [ty] at h2
     have hb1:=arv (by omega) h2
     rw [hD] at hb1
     (iterate 5 refine qy ?_ (hg:=(gff r2)));(iterate 2 refine qy ?_);refine b5 rfl rfl (fun r3=>?_) (fun r3=>?_)
     ·
      have h3:=r3
      have h3:=bv r2 h3
      have h3:=of_decide_eq_true h3
      try simp only [ty] at h3
      have hn:nwB (prs t.rows) t.attrs.length i a = false:=atw ((a8x (by omega)).1 h3)
      (iterate 6 refine k9 (gtf r3) ?_);refine rq rfl rfl rfl rfl rfl ?_ (hp:=r3);refine a6 ?_;refine a8 _ rfl (fun _=>?_) (fun e=>by cases e);refine au ?_
      refine ka ⟨[(0,some _),(3,some _),(4,some _),(6,some _),(7,some _),(19,some _),(20,some _),(21,some _),(48,some _),(49,some _)],[(1000,some _),(901,some _),(905,some _),(900,some _),(906,some _),(907,some _)]⟩ ⟨⟨c9,c9,c9,c9,c9,c9,c9,c9,c9,c9,trivial⟩,⟨u9,u9,u9,u9,u9,u9,trivial⟩⟩ ?_
      refine y9 4 900 906 907 908 hbf rfl rfl rfl rfl (by omega) (by first | exact re _ _ _ _ _ | exact a4b) (fun b _ hne=>by first | exact tt hne | exact a5k hne) ?_
      refine ka ⟨[(0,some _),(3,some _),(4,some _),(6,some _),(7,some _),(19,some _),(20,some _),(21,some _),(48,some _),(49,some _)],[(1000,some _),(901,some _),(905,some _),(908,some _)]⟩ ⟨⟨c9,c9,c9,c9,c9,c9,c9,c9,c9,c9,trivial⟩,⟨u9,u9,u9,u9,trivial⟩⟩ ?_
      refine a1a 4 908 900 rfl rfl ?_;refine gy ?_;(iterate 2 refine qy ?_);refine a6 ?_
      first | (refine ⟨a + 1, ?_, ?_, ?_⟩
               · show a + 1 ≤ _;omega
               · first | omega | (dsimp only;omega)
               · exact ⟨⟨⟨_,rfl,(d5 (qv hn))⟩,zy,c9,c9,c9,c9,c9,c9,c9,c9,trivial⟩,⟨⟨_,rfl,(ci (qv hn))⟩,⟨_,rfl,(lp (ci (l:=(dj (prs t.rows) t.attrs.length a (fk i a a))) (l':=(dj (prs t.rows) t.attrs.length a (i + 1))) (by rw [kw];exact a4m hil hn)))⟩,u9,u9,trivial⟩⟩)
            | (refine ⟨a + 1, ?_, ?_, ?_⟩
               · show a + 1 ≤ _;omega
               · first | omega | (dsimp only;omega)
               · exact ⟨⟨⟨_,rfl,(df (qu hn))⟩,zy,c9,c9,c9,c9,c9,c9,c9,c9,trivial⟩,⟨⟨_,rfl,(ji (qu hn) (CoP.refl _) (CoP.of_eq (congrArg (fun z=>PV.raw (.int .u32 z)) (vf 1 a))))⟩,⟨_,rfl,(lp (dx (l:=(dj (prs t.rows) t.attrs.length a (fk i a a))) (l':=(dj (prs t.rows) t.attrs.length a (i + 1))) (by rw [kw];exact a3y hil hn) (CoP.refl _)))⟩,u9,u9,trivial⟩⟩)
     ·
      have h3:=r3
      have h3:=bv r2 h3
      have h3:=of_decide_eq_false h3
      try simp only [ty] at h3
      have hb2:=aqz (by omega) h3
      (iterate 3 refine qy ?_ (hg:=(gff r3)))
      refine rq (out:=⟨_, .v (.one (.ref 906 (dj (prs t.rows) t.attrs.length a (fk i a a)).length))⟩) rfl rfl rfl (congrArg (fun z=>some (Out.mk _ (HR.v (HC.one z)))) (re hd 906 a (dj (prs t.rows) t.attrs.length a (fk i a a)).length 0)) (gff r3) ?_
      refine qy ?_ (hg:=(gff r3))
      refine rc rfl rfl rfl rfl rfl rfl acg (af3 (dj (prs t.rows) t.attrs.length a (fk i a a)) 77 1 (fun j=>[bx (asC ((ck (b6 (t.attrs.length:Nat))).getD i default))].getD j .any) (fun y=>decide (sub y ((ck (b6 (t.attrs.length:Nat))).getD i default))) atj (fun y=>aud y ((ck (b6 (t.attrs.length:Nat))).getD i default))) (CoL.refl _) rfl (gff r3) ?_
      refine qy ?_;refine a6 ?_;refine a8 _ rfl (fun r4=>?_) (fun r4=>?_)
      ·
       have h4:=r4
       have h4:=bv r3 h4
       have hn:nwB (prs t.rows) t.attrs.length i a = false:=am9 (b:=true) hb1 hb2 (bv (by assumption) r4)
       refine au ?_
       refine ka ⟨[(0,some _),(3,some _),(4,some _),(6,some _),(7,some _),(19,some _),(20,some _),(21,some _),(48,some _),(49,some _)],[(1000,some _),(901,some _),(905,some _),(900,some _),(906,some _),(907,some _)]⟩ ⟨⟨c9,c9,c9,c9,c9,c9,c9,c9,c9,c9,trivial⟩,⟨u9,u9,u9,u9,u9,u9,trivial⟩⟩ ?_
       refine y9 4 900 906 907 908 hbf rfl rfl rfl rfl (by omega) (by first | exact re _ _ _ _ _ | exact a4b) (fun b _ hne=>by first | exact tt hne | exact a5k hne) ?_
       refine ka ⟨[(0,some _),(3,some _),(4,some _),(6,some _),(7,some _),(19,some _),(20,some _),(21,some _),(48,some _),(49,some _)],[(1000,some _),(901,some _),(905,some _),(908,some _)]⟩ ⟨⟨c9,c9,c9,c9,c9,c9,c9,c9,c9,c9,trivial⟩,⟨u9,u9,u9,u9,trivial⟩⟩ ?_
       refine a1a 4 908 900 rfl rfl ?_;refine gy ?_;(iterate 2 refine qy ?_);refine a6 ?_
       first | (refine ⟨a + 1, ?_, ?_, ?_⟩
                · show a + 1 ≤ _;omega
                · first | omega | (dsimp only;omega)
                · exact ⟨⟨⟨_,rfl,(d5 (qv hn))⟩,zy,c9,c9,c9,c9,c9,c9,c9,c9,trivial⟩,⟨⟨_,rfl,(ci (qv hn))⟩,⟨_,rfl,(lp (ci (l:=(dj (prs t.rows) t.attrs.length a (fk i a a))) (l':=(dj (prs t.rows) t.attrs.length a (i + 1))) (by rw [kw];exact a4m hil hn)))⟩,u9,u9,trivial⟩⟩)
             | (refine ⟨a + 1, ?_, ?_, ?_⟩
                · show a + 1 ≤ _;omega
                · first | omega | (dsimp only;omega)
                · exact ⟨⟨⟨_,rfl,(df (qu hn))⟩,zy,c9,c9,c9,c9,c9,c9,c9,c9,trivial⟩,⟨⟨_,rfl,(ji (qu hn) (CoP.refl _) (CoP.of_eq (congrArg (fun z=>PV.raw (.int .u32 z)) (vf 1 a))))⟩,⟨_,rfl,(lp (dx (l:=(dj (prs t.rows) t.attrs.length a (fk i a a))) (l':=(dj (prs t.rows) t.attrs.length a (i + 1))) (by rw [kw];exact a3y hil hn) (CoP.refl _)))⟩,u9,u9,trivial⟩⟩)
      ·
       have h4:=r4
       have h4:=bv r3 h4
       have hn:nwB (prs t.rows) t.attrs.length i a = true:=am9 (b:=false) hb1 hb2 (bv (by assumption) r4)
       refine aa ?_;refine a7 ?_;refine ax (E:=aq) ae ak [0,1,2,3,4,5,6,7,8,9,10] ?_;(iterate 5 refine qy ?_)
       refine rq (out:=⟨_, .v (.one (.ref 906 (dj (prs t.rows) t.attrs.length a (fk i a a)).length))⟩) rfl rfl rfl (congrArg (fun z=>some (Out.mk _ (HR.v (HC.one z)))) (re hd 906 a (dj (prs t.rows) t.attrs.length a (fk i a a)).length 0)) rfl ?_
       refine qy ?_;refine m9 3 ?_;refine ra 4 true rfl rfl rfl rfl rfl rfl ?_;refine qy ?_;refine s9 ?_;refine a6 ?_;refine ⟨by kernel_rfl, ?_⟩
       refine ax (E:=aq) ae ak [0,1,2,3,4,5,6,7] ?_;(iterate 5 refine qy ?_);refine m9 5 ?_;refine ra 6 true rfl rfl rfl rfl rfl rfl ?_;refine qy ?_;refine a6 ?_
       refine ⟨by kernel_rfl, ?_⟩
       refine ka ⟨[(0,some _),(3,some _),(4,some _),(6,some _),(7,some _),(19,some _),(20,some _),(21,some _),(48,some _),(49,some _)],[(1000,some _),(901,some _),(905,some _),(900,some _),(906,some _),(907,some _)]⟩ ⟨⟨c9,c9,c9,c9,c9,c9,c9,c9,c9,c9,trivial⟩,⟨u9,u9,u9,u9,u9,u9,trivial⟩⟩ ?_
       refine y9 4 900 906 907 908 hbf rfl rfl rfl rfl (by omega) (by first | exact re _ _ _ _ _ | exact a4b) (fun b _ hne=>by first | exact tt hne | exact a5k hne) ?_
       refine ka ⟨[(0,some _),(3,some _),(4,some _),(6,some _),(7,some _),(19,some _),(20,some _),(21,some _),(48,some _),(49,some _)],[(1000,some _),(901,some _),(905,some _),(908,some _)]⟩ ⟨⟨c9,c9,c9,c9,c9,c9,c9,c9,c9,c9,trivial⟩,⟨u9,u9,u9,u9,trivial⟩⟩ ?_
       refine a1a 4 908 900 rfl rfl ?_;refine gy ?_;(iterate 2 refine qy ?_);refine a6 ?_
       first | (refine ⟨a + 1, ?_, ?_, ?_⟩
                · show a + 1 ≤ _;omega
                · first | omega | (dsimp only;omega)
                · exact ⟨⟨⟨_,rfl,(d5 (qv hn))⟩,zy,c9,c9,c9,c9,c9,c9,c9,c9,trivial⟩,⟨⟨_,rfl,(ci (qv hn))⟩,⟨_,rfl,(lp (ci (l:=(dj (prs t.rows) t.attrs.length a (fk i a a))) (l':=(dj (prs t.rows) t.attrs.length a (i + 1))) (by rw [kw];exact a4m hil hn)))⟩,u9,u9,trivial⟩⟩)
             | (refine ⟨a + 1, ?_, ?_, ?_⟩
                · show a + 1 ≤ _;omega
                · first | omega | (dsimp only;omega)
                · exact ⟨⟨⟨_,rfl,(df (qu hn))⟩,zy,c9,c9,c9,c9,c9,c9,c9,c9,trivial⟩,⟨⟨_,rfl,(ji (qu hn) (CoP.refl _) (CoP.of_eq (congrArg (fun z=>PV.raw (.int .u32 z)) (vf 1 a))))⟩,⟨_,rfl,(lp (dx (l:=(dj (prs t.rows) t.attrs.length a (fk i a a))) (l':=(dj (prs t.rows) t.attrs.length a (i + 1))) (by rw [kw];exact a3y hil hn) (CoP.refl _)))⟩,u9,u9,trivial⟩⟩)
   ·
    have h1:=of_decide_eq_false r1
    try simp only [ty] at h1
    obtain rfl:a = t.attrs.length:=by omega
    refine au ?_;refine gy ?_;(iterate 2 refine qy ?_);refine a6 ?_;refine ⟨i + 1, ?_, ?_, ?_⟩
    · show i + 1 ≤ _;omega
    · first | omega | (dsimp only;omega)
    · exact ⟨⟨⟨_,rfl,(d5 (a7m _ _ _).symm)⟩,zy,c9,c9,c9,c9,trivial⟩,⟨⟨_,rfl,(ci (a7m _ _ _).symm)⟩,⟨_,rfl,(anb _ _ _)⟩,u9,u9,trivial⟩⟩
  ·
   obtain ⟨k,rfl,hck,hy⟩:=l5 hv
   refine cj (E:=aq) (L1:=[1]) (L2:=[]) ae ?_;refine qy ?_;refine a6 ?_;refine dm ?_;refine a7 ?_;refine a8 _ rfl (fun _=>?_) (fun e=>by cases e);refine aa ?_;refine af ?_
   refine a7 ?_;refine c7 [] [0,1,2] rfl ?_;refine ud (mid:=901) (k:=0) (L:=[1,2]) rfl hf he hk hv hev ?_;refine cj (E:=aq) (L1:=[1,2]) (L2:=[]) ae ?_;(iterate 2 refine qy ?_)
   refine a6 ?_;refine dm ?_;refine sx7 ?_;(iterate 4 refine qy ?_);refine a6 ?_;refine a8 _ rfl (fun r5=>?_) (fun r5=>?_)
   ·
    have h5:=of_decide_eq_true r5
    try simp only [ty] at h5
    have hs:sub ((ck (b6 (t.attrs.length:Nat))).getD i default) k:=mo.1 h5
    refine gy ?_;(iterate 4 refine qy ?_);refine a6 ?_
    first | (refine ⟨(s.push e.born, K ++ [k]), ?_, ?_, ?_⟩
             · exact mr hf hV he hk
             · exact left_shrinks es s e he
             · exact ⟨⟨⟨_,rfl,(i6 (by rw [ahc hs,a0k]))⟩,c9,c9,c9,c9,c9,c9,c9,c9,trivial⟩,⟨u9,u9,u9,u9,u9,trivial⟩⟩)
          | (refine ⟨(s.push e.born,K ++ [k]), ?_, ?_, ?_⟩
             · exact mr hf hV he hk
             · exact left_shrinks es s e he
             · exact ⟨⟨⟨_,rfl,(i6 (by rw [aj1 hs]))⟩,c9,c9,c9,c9,c9,c9,c9,c9,trivial⟩,⟨u9,u9,u9,u9,u9,trivial⟩⟩)
   ·
    have h5:=of_decide_eq_false r5
    try simp only [ty] at h5
    have hs:¬ sub ((ck (b6 (t.attrs.length:Nat))).getD i default) k:=fun e=>h5 (mo.2 e)
    refine aa ?_
    first | (refine ⟨(s.push e.born, K ++ [k]), ?_, ?_, ?_⟩
             · exact mr hf hV he hk
             · exact left_shrinks es s e he
             · exact ⟨⟨⟨_,rfl,(i6 (by rw [ahc hs,a0k]))⟩,c9,c9,c9,c9,c9,c9,c9,c9,trivial⟩,⟨u9,u9,u9,u9,u9,trivial⟩⟩)
          | (refine ⟨(s.push e.born,K ++ [k]), ?_, ?_, ?_⟩
             · exact mr hf hV he hk
             · exact left_shrinks es s e he
             · exact ⟨⟨⟨_,rfl,(i6 (by rw [aj1 hs]))⟩,c9,c9,c9,c9,c9,c9,c9,c9,trivial⟩,⟨u9,u9,u9,u9,u9,trivial⟩⟩)
 ·
  have h0:=of_decide_eq_false r0
  try simp only [ty] at h0
  obtain rfl:i = (ck (b6 (t.attrs.length:Nat))).length:=by omega
  refine au ?_;refine a7 ?_;refine dn 3 rfl rfl rfl ?_;refine gy ?_;(iterate 2 refine qy ?_);refine a6 ?_;refine aw ?_;refine ⟨.inr rfl, ?_⟩
  exact ⟨_,_,rfl,(by (repeat' apply And.intro) <;> first | trivial | exact Nat.le_of_ble_eq_true rfl),CoR.refl _,⟨u9,u9,trivial⟩⟩
end Go.Hx
end

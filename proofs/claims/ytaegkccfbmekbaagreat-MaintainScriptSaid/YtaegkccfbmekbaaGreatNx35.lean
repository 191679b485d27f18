/- A part of the proof: SrC Mw4 Mw5. -/
import Derived.Test.YtaegkccfbmekbaaGreatNx15
import Derived.Test.YtaegkccfbmekbaaGreatNx21
import Derived.Test.YtaegkccfbmekbaaGreatNx23
import Derived.Test.YtaegkccfbmekbaaGreatNx24
import Derived.Test.YtaegkccfbmekbaaGreatNx33
import Derived.Test.YtaegkccfbmekbaaGreatNx34
set_option linter.all false
section
namespace Go.Hx
open Go.Proofs Go.RowKit
set_option maxRecDepth 100000
theorem ard:∀ (a b:List UInt8),Lib.compareBytes a b = ke a b
 | [],[]=>rfl
 | [],_ :: _=>rfl
 | _ :: _,[]=>rfl
 | x :: xs,y :: ys=>by
  unfold Lib.compareBytes ke
  rw [ard xs ys]
  by_cases h1:x < y
  · have h2:x.toNat < y.toNat:=h1
    rw [if_pos h1,if_neg (fun e=>by rw [e] at h2;omega)]
    unfold sgn
    rw [if_pos (by omega)]
  · have h2:¬ x.toNat < y.toNat:=h1
    rw [if_neg h1]
    by_cases h3:y < x
    · have h4:y.toNat < x.toNat:=h3
      rw [if_pos h3,if_neg (fun e=>by rw [e] at h4;omega)]
      unfold sgn
      rw [if_neg (by omega),if_pos (by omega)]
    · have h4:¬ y.toNat < x.toNat:=h3
      rw [if_neg h3,if_pos (UInt8.toNat_inj.1 (by omega))]
theorem an7:ai Tryz.prog 169:=⟨Tryz.f169,Tryz.func169,by kernel_rfl,by kernel_rfl⟩
theorem aom (a b:ByteArray):ak Tryz.prog 169 [pS a,pS b] (av [pI (ly a b)]):=by
 intro w imm us htab him hus
 match us,hus with
 | [u,v],⟨hu,hv,_⟩ =>
  obtain ⟨rfl,_⟩:=hu
  obtain ⟨rfl,_⟩:=hv
  refine (Any.bytealg_CompareString Tryz.laysCS a b w).mono ?_
  rintro e w' ⟨rfl,rfl⟩
  exact ⟨_,imm,rfl,⟨by rw [ard];rfl,rfl⟩,fun _ _=>rfl,him,Below.refl _ _⟩
 | [],h=>exact h.elim
 | [_],⟨_,h⟩=>exact h.elim
 | _ :: _ :: _ :: _,⟨_,_,h⟩=>exact h.elim
end Go.Hx
end
section
namespace Go.Hx
open Go.Proofs
set_option maxRecDepth 100000
set_option maxHeartbeats 1000000
theorem amy {α:Type} [Inhabited α] {cl:Bool} {c:α → Nat → PV} {x y z:α} {f:Nat → Nat → PV} (h0:CoP (f 0 0) (c x 0)) (h1:CoP (f 1 0) (c y 0)) (h2:CoP (f 2 0) (c z 0)):CoP (.sl 3 1 cl f) (psl 1 c [x,y,z]) :=
 CoP.sl rfl (.inl rfl) (fun h=>by cases h) fun i j hi hj=>by
  obtain rfl:j = 0:=by omega
  match i,hi with
  | 0,_=>exact h0
  | 1,_=>exact h1
  | 2,_=>exact h2
theorem an8 (a b:Val):orF [fu a.kind b.kind,fu a.num b.num,ly a.str b.str] = kj a b:=by
 have e:∀ x y:Int,sgn x y = fu x y:=fun _ _=>rfl
 unfold kj orF
 rw [e,e]
 by_cases h1:fu a.kind b.kind = 0
 · by_cases h2:fu a.num b.num = 0
   · by_cases h3:ly a.str b.str = 0
     · simp [h1,h2,h3]
     · simp [h1,h2,h3]
   · simp [h1,h2]
 · simp [h1]
theorem aiz:ai Tryz.prog 23:=⟨Tryz.f23,Tryz.func23,by kernel_rfl,by kernel_rfl⟩
theorem aia (a b:List Fd) (ha:a.length ≤ 68719476736) (hb:b.length ≤ 68719476736):ak Tryz.prog 23 [pP (fdl a),pP (fdl b)] (av [pP (fdl (en a b))]):=by
 refine ag (nt:=43) ae Tryz.func23 rfl rfl l9 ?_;refine sx7 ?_;refine qy ?_;refine a6 ?_;refine sx7 ?_;refine qy ?_;refine a6 ?_;refine a7 ?_;refine sx7 ?_;refine qy ?_;refine a6 ?_
 refine af ?_;refine du 5 900 true 2 71 (lf Fd.c []) (by decide) rfl (CoP.sl rfl (.inr rfl) (fun h=>h) (fun i j hi _=>absurd hi (Nat.not_lt_zero i))) (.inr rfl) rfl ?_
 refine ap (ι:=Nat) ⟨[(0,some _),(1,some _)],[]⟩ ⟨⟨c9,c9,trivial⟩,trivial⟩ (fun i=>⟨[(5,some (.v (.one (.ref 900 (gk a b i).length)))),(6,some (vI i))],[(900,some (.arr true 2 71 (gk a b i).length (lf Fd.c (gk a b i))))]⟩) (fun i=>i ≤ a.length) (fun i=>a.length - i) (0) (Nat.zero_le _) ⟨⟨zy,zy,trivial⟩,⟨u9,trivial⟩⟩ ?_
 rintro i hi
 have hlen:=a5o a b i
 refine a7 ?_;refine sx7 ?_;(iterate 4 refine qy ?_);refine a6 ?_;refine a8 _ rfl (fun r0=>?_) (fun r0=>?_)
 ·
  have h0:=of_decide_eq_true r0
  try simp only [ty] at h0
  refine aa ?_;refine a7 ?_;refine af ?_;refine sx7 ?_;refine qy ?_;refine a6 ?_;refine a7 ?_;refine sx7 ?_;refine qy ?_;refine a6 ?_;refine af ?_
  refine ap (ι:=Nat) ⟨[(0,some _),(1,some _),(5,some _),(6,some _)],[(900,some _)]⟩ ⟨⟨c9,c9,c9,c9,trivial⟩,⟨u9,trivial⟩⟩ (fun k=>⟨[(7,some (vB (n5 a b i k))),(8,some (vI k))],[]⟩) (fun k=>k ≤ b.length) (fun k=>b.length - k) (0) (Nat.zero_le _) ⟨⟨⟨_,rfl,(cob rfl)⟩,zy,trivial⟩,trivial⟩ ?_
  rintro k hk
  refine a7 ?_;refine sx7 ?_;(iterate 4 refine qy ?_);refine a6 ?_;refine a8 _ rfl (fun r1=>?_) (fun r1=>?_)
  ·
   have h1:=of_decide_eq_true r1
   try simp only [ty] at h1
   refine aa ?_;refine a7 ?_;refine af ?_;refine aw (E:=b5) ae al [0,1,2,3,4,5,6,7,8,9,10,11,12] ?_;(iterate 2 refine qy ?_);refine b6 rfl rfl (fun r2=>?_) (fun r2=>?_)
   ·
    have h2:=r2
    (iterate 9 refine k9 (gtf r2) ?_);refine rq rfl rfl rfl rfl rfl ?_ (hp:=r2);refine qy ?_;refine a6 ?_;refine ⟨by kernel_rfl, ?_⟩;refine gy ?_;(iterate 3 refine qy ?_);refine a6 ?_;refine ⟨k + 1, ?_, ?_, ?_⟩
    · show k + 1 ≤ _;omega
    · first | omega | (dsimp only;omega)
    · exact ⟨⟨⟨_,rfl,(cob (by rw [a2b (by omega)];simp_all [Fd.eq_iff,fc]))⟩,zy,c9,c9,c9,c9,trivial⟩,⟨u9,trivial⟩⟩
   ·
    have h2:=r2
    (iterate 9 refine qy ?_ (hg:=(gff r2)));(iterate 2 refine qy ?_);refine a6 ?_;refine ⟨by kernel_rfl, ?_⟩;refine gy ?_;(iterate 3 refine qy ?_);refine a6 ?_;refine ⟨k + 1, ?_, ?_, ?_⟩
    · show k + 1 ≤ _;omega
    · first | omega | (dsimp only;omega)
    · exact ⟨⟨⟨_,rfl,(cob (by rw [a2b (by omega)];simp_all [Fd.eq_iff,fc]))⟩,zy,c9,c9,c9,c9,trivial⟩,⟨u9,trivial⟩⟩
  ·
   have h1:=of_decide_eq_false r1
   try simp only [ty] at h1
   obtain rfl:k = b.length:=by omega
   refine am ?_;refine sx7 ?_;(iterate 2 refine qy ?_);refine a6 ?_;refine a8 _ rfl (fun r3=>?_) (fun r3=>?_)
   ·
    have h3:=r3
    have h3:=az h3
    have hf:=az r3
    refine gy ?_;(iterate 5 refine qy ?_);refine m9 0 ?_;refine ra 1 true rfl rfl rfl rfl rfl rfl ?_;refine qy ?_;refine a6 ?_;refine gy ?_;(iterate 3 refine qy ?_);refine a6 ?_
    first | (refine ⟨i + 1, ?_, ?_, ?_⟩
             · show i + 1 ≤ _;omega
             · first | omega | (dsimp only;omega)
             · exact ⟨⟨⟨_,rfl,(dj (tl (by omega) hf))⟩,zy,c9,c9,trivial⟩,⟨⟨_,rfl,(j0 (tl (by omega) hf) (CoP.refl _) (CoP.refl _))⟩,trivial⟩⟩)
          | (refine ⟨i + 1, ?_, ?_, ?_⟩
             · show i + 1 ≤ _;omega
             · first | omega | (dsimp only;omega)
             · exact ⟨⟨⟨_,rfl,(cw (ub (by omega) hf))⟩,zy,c9,c9,trivial⟩,⟨⟨_,rfl,(cg (ub (by omega) hf))⟩,trivial⟩⟩)
   ·
    have h3:=r3
    have h3:=b4 h3
    have hf:=b4 r3
    refine aa ?_;refine gy ?_;(iterate 3 refine qy ?_);refine a6 ?_
    first | (refine ⟨i + 1, ?_, ?_, ?_⟩
             · show i + 1 ≤ _;omega
             · first | omega | (dsimp only;omega)
             · exact ⟨⟨⟨_,rfl,(dj (tl (by omega) hf))⟩,zy,c9,c9,trivial⟩,⟨⟨_,rfl,(j0 (tl (by omega) hf) (CoP.refl _) (CoP.refl _))⟩,trivial⟩⟩)
          | (refine ⟨i + 1, ?_, ?_, ?_⟩
             · show i + 1 ≤ _;omega
             · first | omega | (dsimp only;omega)
             · exact ⟨⟨⟨_,rfl,(cw (ub (by omega) hf))⟩,zy,c9,c9,trivial⟩,⟨⟨_,rfl,(cg (ub (by omega) hf))⟩,trivial⟩⟩)
 ·
  have h0:=of_decide_eq_false r0
  try simp only [ty] at h0
  obtain rfl:i = a.length:=by omega
  refine am ?_;refine a7 ?_;refine dh 5 rfl rfl rfl ?_;refine gy ?_;(iterate 2 refine qy ?_);refine a6 ?_
  exact hx8 rfl rfl rfl (⟨CoC.one (CoP.of_eq (by rw [a41 (Nat.le_refl _)];rfl)),trivial⟩)
theorem aj6:ai Tryz.prog 95:=⟨Tryz.f95,Tryz.func95,by kernel_rfl,by kernel_rfl⟩
theorem aba (a b:List Fd) (ha:a.length ≤ 68719476736) (hb:b.length ≤ 68719476736):ak Tryz.prog 95 [pP (fdl a),pP (fdl b)] (av [pP (fdl (en a b))]):=by
 refine ag (nt:=24) ae Tryz.func95 rfl rfl l9 ?_;refine sx7 ?_;refine qy ?_;refine a6 ?_;refine sx7 ?_;refine qy ?_;refine a6 ?_;refine a7 ?_;refine sx7 ?_;(iterate 3 refine qy ?_);refine a6 ?_
 refine af ?_;refine du 5 900 true 2 71 (lf Fd.c []) (by decide) rfl (CoP.sl rfl (.inr rfl) (fun h=>h) (fun i j hi _=>absurd hi (Nat.not_lt_zero i))) (.inr rfl) rfl ?_
 refine ap (ι:=Nat) ⟨[(1,some _),(8,some _),(9,some _)],[]⟩ ⟨⟨c9,c9,c9,trivial⟩,trivial⟩ (fun i=>⟨[(5,some (.v (.one (.ref 900 (gk a b i).length)))),(10,some (vI i))],[(900,some (.arr true 2 71 (gk a b i).length (lf Fd.c (gk a b i))))]⟩) (fun i=>i ≤ a.length) (fun i=>a.length - i) (0) (Nat.zero_le _) ⟨⟨zy,zy,trivial⟩,⟨u9,trivial⟩⟩ ?_
 rintro i hi
 have hlen:=a5o a b i
 refine sx7 ?_;refine qy ?_;refine a6 ?_;refine a7 ?_;refine a8 _ rfl (fun r0=>?_) (fun r0=>?_)
 ·
  have h0:=of_decide_eq_true r0
  try simp only [ty] at h0
  refine aa ?_;refine a7 ?_;refine af ?_;refine sx7 ?_;(iterate 2 refine qy ?_);refine m9 0 ?_;refine s9 ?_;refine a6 ?_;refine sx7 ?_;(iterate 2 refine qy ?_)
  refine rc rfl rfl rfl rfl rfl rfl ann (avr b (a.getD i default)) (CoL.refl _) rfl rfl ?_;refine qy ?_;refine a6 ?_;refine a8 _ rfl (fun r1=>?_) (fun r1=>?_)
  ·
   have h1:=r1
   have h1:=az h1
   have hf:=az r1
   refine gy ?_;(iterate 2 refine qy ?_);refine m9 1 ?_;refine ra 2 true rfl rfl rfl rfl rfl rfl ?_;refine qy ?_;refine a6 ?_;refine gy ?_;(iterate 2 refine qy ?_);refine a6 ?_
   first | (refine ⟨i + 1, ?_, ?_, ?_⟩
            · show i + 1 ≤ _;omega
            · first | omega | (dsimp only;omega)
            · exact ⟨⟨⟨_,rfl,(dj (vh (by omega) hf))⟩,zy,c9,c9,c9,trivial⟩,⟨⟨_,rfl,(j0 (vh (by omega) hf) (CoP.refl _) (CoP.refl _))⟩,trivial⟩⟩)
         | (refine ⟨i + 1, ?_, ?_, ?_⟩
            · show i + 1 ≤ _;omega
            · first | omega | (dsimp only;omega)
            · exact ⟨⟨⟨_,rfl,(cw (uq (by omega) hf))⟩,zy,c9,c9,c9,trivial⟩,⟨⟨_,rfl,(cg (uq (by omega) hf))⟩,trivial⟩⟩)
  ·
   have h1:=r1
   have h1:=b4 h1
   have hf:=b4 r1
   refine aa ?_;refine gy ?_;(iterate 2 refine qy ?_);refine a6 ?_
   first | (refine ⟨i + 1, ?_, ?_, ?_⟩
            · show i + 1 ≤ _;omega
            · first | omega | (dsimp only;omega)
            · exact ⟨⟨⟨_,rfl,(dj (vh (by omega) hf))⟩,zy,c9,c9,c9,trivial⟩,⟨⟨_,rfl,(j0 (vh (by omega) hf) (CoP.refl _) (CoP.refl _))⟩,trivial⟩⟩)
         | (refine ⟨i + 1, ?_, ?_, ?_⟩
            · show i + 1 ≤ _;omega
            · first | omega | (dsimp only;omega)
            · exact ⟨⟨⟨_,rfl,(cw (uq (by omega) hf))⟩,zy,c9,c9,c9,trivial⟩,⟨⟨_,rfl,(cg (uq (by omega) hf))⟩,trivial⟩⟩)
 ·
  have h0:=of_decide_eq_false r0
  try simp only [ty] at h0
  obtain rfl:i = a.length:=by omega
  refine am ?_;refine a7 ?_;refine dh 5 rfl rfl rfl ?_;refine gy ?_;(iterate 2 refine qy ?_);refine a6 ?_
  exact hx8 rfl rfl rfl (⟨CoC.one (CoP.of_eq (by rw [a41 (Nat.le_refl _)];rfl)),trivial⟩)
theorem agi:ai Tryz.prog 39:=⟨Tryz.f39,Tryz.func39,by kernel_rfl,by kernel_rfl⟩
theorem am6 (l:List UInt8) (hl:l.length ≤ 1000000):ak Tryz.prog 39 [pP (u8s l)] (av [pP (vals (sk l))]):=by
 refine ag (nt:=20) ae Tryz.func39 rfl rfl l9 ?_;refine sx7 ?_;refine qy ?_;refine a6 ?_;refine sx7 ?_;refine qy ?_;refine a6 ?_;refine a7 ?_;refine sx7 ?_;refine qy ?_;refine a6 ?_
 refine af ?_;refine du 3 900 true 3 81 (lf Val.c (sk l)) (by decide) rfl (CoP.sl rfl (.inr rfl) (fun h=>h) (fun i j hi _=>absurd hi (Nat.not_lt_zero i))) (.inr rfl) rfl ?_
 refine ap (ι:=Nat) ⟨[(0,some _)],[]⟩ ⟨⟨c9,trivial⟩,trivial⟩ (fun i=>⟨[(3,some (.v (.one (.ref 900 i)))),(4,some (vI i))],[(900,some (.arr true 3 81 i (lf Val.c (sk l))))]⟩) (fun i=>i ≤ l.length) (fun i=>l.length - i) (0) (Nat.zero_le _) ⟨⟨zy,zy,trivial⟩,⟨u9,trivial⟩⟩ ?_
 rintro i hi
 refine a7 ?_;refine sx7 ?_;(iterate 4 refine qy ?_);refine a6 ?_;refine a8 _ rfl (fun r0=>?_) (fun r0=>?_)
 ·
  have h0:=of_decide_eq_true r0
  try simp only [ty] at h0
  refine aa ?_;refine a7 ?_;refine af ?_;refine gy ?_;(iterate 5 refine qy ?_);refine rc rfl rfl rfl rfl rfl rfl a4l (c49 _ (by omega)) (CoL.refl _) rfl rfl ?_;refine m9 0 ?_
  refine ra 1 true rfl rfl rfl rfl rfl rfl ?_;refine qy ?_;refine a6 ?_;refine gy ?_;(iterate 3 refine qy ?_);refine a6 ?_;refine ⟨i + 1, ?_, ?_, ?_⟩
  · show i + 1 ≤ _;omega
  · first | omega | (dsimp only;omega)
  · exact ⟨⟨zy,zy,c9,trivial⟩,⟨⟨_,rfl,(kz (fun h=>h) (by intro j hj;show CoP _ (Val.c ((sk l).getD i default) j);rw [agb (by omega)];revert j;exact lt3 (CoP.refl _) (CoP.refl _) (CoP.refl _)))⟩,trivial⟩⟩
 ·
  have h0:=of_decide_eq_false r0
  try simp only [ty] at h0
  obtain rfl:i = l.length:=by omega
  refine am ?_;refine a7 ?_;refine dh 3 rfl rfl rfl ?_;refine gy ?_;(iterate 2 refine qy ?_);refine a6 ?_
  exact hx8 rfl rfl rfl (⟨CoC.one (CoP.sl (ajc _) (.inl rfl) (fun h=>h) (fun _ _ _ _=>CoP.refl _)),trivial⟩)
theorem agl:ai Tryz.prog 21:=⟨Tryz.f21,Tryz.func21,by kernel_rfl,by kernel_rfl⟩
theorem aa3 (t:Tbl) (o:MOp) (hn:t.attrs.length ≤ 16):ak Tryz.prog 21 [t.pc,o.pc] (av [(opT t o).pc,pI (opE t o)]):=by
 refine ag (nt:=56) ae Tryz.func21 rfl rfl l9 ?_
 have hk:=o.kind.toNat_lt
 have hid:=o.id.toNat_lt
 refine sx7 ?_;refine m9 0 ?_;refine m9 1 ?_;refine m9 2 ?_;refine qy ?_;refine a6 ?_;refine sx7 ?_;(iterate 4 refine qy ?_);refine a6 ?_;refine sx7 ?_;refine qy ?_;refine m9 3 ?_;refine s9 ?_;refine qy ?_
 refine a6 ?_;refine a7 ?_;refine sx7 ?_;(iterate 3 refine qy ?_);refine a6 ?_;refine af ?_;refine sx7 ?_;(iterate 2 refine qy ?_);refine a6 ?_;refine a8 _ rfl (fun r0=>?_) (fun r0=>?_)
 ·
  have h0:=of_decide_eq_true r0
  try simp only [ty] at h0
  refine gy ?_;(iterate 5 refine qy ?_);refine rc rfl rfl rfl rfl rfl rfl ast (c74 t (ia o)) (⟨CoC.refl _,cci (by unfold ia;omega),trivial⟩) rfl rfl ?_;(iterate 3 refine qy ?_);refine s9 ?_;refine qy ?_
  refine a6 ?_;refine a7 ?_;refine sx7 ?_;(iterate 2 refine qy ?_);refine a6 ?_;refine a8 _ rfl (fun r1=>?_) (fun r1=>?_)
  ·
   have h1:=r1
   have h1:=of_decide_eq_false (az h1)
   try simp only [ty] at h1
   refine sx7 ?_;(iterate 2 refine qy ?_);refine s9 ?_;refine qy ?_;refine a6 ?_;refine au ?_;refine ⟨.inr rfl, ?_⟩
   obtain ⟨hE,hT⟩:opE t o = _ ∧ opT t o = _:=by first | exact op2 (t:=t) (o:=o) (by omega) | exact op3 (t:=t) (o:=o) (by omega) (by omega) | exact op0 (t:=t) (o:=o) (by omega) (by omega)
   rw [hE,hT]
   exact f9 rfl rfl (⟨CoC.of_eq (congrArg Tbl.pc (by first | rfl | exact (if_pos (by omega)).symm | exact (if_neg (by omega)).symm | omega)),cci (by first | rfl | exact (if_pos (by omega)).symm | exact (if_neg (by omega)).symm | omega),trivial⟩)
  ·
   have h1:=r1
   have h1:=of_decide_eq_true (b4 h1)
   try simp only [ty] at h1
   refine aa ?_;refine sx7 ?_;refine qy ?_;refine s9 ?_;refine qy ?_;refine a6 ?_;refine au ?_;refine ⟨.inr rfl, ?_⟩
   obtain ⟨hE,hT⟩:opE t o = _ ∧ opT t o = _:=by first | exact op2 (t:=t) (o:=o) (by omega) | exact op3 (t:=t) (o:=o) (by omega) (by omega) | exact op0 (t:=t) (o:=o) (by omega) (by omega)
   rw [hE,hT]
   exact f9 rfl rfl (⟨CoC.of_eq (congrArg Tbl.pc (by first | rfl | exact (if_pos (by omega)).symm | exact (if_neg (by omega)).symm | omega)),cci (by first | rfl | exact (if_pos (by omega)).symm | exact (if_neg (by omega)).symm | omega),trivial⟩)
 ·
  have h0:=of_decide_eq_false r0
  try simp only [ty] at h0
  refine sx7 ?_;(iterate 2 refine qy ?_);refine a6 ?_;refine a8 _ rfl (fun r2=>?_) (fun r2=>?_)
  ·
   have h2:=of_decide_eq_true r2
   try simp only [ty] at h2
   refine sx7 ?_;(iterate 2 refine qy ?_);refine rc rfl rfl rfl rfl rfl rfl agx (aed t.attrs.length o hn) (CoL.refl _) rfl rfl ?_;(iterate 3 refine qy ?_);refine m9 4 ?_;refine m9 5 ?_;(iterate 2 refine s9 ?_)
   refine a6 ?_;refine gy ?_;(iterate 3 refine qy ?_);refine rc rfl rfl rfl rfl rfl rfl ash (c63 t (ia o) (ot t.attrs.length o) (mj o)) (CoL.refl _) rfl rfl ?_;(iterate 3 refine qy ?_);refine s9 ?_
   refine qy ?_;refine a6 ?_;refine a7 ?_;refine sx7 ?_;(iterate 2 refine qy ?_);refine a6 ?_;refine a8 _ rfl (fun r3=>?_) (fun r3=>?_)
   ·
    have h3:=r3
    have h3:=of_decide_eq_false (az h3)
    try simp only [ty] at h3
    refine sx7 ?_;(iterate 2 refine qy ?_);refine s9 ?_;refine qy ?_;refine a6 ?_;refine au ?_;refine ⟨.inr rfl, ?_⟩
    obtain ⟨hE,hT⟩:opE t o = _ ∧ opT t o = _:=by first | exact op2 (t:=t) (o:=o) (by omega) | exact op3 (t:=t) (o:=o) (by omega) (by omega) | exact op0 (t:=t) (o:=o) (by omega) (by omega)
    rw [hE,hT]
    exact f9 rfl rfl (⟨CoC.of_eq (congrArg Tbl.pc (by first | rfl | exact (if_pos (by omega)).symm | exact (if_neg (by omega)).symm | omega)),cci (by first | rfl | exact (if_pos (by omega)).symm | exact (if_neg (by omega)).symm | omega),trivial⟩)
   ·
    have h3:=r3
    have h3:=of_decide_eq_true (b4 h3)
    try simp only [ty] at h3
    refine aa ?_;refine sx7 ?_;refine qy ?_;refine s9 ?_;refine qy ?_;refine a6 ?_;refine au ?_;refine ⟨.inr rfl, ?_⟩
    obtain ⟨hE,hT⟩:opE t o = _ ∧ opT t o = _:=by first | exact op2 (t:=t) (o:=o) (by omega) | exact op3 (t:=t) (o:=o) (by omega) (by omega) | exact op0 (t:=t) (o:=o) (by omega) (by omega)
    rw [hE,hT]
    exact f9 rfl rfl (⟨CoC.of_eq (congrArg Tbl.pc (by first | rfl | exact (if_pos (by omega)).symm | exact (if_neg (by omega)).symm | omega)),cci (by first | rfl | exact (if_pos (by omega)).symm | exact (if_neg (by omega)).symm | omega),trivial⟩)
  ·
   have h2:=of_decide_eq_false r2
   try simp only [ty] at h2
   refine a7 ?_;refine aw (E:=b5) ae al [0,1,2,3,4,5,6,7,8] ?_;(iterate 3 refine qy ?_);refine rc rfl rfl rfl rfl rfl rfl ahn (ah1 t.attrs.length o hn) (CoL.refl _) rfl rfl ?_
   refine rc rfl rfl rfl rfl rfl rfl at1 (aui t (jh t.attrs.length o)) (CoL.refl _) rfl rfl ?_;(iterate 2 refine qy ?_);refine s9 ?_;refine qy ?_;refine a6 ?_;refine ⟨by kernel_rfl, ?_⟩;refine au ?_
   refine ⟨.inr rfl, ?_⟩
   obtain ⟨hE,hT⟩:opE t o = _ ∧ opT t o = _:=by first | exact op2 (t:=t) (o:=o) (by omega) | exact op3 (t:=t) (o:=o) (by omega) (by omega) | exact op0 (t:=t) (o:=o) (by omega) (by omega)
   rw [hE,hT]
   exact f9 rfl rfl (⟨CoC.of_eq (congrArg Tbl.pc (by first | rfl | exact (if_pos (by omega)).symm | exact (if_neg (by omega)).symm | omega)),cci (by first | rfl | exact (if_pos (by omega)).symm | exact (if_neg (by omega)).symm | omega),trivial⟩)
theorem aeh:ai Tryz.prog 168:=⟨Tryz.f168,Tryz.func168,by kernel_rfl,by kernel_rfl⟩
theorem ai5 (a:Int):ak Tryz.prog 168 [pI a] (av [pB false]):=by
 refine ag (nt:=6) ae Tryz.func168 rfl rfl l9 ?_;refine sx7 ?_;refine qy ?_;refine a6 ?_;refine sx7 ?_;(iterate 4 refine qy ?_);refine a6 ?_
 exact hx8 rfl rfl rfl (⟨ccb (by simp),trivial⟩)
theorem anw:ai Tryz.prog 152:=⟨Tryz.f152,Tryz.func152,by kernel_rfl,by kernel_rfl⟩
theorem atl (a b:Int):ak Tryz.prog 152 [pI a,pI b] (av [pI (fu a b)]):=by
 refine ag (nt:=20) ae Tryz.func152 rfl rfl l9 ?_;refine sx7 ?_;refine qy ?_;refine a6 ?_;refine sx7 ?_;refine qy ?_;refine rc rfl rfl rfl rfl rfl rfl aeh (ai5 _) (CoL.refl _) rfl rfl ?_;refine qy ?_
 refine a6 ?_;refine sx7 ?_;refine qy ?_;refine rc rfl rfl rfl rfl rfl rfl aeh (ai5 _) (CoL.refl _) rfl rfl ?_;refine qy ?_;refine a6 ?_;refine a7 ?_;refine sx7 ?_;refine qy ?_;refine a6 ?_
 refine a8 _ rfl (fun e=>by cases e) (fun _=>?_);refine aa ?_;refine a7 ?_;refine sx7 ?_;refine qy ?_;refine a6 ?_;refine a8 _ rfl (fun e=>by cases e) (fun _=>?_);refine aa ?_
 refine a7 ?_;refine sx7 ?_;(iterate 3 refine qy ?_);refine a6 ?_;refine a8 _ rfl (fun r0=>?_) (fun r0=>?_)
 ·
  have h0:=of_decide_eq_true r0
  try simp only [ty] at h0
  refine sx7 ?_;refine qy ?_;refine a6 ?_
  exact hx8 rfl rfl rfl (⟨cci (by unfold fu;first | (rw [if_pos (by omega)]) | (rw [if_neg (by omega),if_pos (by omega)]) | (rw [if_neg (by omega),if_neg (by omega)])),trivial⟩)
 ·
  have h0:=of_decide_eq_false r0
  try simp only [ty] at h0
  refine aa ?_;refine a7 ?_;refine sx7 ?_;(iterate 3 refine qy ?_);refine a6 ?_;refine a8 _ rfl (fun r1=>?_) (fun r1=>?_)
  ·
   have h1:=of_decide_eq_true r1
   try simp only [ty] at h1
   refine sx7 ?_;refine qy ?_;refine a6 ?_
   exact hx8 rfl rfl rfl (⟨cci (by unfold fu;first | (rw [if_pos (by omega)]) | (rw [if_neg (by omega),if_pos (by omega)]) | (rw [if_neg (by omega),if_neg (by omega)])),trivial⟩)
  ·
   have h1:=of_decide_eq_false r1
   try simp only [ty] at h1
   refine aa ?_;refine sx7 ?_;refine qy ?_;refine a6 ?_
   exact hx8 rfl rfl rfl (⟨cci (by unfold fu;first | (rw [if_pos (by omega)]) | (rw [if_neg (by omega),if_pos (by omega)]) | (rw [if_neg (by omega),if_neg (by omega)])),trivial⟩)
theorem an2:ai Tryz.prog 153:=⟨Tryz.f153,Tryz.func153,by kernel_rfl,by kernel_rfl⟩
theorem anz (a b:ByteArray):ak Tryz.prog 153 [pS a,pS b] (av [pI (ly a b)]):=by
 refine ag (nt:=8) ae Tryz.func153 rfl rfl l9 ?_;refine sx7 ?_;refine qy ?_;refine a6 ?_;refine sx7 ?_;(iterate 2 refine qy ?_);refine rc rfl rfl rfl rfl rfl rfl an7 (aom _ _) (CoL.refl _) rfl rfl ?_
 refine qy ?_;refine a6 ?_
 exact hx8 rfl rfl rfl (CoL.refl _)
theorem ao5:ai Tryz.prog 125:=⟨Tryz.f125,Tryz.func125,by kernel_rfl,by kernel_rfl⟩
theorem aor (a b:Val):ak Tryz.prog 125 [a.pc,b.pc] (av [pI (kj a b)]):=by
 refine ag (nt:=22) ae Tryz.func125 rfl rfl l9 ?_;refine sx7 ?_;refine m9 0 ?_;refine m9 1 ?_;refine qy ?_;refine a6 ?_;refine a7 ?_
 refine aw (E:=b5) ae al [0,1,2,3,4,5,6,7,8,9,10,11,12,13,14,15,16,17] ?_;(iterate 4 refine qy ?_);refine rc rfl rfl rfl rfl rfl rfl a9c (af0 _ _) (CoL.refl _) rfl rfl ?_
 (iterate 4 refine qy ?_);refine rc rfl rfl rfl rfl rfl rfl anw (atl _ _) (CoL.refl _) rfl rfl ?_;(iterate 4 refine qy ?_);refine rc rfl rfl rfl rfl rfl rfl an2 (anz _ _) (CoL.refl _) rfl rfl ?_;refine m9 2 ?_
 refine rc rfl rfl rfl rfl rfl rfl abm (cOr [fu a.kind b.kind,fu a.num b.num,ly a.str b.str]) (⟨CoC.one (amy (CoP.refl _) (CoP.refl _) (CoP.refl _)),trivial⟩) rfl rfl ?_;refine qy ?_;refine a6 ?_
 refine ⟨by kernel_rfl, ?_⟩
 exact hx8 rfl rfl rfl (⟨cci (an8 a b),trivial⟩)
theorem ati:ai Tryz.prog 94:=⟨Tryz.f94,Tryz.func94,by kernel_rfl,by kernel_rfl⟩
theorem ar8 (a b:Row) (hab:b.vals.length = a.vals.length) (hn:a.vals.length ≤ 16):ak Tryz.prog 94 [a.pc,b.pc] (av [pA (agR a b)]):=by
 refine ag (nt:=30) ae Tryz.func94 rfl rfl l9 ?_;refine sx7 ?_;refine m9 0 ?_;refine m9 1 ?_;refine qy ?_;refine a6 ?_;refine sx7 ?_;refine qy ?_;refine a6 ?_;refine a7 ?_;refine sx7 ?_
 (iterate 4 refine qy ?_);refine a6 ?_;refine af ?_
 refine ap (ι:=Nat) ⟨[(3,some _),(9,some _),(10,some _)],[(1,some _)]⟩ ⟨⟨c9,c9,c9,trivial⟩,⟨u9,trivial⟩⟩ (fun i=>⟨[(5,some (vA (agT a b i))),(11,some (vI i))],[]⟩) (fun i=>i ≤ a.vals.length) (fun i=>a.vals.length - i) (0) (Nat.zero_le _) ⟨⟨zy,zy,trivial⟩,trivial⟩ ?_
 rintro i hi
 refine sx7 ?_;refine qy ?_;refine a6 ?_;refine a7 ?_;refine a8 _ rfl (fun r0=>?_) (fun r0=>?_)
 ·
  have h0:=of_decide_eq_true r0
  try simp only [ty] at h0
  refine aa ?_;refine a7 ?_;refine af ?_;refine sx7 ?_;(iterate 3 refine qy ?_);refine m9 2 ?_;refine qy ?_;refine s9 ?_;refine a6 ?_;refine a7 ?_
  refine aw (E:=b5) ae al [0,1,2,3,4,5,6,7] ?_;(iterate 6 refine qy ?_);refine rc rfl rfl rfl rfl rfl rfl ao5 (aor _ _) (CoL.refl _) rfl rfl ?_;refine qy ?_;refine a6 ?_
  refine ⟨by kernel_rfl, ?_⟩;refine a8 _ rfl (fun r1=>?_) (fun r1=>?_)
  ·
   have h1:=of_decide_eq_true r1
   try simp only [ty] at h1
   refine gy ?_;(iterate 5 refine qy ?_);refine a6 ?_;refine gy ?_;(iterate 2 refine qy ?_);refine a6 ?_
   first | (refine ⟨i + 1, ?_, ?_, ?_⟩
            · show i + 1 ≤ _;omega
            · first | omega | (dsimp only;omega)
            · exact ⟨⟨⟨_,rfl,(by simp only [Int.toNat_natCast];exact ij (xo (by assumption)))⟩,zy,c9,c9,c9,trivial⟩,⟨u9,trivial⟩⟩)
         | (refine ⟨i + 1, ?_, ?_, ?_⟩
            · show i + 1 ≤ _;omega
            · first | omega | (dsimp only;omega)
            · exact ⟨⟨⟨_,rfl,(ij (by rw [a94 (by assumption)]))⟩,zy,c9,c9,c9,trivial⟩,⟨u9,trivial⟩⟩)
  ·
   have h1:=of_decide_eq_false r1
   try simp only [ty] at h1
   refine aa ?_;refine gy ?_;(iterate 2 refine qy ?_);refine a6 ?_
   first | (refine ⟨i + 1, ?_, ?_, ?_⟩
            · show i + 1 ≤ _;omega
            · first | omega | (dsimp only;omega)
            · exact ⟨⟨⟨_,rfl,(by simp only [Int.toNat_natCast];exact ij (xo (by assumption)))⟩,zy,c9,c9,c9,trivial⟩,⟨u9,trivial⟩⟩)
         | (refine ⟨i + 1, ?_, ?_, ?_⟩
            · show i + 1 ≤ _;omega
            · first | omega | (dsimp only;omega)
            · exact ⟨⟨⟨_,rfl,(ij (by rw [a94 (by assumption)]))⟩,zy,c9,c9,c9,trivial⟩,⟨u9,trivial⟩⟩)
 ·
  have h0:=of_decide_eq_false r0
  try simp only [ty] at h0
  obtain rfl:i = a.vals.length:=by omega
  refine am ?_;refine sx7 ?_;(iterate 2 refine qy ?_);refine a6 ?_
  exact hx8 rfl rfl rfl (CoL.refl _)
end Go.Hx
end
section
namespace Go.Hx
open Go.Proofs
set_option maxRecDepth 100000
theorem a3y:ai Tryz.prog 51:=⟨Tryz.f51,Tryz.func51,by kernel_rfl,by kernel_rfl⟩
theorem a5s (x:MSt) (r:Row) (y:Int) (hy:y = 1 ∨ y = -1) (ht:TOk x.t) (hr:r.vals.length = x.t.attrs.length) (hc:∀ s, -1000000 ≤ x.c s ∧ x.c s ≤ 1000000):cj Tryz.prog 51 [.one (.ptr 1000 0),r.pc.toH, .one (.p (.raw (.int .i64 (y))))] x.objs (.tup []) ({ x with c:=ez x.t.rows r y x.c }:MSt).objs [1000]:=by
 refine d7 (nt:=48) ae Tryz.func51 rfl rfl l9 rfl ?_
 have hnr:=ht.nr
 have hna:=ht.na
 refine sx7 ?_;refine m9 0 ?_;refine a6 ?_;refine sx7 ?_;(iterate 7 refine qy ?_);refine a6 ?_;refine af ?_
 refine ap (ι:=Nat) ⟨[(0,some _),(2,some _),(4,some _),(13,some _),(14,some _)],[(1000,some _),(0,some _)]⟩ ⟨⟨c9,c9,c9,c9,c9,trivial⟩,⟨u9,u9,trivial⟩⟩ (fun i=>⟨[(15,some (vI i))],[(901,some (.mp (.int .u32) 4294967296 (mpF (ez (x.t.rows.take i) r y x.c))))]⟩) (fun i=>i ≤ x.t.rows.length) (fun i=>x.t.rows.length - i) (0) (Nat.zero_le _) ⟨⟨zy,trivial⟩,⟨⟨_,rfl,(qh (by rw [List.take_zero,aii]))⟩,trivial⟩⟩ ?_
 rintro i hi
 refine sx7 ?_;refine qy ?_;refine a6 ?_;refine a7 ?_;refine a8 _ rfl (fun r0=>?_) (fun r0=>?_)
 ·
  have h0:=of_decide_eq_true r0
  try simp only [ty] at h0
  refine aa ?_;refine a7 ?_;refine af ?_;refine sx7 ?_;(iterate 2 refine qy ?_);refine m9 1 ?_;refine s9 ?_;refine a6 ?_;refine a7 ?_;refine sx7 ?_;(iterate 5 refine qy ?_);refine a6 ?_
  refine a8 _ rfl (fun r1=>?_) (fun r1=>?_)
  ·
   have h1:=of_decide_eq_true r1
   try simp only [ty] at h1
   have hid:(x.t.rows.getD i default).id = r.id:=h1
   refine am ?_;refine gy ?_;(iterate 2 refine qy ?_);refine a6 ?_
   first | (refine ⟨i + 1, ?_, ?_, ?_⟩
            · show i + 1 ≤ _;omega
            · first | omega | (dsimp only;omega)
            · exact ⟨⟨zy,c9,c9,c9,c9,c9,trivial⟩,⟨⟨_,rfl,(qh (by rw [a0m (by omega) hid]))⟩,u9,u9,trivial⟩⟩)
         | (refine ⟨i + 1, ?_, ?_, ?_⟩
            · show i + 1 ≤ _;omega
            · first | omega | (dsimp only;omega)
            · exact ⟨⟨zy,c9,c9,c9,c9,c9,trivial⟩,⟨⟨_,rfl,(qh ((a71 (by assumption)).trans (congrArg mpF (x5 (by omega) hid))))⟩,u9,u9,trivial⟩⟩)
         | (refine ⟨i + 1, ?_, ?_, ?_⟩
            · show i + 1 ≤ _;omega
            · first | omega | (dsimp only;omega)
            · exact ⟨⟨zy,c9,c9,c9,c9,c9,trivial⟩,⟨⟨_,rfl,(qh ((a73 (by assumption)).trans (congrArg mpF (x5 (by omega) hid))))⟩,u9,u9,trivial⟩⟩)
  ·
   have h1:=of_decide_eq_false r1
   try simp only [ty] at h1
   have hid:¬ (x.t.rows.getD i default).id = r.id:=h1
   refine aa ?_;refine sx7 ?_;(iterate 2 refine qy ?_)
   refine rc rfl rfl rfl rfl rfl rfl ati (ar8 (x.t.rows.getD i default) r (by rw [ht.width (by omega),hr]) (by rw [ht.width (by omega)];omega)) (CoL.refl _) rfl rfl ?_;refine qy ?_;refine a6 ?_;refine sx7 ?_
   (iterate 5 refine qy ?_)
   refine rq (out:=⟨_, .v (.one (.p (nI ((ez (x.t.rows.take i) r y x.c) (agR (x.t.rows.getD i default) r)))))⟩) rfl rfl rfl (congrArg (fun z=>some (Out.mk _ (HR.v (HC.one (HV.p z))))) (asy (ez (x.t.rows.take i) r y x.c) (agR (x.t.rows.getD i default) r))) rfl ?_ (hp:=⟨rfl,rfl,wfA _⟩)
   refine qy ?_
   refine rq rfl rfl rfl rfl rfl ?_ (hp:=by have h1:=hc (agR (x.t.rows.getD i default) r);have h2:=aob (l:=x.t.rows.take i) (r:=r) (c:=x.c) hy (agR (x.t.rows.getD i default) r);rw [List.length_take] at h2;simp only [inR,jv,lg];omega)
   refine rs rfl rfl rfl rfl rfl ?_ (hp:=⟨rfl,⟨rfl,wfA _⟩,by simp only [maxLen];omega⟩);refine a6 ?_;refine arq 901 rfl ?_;refine sx7 ?_;(iterate 5 refine qy ?_)
   refine rq (out:=⟨_, .v (.one (.p (nI ((ez (x.t.rows.take i) r y x.c) (agR (x.t.rows.getD i default) r) + y))))⟩) rfl rfl rfl (congrArg (fun z=>some (Out.mk _ (HR.v (HC.one (HV.p z))))) (aj9 (mpF (ez (x.t.rows.take i) r y x.c)) (mkA (agR (x.t.rows.getD i default) r)) (nI ((ez (x.t.rows.take i) r y x.c) (agR (x.t.rows.getD i default) r) + y)) (.int .i64 0))) rfl ?_ (hp:=⟨rfl,rfl,wfA _⟩)
   refine qy ?_;refine a6 ?_;refine a8 _ rfl (fun r2=>?_) (fun r2=>?_)
   ·
    have h2:=of_decide_eq_true r2
    try simp only [ty] at h2
    refine fb [] [0,1,2,3,4,5] rfl ?_;refine gf (E:=b5) (L1:=[0,1,2,3,4]) (L2:=[5]) ae ?_;(iterate 5 refine qy ?_);refine a6 ?_
    refine ahy ae (k:=5) (L:=[]) rfl (okA (agR (x.t.rows.getD i default) r)) ?_;refine ic ?_;refine gy ?_;(iterate 2 refine qy ?_);refine a6 ?_
    first | (refine ⟨i + 1, ?_, ?_, ?_⟩
             · show i + 1 ≤ _;omega
             · first | omega | (dsimp only;omega)
             · exact ⟨⟨zy,c9,c9,c9,c9,c9,trivial⟩,⟨⟨_,rfl,(qh (by rw [a0m (by omega) hid]))⟩,u9,u9,trivial⟩⟩)
          | (refine ⟨i + 1, ?_, ?_, ?_⟩
             · show i + 1 ≤ _;omega
             · first | omega | (dsimp only;omega)
             · exact ⟨⟨zy,c9,c9,c9,c9,c9,trivial⟩,⟨⟨_,rfl,(qh ((a71 (by assumption)).trans (congrArg mpF (x5 (by omega) hid))))⟩,u9,u9,trivial⟩⟩)
          | (refine ⟨i + 1, ?_, ?_, ?_⟩
             · show i + 1 ≤ _;omega
             · first | omega | (dsimp only;omega)
             · exact ⟨⟨zy,c9,c9,c9,c9,c9,trivial⟩,⟨⟨_,rfl,(qh ((a73 (by assumption)).trans (congrArg mpF (x5 (by omega) hid))))⟩,u9,u9,trivial⟩⟩)
   ·
    have h2:=of_decide_eq_false r2
    try simp only [ty] at h2
    refine aa ?_;refine gy ?_;(iterate 2 refine qy ?_);refine a6 ?_
    first | (refine ⟨i + 1, ?_, ?_, ?_⟩
             · show i + 1 ≤ _;omega
             · first | omega | (dsimp only;omega)
             · exact ⟨⟨zy,c9,c9,c9,c9,c9,trivial⟩,⟨⟨_,rfl,(qh (by rw [a0m (by omega) hid]))⟩,u9,u9,trivial⟩⟩)
          | (refine ⟨i + 1, ?_, ?_, ?_⟩
             · show i + 1 ≤ _;omega
             · first | omega | (dsimp only;omega)
             · exact ⟨⟨zy,c9,c9,c9,c9,c9,trivial⟩,⟨⟨_,rfl,(qh ((a71 (by assumption)).trans (congrArg mpF (x5 (by omega) hid))))⟩,u9,u9,trivial⟩⟩)
          | (refine ⟨i + 1, ?_, ?_, ?_⟩
             · show i + 1 ≤ _;omega
             · first | omega | (dsimp only;omega)
             · exact ⟨⟨zy,c9,c9,c9,c9,c9,trivial⟩,⟨⟨_,rfl,(qh ((a73 (by assumption)).trans (congrArg mpF (x5 (by omega) hid))))⟩,u9,u9,trivial⟩⟩)
 ·
  have h0:=of_decide_eq_false r0
  try simp only [ty] at h0
  obtain rfl:i = x.t.rows.length:=by omega
  refine am ?_;refine ⟨.inl rfl, ?_⟩
  rw [List.take_length]
  exact ⟨_,_,rfl,(by (repeat' apply And.intro) <;> first | trivial | exact Nat.le_of_ble_eq_true rfl),CoR.refl _,⟨u9,u9,trivial⟩⟩
end Go.Hx
end

/- A part of the proof: Rb33 W1 W2. -/
import Derived.Test.YtaegkccfbmekbaaGreatPx15
import Derived.Test.YtaegkccfbmekbaaGreatPx21
import Derived.Test.YtaegkccfbmekbaaGreatPx26
set_option linter.all false
section
namespace Go.Hx
open Go.Proofs
theorem own:ownKnob Tryz.prog.godebug = none:=by kernel_rfl
theorem as4 {j:Nat} (h:j < 1):j = 0:=by omega
theorem rd5:Rd Tryz.prog 5 1 u8C:=(aur Tryz.underlying5).co id fun a j hj=>by obtain rfl:=as4 hj;exact CoP.refl _
theorem ak0:Rd Tryz.prog 42 1 ajm:=(a3h Tryz.underlying42 (by kernel_rfl) (by omega) rd5).co id fun a j hj=>by obtain rfl:=as4 hj;exact CoP.refl _
theorem aw0:Rd Tryz.prog 39 1 (akq 1 ajm):=a3h Tryz.underlying39 (by kernel_rfl) (by omega) ak0
theorem avj:Rd Tryz.prog 41 3 Rcp.c:=by
 intro H enc w sp held fuel cs x h
 obtain ⟨hl,n,hf⟩:=a0w Tryz.underlying41 h
 obtain ⟨y0,e0⟩:=hf 0 _ rfl
 obtain ⟨y1,e1⟩:=hf 1 _ rfl
 obtain ⟨y2,e2⟩:=hf 2 _ rfl
 obtain ⟨a0,h0⟩:=kn rd5 e0
 obtain ⟨a1,h1⟩:=kn rd5 e1
 obtain ⟨a2,h2⟩:=kn aw0 e2
 refine ⟨hl.trans (by kernel_rfl),(⟨a0,a1,a2⟩:Rcp),fun j hj=>?_⟩
 match j,hj with
 | 0,_=>exact h0 0 (by omega)
 | 1,_=>exact h1 0 (by omega)
 | 2,_=>exact h2 0 (by omega)
theorem att:Rd Tryz.prog 58 4 MOp.c:=by
 intro H enc w sp held fuel cs x h
 obtain ⟨hl,n,hf⟩:=a0w Tryz.underlying58 h
 obtain ⟨y0,e0⟩:=hf 0 _ rfl
 obtain ⟨y1,e1⟩:=hf 1 _ rfl
 obtain ⟨y2,e2⟩:=hf 2 _ rfl
 obtain ⟨y3,e3⟩:=hf 3 _ rfl
 obtain ⟨a0,h0⟩:=kn rd5 e0
 obtain ⟨a1,h1⟩:=kn rd5 e1
 obtain ⟨a2,h2⟩:=kn rd5 e2
 obtain ⟨a3,h3⟩:=kn ak0 e3
 refine ⟨hl.trans (by kernel_rfl),(⟨a0,a1,a2,a3⟩:MOp),fun j hj=>?_⟩
 match j,hj with
 | 0,_=>exact h0 0 (by omega)
 | 1,_=>exact h1 0 (by omega)
 | 2,_=>exact h2 0 (by omega)
 | 3,_=>exact h3 0 (by omega)
theorem avu:Rd Tryz.prog 52 1 (akq 4 MOp.c):=a3h Tryz.underlying52 (by kernel_rfl) (by omega) att
theorem avl:Rd Tryz.prog 54 2 Scr.c:=by
 intro H enc w sp held fuel cs x h
 obtain ⟨hl,n,hf⟩:=a0w Tryz.underlying54 h
 obtain ⟨y0,e0⟩:=hf 0 _ rfl
 obtain ⟨y1,e1⟩:=hf 1 _ rfl
 obtain ⟨a0,h0⟩:=kn rd5 e0
 obtain ⟨a1,h1⟩:=kn avu e1
 refine ⟨hl.trans (by kernel_rfl),(⟨a0,a1⟩:Scr),fun j hj=>?_⟩
 match j,hj with
 | 0,_=>exact h0 0 (by omega)
 | 1,_=>exact h1 0 (by omega)
theorem asv {W:World}:oz (fm W):=fun b off v hv=>by unfold a1t t6 at hv;simp at hv
theorem aeo:laidOutB Tryz.prog = true:=by kernel_rfl
theorem aub:Tryz.prog.readableRec 41 = true ∧ 41 < Tryz.prog.types.size:=⟨by kernel_rfl,of_decide_eq_true (by kernel_rfl)⟩
theorem av7:Tryz.prog.readableRec 42 = true ∧ 42 < Tryz.prog.types.size:=⟨by kernel_rfl,of_decide_eq_true (by kernel_rfl)⟩
theorem auu:Tryz.prog.readableRec 54 = true ∧ 54 < Tryz.prog.types.size:=⟨by kernel_rfl,of_decide_eq_true (by kernel_rfl)⟩
theorem auh:Tryz.prog.readableRec 58 = true ∧ 58 < Tryz.prog.types.size:=⟨by kernel_rfl,of_decide_eq_true (by kernel_rfl)⟩
end Go.Hx
end
section
namespace Go.Hx
open Go.Proofs
set_option maxRecDepth 100000
theorem xi:ai Tryz.prog 163:=⟨Tryz.f163,Tryz.func163,by kernel_rfl,by kernel_rfl⟩
theorem abb (a b:Int):al Tryz.prog 163 [pI a,pI b] (az [pI (sgn a b)]):=by
 refine ag (nt:=11) ae Tryz.func163 rfl rfl l9 ?_;refine sx7 ?_;refine qy ?_;refine a6 ?_;refine a7 ?_;refine sx7 ?_;(iterate 3 refine qy ?_);refine a6 ?_
 refine a8 _ rfl (fun r0=>?_) (fun r0=>?_)
 ·
  have h0:=of_decide_eq_true r0
  try simp only [ty] at h0
  refine sx7 ?_;refine qy ?_;refine a6 ?_
  exact hx8 rfl rfl rfl (⟨cci (by unfold sgn;rw [if_pos h0]),trivial⟩)
 ·
  have h0:=of_decide_eq_false r0
  try simp only [ty] at h0
  refine aa ?_;refine a7 ?_;refine sx7 ?_;(iterate 3 refine qy ?_);refine a6 ?_;refine a8 _ rfl (fun r1=>?_) (fun r1=>?_)
  ·
   have h1:=of_decide_eq_true r1
   try simp only [ty] at h1
   refine sx7 ?_;refine qy ?_;refine a6 ?_
   exact hx8 rfl rfl rfl (⟨cci (by unfold sgn;rw [if_neg h0,if_pos h1]),trivial⟩)
  ·
   have h1:=of_decide_eq_false r1
   try simp only [ty] at h1
   refine aa ?_;refine sx7 ?_;refine qy ?_;refine a6 ?_
   exact hx8 rfl rfl rfl (⟨cci (by unfold sgn;rw [if_neg h0,if_neg h1]),trivial⟩)
theorem aop:ai Tryz.prog 164:=⟨Tryz.f164,Tryz.func164,by kernel_rfl,by kernel_rfl⟩
theorem aw5 (a b:ByteArray) (ha:a.size ≤ 68719476736) (hb:b.size ≤ 68719476736):al Tryz.prog 164 [pS a,pS b] (az [pI (md a b)]):=by
 refine ag (nt:=39) ae Tryz.func164 rfl rfl l9 ?_;refine sx7 ?_;refine qy ?_;refine a6 ?_
 refine df (ι:=Unit) ⟨[(0,some _),(1,some _)],[]⟩ ⟨⟨c9,c9,trivial⟩,trivial⟩ (fun _i=>⟨[],[]⟩) (fun _i=>md a b = sgn a.size b.size) ?_ ?_
 ·
  refine sx7 ?_;refine qy ?_;refine a6 ?_;refine af ?_
  refine av (ι:=Nat) ⟨[(0,some _),(1,some _)],[]⟩ ⟨⟨c9,c9,trivial⟩,trivial⟩ (fun i=>⟨[(5,some (vI i))],[]⟩) (fun i=>i ≤ a.size ∧ i ≤ b.size ∧ ks ((bl a).drop i) ((bl b).drop i) = md a b) (fun i=>a.size - i) (0) (⟨Nat.zero_le _,Nat.zero_le _,rfl⟩) ⟨⟨zy,trivial⟩,trivial⟩ ?_
  rintro i ⟨hi1,hi2,hc⟩
  refine a7 ?_;refine sx7 ?_;(iterate 5 refine qy ?_);refine b4 rfl rfl (fun r0=>?_) (fun r0=>?_)
  ·
   have h0:=of_decide_eq_true r0
   try simp only [ty] at h0
   (iterate 4 refine qy ?_ (hg:=(gtt r0)));refine qy ?_;refine a6 ?_;refine a8 _ rfl (fun r1=>?_) (fun r1=>?_)
   ·
    have h1:=r1
    have h1:=ci r0 h1
    have h1:=of_decide_eq_true h1
    try simp only [ty] at h1
    refine aa ?_;refine a7 ?_;refine af ?_;refine a7 ?_;refine ay (E:=b5) ae ak [0,1,2,3,4,5,6] ?_;(iterate 7 refine qy ?_);refine a6 ?_;refine ⟨by kernel_rfl, ?_⟩
    refine a8 _ rfl (fun r2=>?_) (fun r2=>?_)
    ·
     have h2:=r2
     have h2:=of_decide_eq_false (b8 h2)
     try simp only [ty] at h2
     refine a7 ?_;refine ay (E:=b5) ae ak [0,1,2,3,4,5,6,7,8,9] ?_;(iterate 8 refine qy ?_);refine rc rfl rfl rfl rfl rfl rfl xi (abb _ _) (CoL.refl _) rfl rfl ?_;refine qy ?_
     refine a6 ?_;refine ⟨by kernel_rfl, ?_⟩
     exact hx8 rfl rfl rfl (⟨cci (by rw [← hc,a7n i _ _ (by rw [ia];omega) (by rw [ia];omega) (fun e=>h2 ((a4t _ _ _ _).2 e))];rfl),trivial⟩)
    ·
     have h2:=r2
     have h2:=of_decide_eq_true (b9 h2)
     try simp only [ty] at h2
     refine aa ?_;refine gy ?_;(iterate 3 refine qy ?_);refine a6 ?_;refine ⟨i + 1, ?_, ?_, ?_⟩
     · exact ⟨by omega,by omega,by rw [← hc];exact (a8l i _ _ (by rw [ia];omega) (by rw [ia];omega) ((a4t _ _ _ _).1 h2)).symm⟩
     · first | omega | (dsimp only;omega)
     · exact ⟨⟨zy,c9,c9,trivial⟩,trivial⟩
   ·
    have h1:=r1
    have h1:=ci r0 h1
    have h1:=of_decide_eq_false h1
    try simp only [ty] at h1
    refine aq ?_;refine ⟨(), ?_, ?_⟩
    · rw [← hc,← ia,← ia];exact a2q i _ _ (by rw [ia];omega) (by rw [ia];omega) (by rw [ia,ia];omega)
    · exact ⟨⟨c9,c9,trivial⟩,trivial⟩
  ·
   have h0:=of_decide_eq_false r0
   try simp only [ty] at h0
   (iterate 4 refine k9 (gft r0) ?_);refine rq rfl rfl rfl rfl rfl ?_ (hp:=r0);refine a6 ?_;refine a8 _ rfl (fun e=>by cases e) (fun _=>?_);refine aq ?_;refine ⟨(), ?_, ?_⟩
   · rw [← hc,← ia,← ia];exact a2q i _ _ (by rw [ia];omega) (by rw [ia];omega) (by rw [ia,ia];omega)
   · exact ⟨⟨c9,c9,trivial⟩,trivial⟩
 · rintro _ hj
   refine sx7 ?_;(iterate 4 refine qy ?_);refine rc rfl rfl rfl rfl rfl rfl xi (abb _ _) (CoL.refl _) rfl rfl ?_;refine qy ?_;refine a6 ?_
   exact hx8 rfl rfl rfl (⟨cci hj.symm,trivial⟩)
theorem ae2:ai Tryz.prog 147:=⟨Tryz.f147,Tryz.func147,by kernel_rfl,by kernel_rfl⟩
theorem arn (a b:Val) (ha:a.str.size ≤ 68719476736) (hb:b.str.size ≤ 68719476736):al Tryz.prog 147 [a.pc,b.pc] (az [pI (kp a b)]):=by
 refine ag (nt:=28) ae Tryz.func147 rfl rfl l9 ?_;refine sx7 ?_;refine m9 0 ?_;refine m9 1 ?_;refine qy ?_;refine a6 ?_;refine a7 ?_;refine sx7 ?_;(iterate 4 refine qy ?_)
 refine rc rfl rfl rfl rfl rfl rfl xi (abb _ _) (CoL.refl _) rfl rfl ?_;refine qy ?_;refine a6 ?_;refine sx7 ?_;(iterate 2 refine qy ?_);refine a6 ?_;refine a8 _ rfl (fun r0=>?_) (fun r0=>?_)
 ·
  have h0:=r0
  have h0:=of_decide_eq_false (b8 h0)
  try simp only [ty] at h0
  refine sx7 ?_;(iterate 2 refine qy ?_);refine a6 ?_
  exact hx8 rfl rfl rfl (⟨cci (by unfold kp;rw [if_pos h0]),trivial⟩)
 ·
  have h0:=r0
  have h0:=of_decide_eq_true (b9 h0)
  try simp only [ty] at h0
  refine aa ?_;refine a7 ?_;refine sx7 ?_;(iterate 4 refine qy ?_);refine rc rfl rfl rfl rfl rfl rfl xi (abb _ _) (CoL.refl _) rfl rfl ?_;refine qy ?_;refine a6 ?_;refine sx7 ?_;(iterate 2 refine qy ?_)
  refine a6 ?_;refine a8 _ rfl (fun r1=>?_) (fun r1=>?_)
  ·
   have h1:=r1
   have h1:=of_decide_eq_false (b8 h1)
   try simp only [ty] at h1
   refine sx7 ?_;(iterate 2 refine qy ?_);refine a6 ?_
   exact hx8 rfl rfl rfl (⟨cci (by unfold kp;rw [if_neg (by omega),if_pos h1]),trivial⟩)
  ·
   have h1:=r1
   have h1:=of_decide_eq_true (b9 h1)
   try simp only [ty] at h1
   refine aa ?_;refine sx7 ?_;(iterate 4 refine qy ?_);refine rc rfl rfl rfl rfl rfl rfl aop (aw5 _ _ (by assumption) (by assumption)) (CoL.refl _) rfl rfl ?_;refine qy ?_;refine a6 ?_
   exact hx8 rfl rfl rfl (⟨cci (by unfold kp;rw [if_neg (by omega),if_neg (by omega)]),trivial⟩)
end Go.Hx
end
section
namespace Go.Hx
open Go.Proofs
set_option maxRecDepth 100000
set_option maxHeartbeats 1000000
theorem apw:ai Tryz.prog 149:=⟨Tryz.f149,Tryz.func149,by kernel_rfl,by kernel_rfl⟩
theorem avg (a b:List Val) (ha:rh a) (hb:rh b):al Tryz.prog 149 [pP (vals a),pP (vals b)] (az [pI (ik a b)]):=by
 refine ag (nt:=36) ae Tryz.func149 rfl rfl l9 ?_;refine j8 0 rfl (fun hn=>?_);refine sx7 ?_;refine qy ?_;refine a6 ?_
 refine df (ι:=Unit) ⟨[(0,some _),(1,some _)],[]⟩ ⟨⟨c9,c9,trivial⟩,trivial⟩ (fun _i=>⟨[],[]⟩) (fun _i=>ik a b = sgn a.length b.length) ?_ ?_
 ·
  refine sx7 ?_;refine qy ?_;refine a6 ?_;refine af ?_
  refine av (ι:=Nat) ⟨[(0,some _),(1,some _)],[]⟩ ⟨⟨c9,c9,trivial⟩,trivial⟩ (fun i=>⟨[(5,some (vI i))],[]⟩) (fun i=>i ≤ a.length ∧ i ≤ b.length ∧ ik (a.drop i) (b.drop i) = ik a b) (fun i=>a.length - i) (0) (⟨Nat.zero_le _,Nat.zero_le _,rfl⟩) ⟨⟨zy,trivial⟩,trivial⟩ ?_
  rintro i ⟨hi1,hi2,hc⟩
  refine a7 ?_;refine sx7 ?_;(iterate 5 refine qy ?_);refine b4 rfl rfl (fun r0=>?_) (fun r0=>?_)
  ·
   have h0:=of_decide_eq_true r0
   try simp only [ty] at h0
   (iterate 4 refine qy ?_ (hg:=(gtt r0)));refine qy ?_;refine a6 ?_;refine a8 _ rfl (fun r1=>?_) (fun r1=>?_)
   ·
    have h1:=r1
    have h1:=ci r0 h1
    have h1:=of_decide_eq_true h1
    try simp only [ty] at h1
    refine aa ?_;refine a7 ?_;refine af ?_;refine a7 ?_;refine ay (E:=b5) ae ak [0,1,2,3,4,5,6,7,8,9] ?_;(iterate 8 refine qy ?_)
    refine rc rfl rfl rfl rfl rfl rfl ae2 (arn _ _ (ha i (by omega)) (hb i (by omega))) (CoL.refl _) rfl rfl ?_;refine qy ?_;refine a6 ?_;refine ⟨by kernel_rfl, ?_⟩;refine sx7 ?_;(iterate 2 refine qy ?_)
    refine a6 ?_;refine a8 _ rfl (fun r2=>?_) (fun r2=>?_)
    ·
     have h2:=r2
     have h2:=of_decide_eq_false (b8 h2)
     try simp only [ty] at h2
     refine sx7 ?_;(iterate 2 refine qy ?_);refine a6 ?_
     exact hx8 rfl rfl rfl (⟨cci (by rw [← hc];exact (a4n i _ _ (by omega) (by omega) h2).symm),trivial⟩)
    ·
     have h2:=r2
     have h2:=of_decide_eq_true (b9 h2)
     try simp only [ty] at h2
     refine aa ?_;refine gy ?_;(iterate 3 refine qy ?_);refine a6 ?_;refine ⟨i + 1, ?_, ?_, ?_⟩
     · exact ⟨by omega,by omega,by rw [← hc];exact (a5g i _ _ (by omega) (by omega) h2).symm⟩
     · first | omega | (dsimp only;omega)
     · exact ⟨⟨zy,c9,c9,trivial⟩,trivial⟩
   ·
    have h1:=r1
    have h1:=ci r0 h1
    have h1:=of_decide_eq_false h1
    try simp only [ty] at h1
    refine aq ?_;refine ⟨(), ?_, ?_⟩
    · rw [← hc];exact zw i _ _ (by omega) (by omega) (by omega)
    · exact ⟨⟨c9,c9,trivial⟩,trivial⟩
  ·
   have h0:=of_decide_eq_false r0
   try simp only [ty] at h0
   (iterate 4 refine k9 (gft r0) ?_);refine rq rfl rfl rfl rfl rfl ?_ (hp:=r0);refine a6 ?_;refine a8 _ rfl (fun e=>by cases e) (fun _=>?_);refine aq ?_;refine ⟨(), ?_, ?_⟩
   · rw [← hc];exact zw i _ _ (by omega) (by omega) (by omega)
   · exact ⟨⟨c9,c9,trivial⟩,trivial⟩
 · rintro _ hj
   refine sx7 ?_;(iterate 4 refine qy ?_);refine rc rfl rfl rfl rfl rfl rfl xi (abb _ _) (CoL.refl _) rfl rfl ?_;refine qy ?_;refine a6 ?_
   exact hx8 rfl rfl rfl (⟨cci hj.symm,trivial⟩)
theorem ae9:ai Tryz.prog 120:=⟨Tryz.f120,Tryz.func120,by kernel_rfl,by kernel_rfl⟩
theorem c81 (a b:List Val) (ha:rh a) (hb:rh b):al Tryz.prog 120 [pP (vals a),pP (vals b)] (az [pB (decide (a = b))]):=by
 refine ag (nt:=9) ae Tryz.func120 rfl rfl l9 ?_;refine sx7 ?_;refine qy ?_;refine a6 ?_;refine sx7 ?_;(iterate 2 refine qy ?_)
 refine rc rfl rfl rfl rfl rfl rfl apw (avg a b ha hb) (CoL.refl _) rfl rfl ?_;(iterate 2 refine qy ?_);refine a6 ?_
 exact hx8 rfl rfl rfl (⟨ccb (decide_eq_decide.2 a5f),trivial⟩)
theorem ajb:ai Tryz.prog 97:=⟨Tryz.f97,Tryz.func97,by kernel_rfl,by kernel_rfl⟩
theorem c86 (v:Val):al Tryz.prog 97 [v.pc] (az [pB (cu v)]):=by
 refine ag (nt:=44) ae Tryz.func97 rfl rfl l9 ?_;refine sx7 ?_;refine m9 0 ?_;refine qy ?_;refine a6 ?_;refine a7 ?_;refine sx7 ?_;(iterate 2 refine qy ?_);refine a6 ?_;refine af ?_
 refine sx7 ?_;(iterate 2 refine qy ?_);refine a6 ?_;refine a8 _ rfl (fun r0=>?_) (fun r0=>?_)
 ·
  have h0:=of_decide_eq_true r0
  try simp only [ty] at h0
  refine sx7 ?_;(iterate 4 refine qy ?_);refine b4 rfl rfl (fun r1=>?_) (fun r1=>?_)
  ·
   have h1:=of_decide_eq_true r1
   try simp only [ty] at h1
   (iterate 3 refine qy ?_ (hg:=(gtt r1)));(iterate 2 refine qy ?_);refine a6 ?_
   exact hx8 rfl rfl rfl (⟨ccb (by simp [cu, *] <;> omega),trivial⟩)
  ·
   have h1:=of_decide_eq_false r1
   try simp only [ty] at h1
   (iterate 3 refine k9 (gft r1) ?_);refine rq rfl rfl rfl rfl rfl ?_ (hp:=r1);refine qy ?_;refine a6 ?_
   exact hx8 rfl rfl rfl (⟨ccb (by simp [cu, *] <;> omega),trivial⟩)
 ·
  have h0:=of_decide_eq_false r0
  try simp only [ty] at h0
  refine sx7 ?_;(iterate 2 refine qy ?_);refine a6 ?_;refine a8 _ rfl (fun r2=>?_) (fun r2=>?_)
  ·
   have h2:=of_decide_eq_true r2
   try simp only [ty] at h2
   refine sx7 ?_;(iterate 4 refine qy ?_);refine a6 ?_
   exact hx8 rfl rfl rfl (⟨ccb (by simp [cu, *] <;> omega),trivial⟩)
  ·
   have h2:=of_decide_eq_false r2
   try simp only [ty] at h2
   refine sx7 ?_;(iterate 2 refine qy ?_);refine a6 ?_;refine a8 _ rfl (fun r3=>?_) (fun r3=>?_)
   ·
    have h3:=of_decide_eq_true r3
    try simp only [ty] at h3
    refine sx7 ?_;(iterate 4 refine qy ?_);refine b4 rfl rfl (fun r4=>?_) (fun r4=>?_)
    ·
     have h4:=of_decide_eq_true r4
     try simp only [ty] at h4
     (iterate 4 refine qy ?_ (hg:=(gtt r4)));(iterate 2 refine qy ?_);refine a6 ?_
     exact hx8 rfl rfl rfl (⟨ccb (by simp [cu, *] <;> omega),trivial⟩)
    ·
     have h4:=of_decide_eq_false r4
     try simp only [ty] at h4
     (iterate 4 refine k9 (gft r4) ?_);refine rq rfl rfl rfl rfl rfl ?_ (hp:=r4);refine qy ?_;refine a6 ?_
     exact hx8 rfl rfl rfl (⟨ccb (by simp [cu, *] <;> omega),trivial⟩)
   ·
    have h3:=of_decide_eq_false r3
    try simp only [ty] at h3
    refine aa ?_;refine sx7 ?_;(iterate 4 refine qy ?_);refine b4 rfl rfl (fun r5=>?_) (fun r5=>?_)
    ·
     have h5:=of_decide_eq_true r5
     try simp only [ty] at h5
     (iterate 3 refine qy ?_ (hg:=(gtt r5)));(iterate 2 refine qy ?_);refine b4 rfl rfl (fun r6=>?_) (fun r6=>?_)
     ·
      have h6:=r6
      have h6:=ci r5 h6
      have h6:=of_decide_eq_true h6
      try simp only [ty] at h6
      (iterate 3 refine qy ?_ (hg:=(gtt r6)));(iterate 2 refine qy ?_);refine a6 ?_
      exact hx8 rfl rfl rfl (⟨ccb (by simp [cu, *] <;> omega),trivial⟩)
     ·
      have h6:=r6
      have h6:=ci r5 h6
      have h6:=of_decide_eq_false h6
      try simp only [ty] at h6
      (iterate 3 refine k9 (gft r6) ?_);refine rq rfl rfl rfl rfl rfl ?_ (hp:=r6);refine qy ?_;refine a6 ?_
      exact hx8 rfl rfl rfl (⟨ccb (by simp [cu, *] <;> omega),trivial⟩)
    ·
     have h5:=of_decide_eq_false r5
     try simp only [ty] at h5
     (iterate 3 refine k9 (gft r5) ?_);refine rq rfl rfl rfl rfl rfl ?_ (hp:=r5);refine qy ?_;(iterate 3 refine k9 rfl ?_);(iterate 2 refine qy ?_);refine a6 ?_
     exact hx8 rfl rfl rfl (⟨ccb (by simp [cu, *] <;> omega),trivial⟩)
theorem aej:ai Tryz.prog 106:=⟨Tryz.f106,Tryz.func106,by kernel_rfl,by kernel_rfl⟩
theorem c76 (v:Val):al Tryz.prog 106 [v.pc] (az [pB (cu v)]):=by
 refine ag (nt:=41) ae Tryz.func106 rfl rfl l9 ?_;refine sx7 ?_;refine m9 0 ?_;refine qy ?_;refine a6 ?_;refine a7 ?_;refine sx7 ?_;(iterate 2 refine qy ?_);refine a6 ?_;refine af ?_
 refine sx7 ?_;(iterate 2 refine qy ?_);refine a6 ?_;refine a8 _ rfl (fun r0=>?_) (fun r0=>?_)
 ·
  have h0:=of_decide_eq_true r0
  try simp only [ty] at h0
  refine sx7 ?_;(iterate 4 refine qy ?_);refine b4 rfl rfl (fun r1=>?_) (fun r1=>?_)
  ·
   have h1:=of_decide_eq_true r1
   try simp only [ty] at h1
   (iterate 3 refine qy ?_ (hg:=(gtt r1)));(iterate 2 refine qy ?_);refine a6 ?_
   exact hx8 rfl rfl rfl (⟨ccb (by simp [cu, *] <;> omega),trivial⟩)
  ·
   have h1:=of_decide_eq_false r1
   try simp only [ty] at h1
   (iterate 3 refine k9 (gft r1) ?_);refine rq rfl rfl rfl rfl rfl ?_ (hp:=r1);refine qy ?_;refine a6 ?_
   exact hx8 rfl rfl rfl (⟨ccb (by simp [cu, *] <;> omega),trivial⟩)
 ·
  have h0:=of_decide_eq_false r0
  try simp only [ty] at h0
  refine sx7 ?_;(iterate 2 refine qy ?_);refine a6 ?_;refine a8 _ rfl (fun r2=>?_) (fun r2=>?_)
  ·
   have h2:=of_decide_eq_true r2
   try simp only [ty] at h2
   refine sx7 ?_;(iterate 4 refine qy ?_);refine a6 ?_
   exact hx8 rfl rfl rfl (⟨ccb (by simp [cu, *] <;> omega),trivial⟩)
  ·
   have h2:=of_decide_eq_false r2
   try simp only [ty] at h2
   refine sx7 ?_;(iterate 2 refine qy ?_);refine a6 ?_;refine a8 _ rfl (fun r3=>?_) (fun r3=>?_)
   ·
    have h3:=of_decide_eq_true r3
    try simp only [ty] at h3
    refine sx7 ?_;(iterate 4 refine qy ?_);refine b4 rfl rfl (fun r4=>?_) (fun r4=>?_)
    ·
     have h4:=of_decide_eq_true r4
     try simp only [ty] at h4
     (iterate 4 refine qy ?_ (hg:=(gtt r4)));(iterate 2 refine qy ?_);refine a6 ?_
     exact hx8 rfl rfl rfl (⟨ccb (by simp [cu, *] <;> omega),trivial⟩)
    ·
     have h4:=of_decide_eq_false r4
     try simp only [ty] at h4
     (iterate 4 refine k9 (gft r4) ?_);refine rq rfl rfl rfl rfl rfl ?_ (hp:=r4);refine qy ?_;refine a6 ?_
     exact hx8 rfl rfl rfl (⟨ccb (by simp [cu, *] <;> omega),trivial⟩)
   ·
    have h3:=of_decide_eq_false r3
    try simp only [ty] at h3
    refine sx7 ?_;(iterate 2 refine qy ?_);refine a6 ?_;refine a8 _ rfl (fun r5=>?_) (fun r5=>?_)
    ·
     have h5:=of_decide_eq_true r5
     try simp only [ty] at h5
     refine sx7 ?_;(iterate 4 refine qy ?_);refine b4 rfl rfl (fun r6=>?_) (fun r6=>?_)
     ·
      have h6:=of_decide_eq_true r6
      try simp only [ty] at h6
      (iterate 3 refine qy ?_ (hg:=(gtt r6)));(iterate 2 refine qy ?_);refine a6 ?_
      exact hx8 rfl rfl rfl (⟨ccb (by simp [cu, *] <;> omega),trivial⟩)
     ·
      have h6:=of_decide_eq_false r6
      try simp only [ty] at h6
      (iterate 3 refine k9 (gft r6) ?_);refine rq rfl rfl rfl rfl rfl ?_ (hp:=r6);refine qy ?_;refine a6 ?_
      exact hx8 rfl rfl rfl (⟨ccb (by simp [cu, *] <;> omega),trivial⟩)
    ·
     have h5:=of_decide_eq_false r5
     try simp only [ty] at h5
     refine aa ?_;refine sx7 ?_;refine qy ?_;refine a6 ?_
     exact hx8 rfl rfl rfl (⟨ccb (by simp [cu, *] <;> omega),trivial⟩)
theorem aj9:ai Tryz.prog 80:=⟨Tryz.f80,Tryz.func80,by kernel_rfl,by kernel_rfl⟩
theorem c83 (l:List Val):al Tryz.prog 80 [pP (vals l)] (az [pB (l.all cu)]):=by
 refine ag (nt:=16) ae Tryz.func80 rfl rfl l9 ?_;refine j8 0 rfl (fun hn=>?_);refine sx7 ?_;refine qy ?_;refine a6 ?_
 refine df (ι:=Unit) ⟨[],[]⟩ ⟨trivial,trivial⟩ (fun _i=>⟨[],[]⟩) (fun _i=>l.all cu = true) ?_ ?_
 ·
  refine sx7 ?_;refine qy ?_;refine a6 ?_;refine af ?_
  refine av (ι:=Nat) ⟨[(0,some _)],[]⟩ ⟨⟨c9,trivial⟩,trivial⟩ (fun i=>⟨[(3,some (vI i))],[]⟩) (fun i=>i ≤ l.length ∧ ∀ j,j < i → cu (l.getD j default) = true) (fun i=>l.length - i) (0) (⟨Nat.zero_le _,dm⟩) ⟨⟨zy,trivial⟩,trivial⟩ ?_
  rintro i ⟨hi,hI⟩
  refine a7 ?_;refine sx7 ?_;(iterate 4 refine qy ?_);refine a6 ?_;refine a8 _ rfl (fun r0=>?_) (fun r0=>?_)
  ·
   have h0:=of_decide_eq_true r0
   try simp only [ty] at h0
   refine aa ?_;refine a7 ?_;refine af ?_;refine sx7 ?_;(iterate 4 refine qy ?_);refine rc rfl rfl rfl rfl rfl rfl ajb (c86 _) (CoL.refl _) rfl rfl ?_;refine qy ?_;refine a6 ?_
   refine a8 _ rfl (fun r1=>?_) (fun r1=>?_)
   ·
    have h1:=r1
    have h1:=b8 h1
    refine sx7 ?_;refine qy ?_;refine a6 ?_
    exact hx8 rfl rfl rfl (⟨ccb (avc (by omega) h1).symm,trivial⟩)
   ·
    have h1:=r1
    have h1:=b9 h1
    refine aa ?_;refine gy ?_;(iterate 3 refine qy ?_);refine a6 ?_;refine ⟨i + 1, ?_, ?_, ?_⟩
    · exact ⟨by omega,d8 hI (h1)⟩
    · first | omega | (dsimp only;omega)
    · exact ⟨⟨zy,c9,trivial⟩,trivial⟩
  ·
   have h0:=of_decide_eq_false r0
   try simp only [ty] at h0
   refine aq ?_;refine ⟨(), ?_, ?_⟩
   · exact au7 fun j hj=>hI j (by omega)
   · exact ⟨trivial,trivial⟩
 · rintro _ hj
   refine sx7 ?_;refine qy ?_;refine a6 ?_
   exact hx8 rfl rfl rfl (⟨ccb hj.symm,trivial⟩)
theorem asq:ai Tryz.prog 85:=⟨Tryz.f85,Tryz.func85,by kernel_rfl,by kernel_rfl⟩
theorem c54 (a b:Row) (ha:a.ok) (hb:b.ok):al Tryz.prog 85 [a.pc,b.pc] (az [pB (decide (a = b))]):=by
 refine ag (nt:=17) ae Tryz.func85 rfl rfl l9 ?_;refine sx7 ?_;refine m9 0 ?_;refine m9 1 ?_;refine qy ?_;refine a6 ?_;refine sx7 ?_;(iterate 6 refine qy ?_)
 refine b4 rfl rfl (fun r0=>?_) (fun r0=>?_)
 ·
  have h0:=of_decide_eq_true r0
  try simp only [ty] at h0
  (iterate 4 refine qy ?_ (hg:=(gtt r0)));refine rc rfl rfl rfl rfl rfl rfl ae9 (c81 a.vals b.vals ha.2 hb.2) (CoL.refl _) rfl (gtt r0) ?_;(iterate 2 refine qy ?_);refine a6 ?_
  exact hx8 rfl rfl rfl (⟨ccb (by simp [Row.eq_iff, *]),trivial⟩)
 ·
  have h0:=of_decide_eq_false r0
  try simp only [ty] at h0
  (iterate 5 refine k9 (gft r0) ?_);refine rq rfl rfl rfl rfl rfl ?_ (hp:=r0);refine qy ?_;refine a6 ?_
  exact hx8 rfl rfl rfl (⟨ccb (by simp [Row.eq_iff, *]),trivial⟩)
theorem aqs:ai Tryz.prog 84:=⟨Tryz.f84,Tryz.func84,by kernel_rfl,by kernel_rfl⟩
theorem c75 (a b:List ByteArray):al Tryz.prog 84 [pP (i6 a),pP (i6 b)] (az [pB (decide (a = b))]):=by
 refine ag (nt:=26) ae Tryz.func84 rfl rfl l9 ?_;refine j8 0 rfl (fun hn=>?_);refine sx7 ?_;refine qy ?_;refine a6 ?_;refine a7 ?_;refine sx7 ?_;(iterate 5 refine qy ?_);refine a6 ?_
 refine a8 _ rfl (fun r0=>?_) (fun r0=>?_)
 ·
  have h0:=r0
  have h0:=of_decide_eq_false (b8 h0)
  try simp only [ty] at h0
  refine sx7 ?_;refine qy ?_;refine a6 ?_
  exact hx8 rfl rfl rfl (⟨ccb (decide_eq_false (fun e=>h0 (by rw [e]))).symm,trivial⟩)
 ·
  have h0:=r0
  have h0:=of_decide_eq_true (b9 h0)
  try simp only [ty] at h0
  refine aa ?_;refine df (ι:=Unit) ⟨[],[]⟩ ⟨trivial,trivial⟩ (fun _i=>⟨[],[]⟩) (fun _i=>a = b) ?_ ?_
  ·
   refine sx7 ?_;refine qy ?_;refine a6 ?_;refine af ?_
   refine av (ι:=Nat) ⟨[(0,some _),(1,some _)],[]⟩ ⟨⟨c9,c9,trivial⟩,trivial⟩ (fun i=>⟨[(5,some (vI i))],[]⟩) (fun i=>i ≤ a.length ∧ ∀ j,j < i → a.getD j default = b.getD j default) (fun i=>a.length - i) (0) (⟨Nat.zero_le _,dm⟩) ⟨⟨zy,trivial⟩,trivial⟩ ?_
   rintro i ⟨hi,hI⟩
   refine a7 ?_;refine sx7 ?_;(iterate 4 refine qy ?_);refine a6 ?_;refine a8 _ rfl (fun r1=>?_) (fun r1=>?_)
   ·
    have h1:=of_decide_eq_true r1
    try simp only [ty] at h1
    refine aa ?_;refine a7 ?_;refine af ?_;refine a7 ?_;refine ay (E:=b5) ae ak [0,1,2,3,4,5,6,7,8] ?_;(iterate 9 refine qy ?_);refine a6 ?_;refine ⟨by kernel_rfl, ?_⟩
    refine a8 _ rfl (fun r2=>?_) (fun r2=>?_)
    ·
     have h2:=r2
     have h2:=of_decide_eq_false (b8 h2)
     try simp only [ty] at h2
     refine sx7 ?_;refine qy ?_;refine a6 ?_
     exact hx8 rfl rfl rfl (⟨ccb (decide_eq_false (fun e=>h2 (by subst e;rfl))).symm,trivial⟩)
    ·
     have h2:=r2
     have h2:=of_decide_eq_true (b9 h2)
     try simp only [ty] at h2
     refine aa ?_;refine gy ?_;(iterate 3 refine qy ?_);refine a6 ?_;refine ⟨i + 1, ?_, ?_, ?_⟩
     · exact ⟨by omega,d8 hI (h2)⟩
     · first | omega | (dsimp only;omega)
     · exact ⟨⟨zy,c9,c9,trivial⟩,trivial⟩
   ·
    have h1:=of_decide_eq_false r1
    try simp only [ty] at h1
    refine aq ?_;refine ⟨(), ?_, ?_⟩
    · exact a1u (by omega) fun j hj=>hI j (by omega)
    · exact ⟨trivial,trivial⟩
  · rintro _ hj
    refine sx7 ?_;refine qy ?_;refine a6 ?_
    exact hx8 rfl rfl rfl (⟨ccb (decide_eq_true hj).symm,trivial⟩)
theorem asj:ai Tryz.prog 46:=⟨Tryz.f46,Tryz.func46,by kernel_rfl,by kernel_rfl⟩
theorem c47 (a b:Tbl) (ha:a.ok) (hb:b.ok):al Tryz.prog 46 [a.pc,b.pc] (az [pB (decide (a = b))]):=by
 refine ag (nt:=47) ae Tryz.func46 rfl rfl l9 ?_;refine sx7 ?_;refine m9 0 ?_;refine m9 1 ?_;refine qy ?_;refine a6 ?_;(iterate 2 refine a7 ?_);refine afa 0 2 rfl rfl (fun hn=>?_);refine gy ?_
 (iterate 6 refine qy ?_);refine b4 rfl rfl (fun r0=>?_) (fun r0=>?_)
 ·
  have h0:=r0
  have h0:=of_decide_eq_false (b8 h0)
  try simp only [ty] at h0
  (iterate 6 refine k9 (gtf r0) ?_);refine rq rfl rfl rfl rfl rfl ?_ (hp:=r0);refine qy ?_;(iterate 7 refine k9 rfl ?_);refine qy ?_;refine a6 ?_;refine a8 _ rfl (fun _=>?_) (fun e=>by cases e);refine sx7 ?_
  refine qy ?_;refine a6 ?_
  exact hx8 rfl rfl rfl (⟨ccb (decide_eq_false (fun e=>by subst e;simp_all)).symm,trivial⟩)
 ·
  have h0:=r0
  have h0:=of_decide_eq_true (b9 h0)
  try simp only [ty] at h0
  (iterate 4 refine qy ?_ (hg:=(gff r0)));refine rc rfl rfl rfl rfl rfl rfl aqs (c75 _ _) (CoL.refl _) rfl (gff r0) ?_;refine qy ?_ (hg:=(gff r0));(iterate 2 refine qy ?_)
  refine b4 rfl rfl (fun r1=>?_) (fun r1=>?_)
  ·
   have h1:=r1
   have h1:=bp r0 h1
   have h1:=b8 h1
   (iterate 7 refine k9 (gtf r1) ?_);refine rq rfl rfl rfl rfl rfl ?_ (hp:=r1);refine a6 ?_;refine a8 _ rfl (fun _=>?_) (fun e=>by cases e);refine sx7 ?_;refine qy ?_;refine a6 ?_
   exact hx8 rfl rfl rfl (⟨ccb (decide_eq_false (fun e=>by subst e;simp_all)).symm,trivial⟩)
  ·
   have h1:=r1
   have h1:=bp r0 h1
   have h1:=b9 h1
   (iterate 7 refine qy ?_ (hg:=(gff r1)));refine qy ?_;refine a6 ?_;refine a8 _ rfl (fun r2=>?_) (fun r2=>?_)
   ·
    have h2:=r2
    have h2:=bp r1 h2
    have h2:=of_decide_eq_false (b8 h2)
    try simp only [ty] at h2
    refine sx7 ?_;refine qy ?_;refine a6 ?_
    exact hx8 rfl rfl rfl (⟨ccb (decide_eq_false (fun e=>by subst e;simp_all)).symm,trivial⟩)
   ·
    have h2:=r2
    have h2:=bp r1 h2
    have h2:=of_decide_eq_true (b9 h2)
    try simp only [ty] at h2
    refine aa ?_;refine df (ι:=Unit) ⟨[],[]⟩ ⟨trivial,trivial⟩ (fun _i=>⟨[],[]⟩) (fun _i=>a = b) ?_ ?_
    ·
     refine sx7 ?_;refine qy ?_;refine a6 ?_;refine af ?_
     refine av (ι:=Nat) ⟨[(2,some _),(3,some _)],[(0,some _),(1,some _)]⟩ ⟨⟨c9,c9,trivial⟩,⟨u9,u9,trivial⟩⟩ (fun i=>⟨[(5,some (vI i))],[]⟩) (fun i=>i ≤ a.rows.length ∧ ∀ j,j < i → a.rows.getD j default = b.rows.getD j default) (fun i=>a.rows.length - i) (0) (⟨Nat.zero_le _,dm⟩) ⟨⟨zy,trivial⟩,trivial⟩ ?_
     rintro i ⟨hi,hI⟩
     refine a7 ?_;refine sx7 ?_;(iterate 5 refine qy ?_);refine a6 ?_;refine a8 _ rfl (fun r3=>?_) (fun r3=>?_)
     ·
      have h3:=of_decide_eq_true r3
      try simp only [ty] at h3
      refine aa ?_;refine a7 ?_;refine af ?_;refine a7 ?_;refine ay (E:=b5) ae ak [0,1,2,3,4,5,6,7,8,9,10,11] ?_;(iterate 10 refine qy ?_)
      refine rc rfl rfl rfl rfl rfl rfl asq (c54 _ _ (ha.2.2 i (by omega)) (hb.2.2 i (by omega))) (CoL.refl _) rfl rfl ?_;refine qy ?_;refine a6 ?_;refine ⟨by kernel_rfl, ?_⟩
      refine a8 _ rfl (fun r4=>?_) (fun r4=>?_)
      ·
       have h4:=r4
       have h4:=b8 h4
       have hN:=of_decide_eq_false h4
       refine sx7 ?_;refine qy ?_;refine a6 ?_
       exact hx8 rfl rfl rfl (⟨ccb (decide_eq_false (fun e=>by subst e;simp_all)).symm,trivial⟩)
      ·
       have h4:=r4
       have h4:=b9 h4
       have hN:=of_decide_eq_true h4
       refine aa ?_;refine gy ?_;(iterate 3 refine qy ?_);refine a6 ?_;refine ⟨i + 1, ?_, ?_, ?_⟩
       · exact ⟨by omega,d8 hI (hN)⟩
       · first | omega | (dsimp only;omega)
       · exact ⟨⟨zy,c9,c9,trivial⟩,⟨u9,u9,trivial⟩⟩
     ·
      have h3:=of_decide_eq_false r3
      try simp only [ty] at h3
      refine aq ?_;refine ⟨(), ?_, ?_⟩
      · exact Tbl.eq_iff.2 ⟨by assumption,by simp_all,a1u (by omega) fun j hj=>hI j (by omega)⟩
      · exact ⟨trivial,trivial⟩
    · rintro _ hj
      refine sx7 ?_;refine qy ?_;refine a6 ?_
      exact hx8 rfl rfl rfl (⟨ccb (decide_eq_true hj).symm,trivial⟩)
end Go.Hx
end

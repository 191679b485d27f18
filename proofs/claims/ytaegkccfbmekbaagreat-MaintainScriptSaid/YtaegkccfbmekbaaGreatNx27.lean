/- A part of the proof: Rb33 W1 W2. -/
import Derived.Test.YtaegkccfbmekbaaGreatNx15
import Derived.Test.YtaegkccfbmekbaaGreatNx21
import Derived.Test.YtaegkccfbmekbaaGreatNx26
set_option linter.all false
section
namespace Go.Hx
open Go.Proofs
theorem own:ownKnob Tryz.prog.godebug = none:=by kernel_rfl
theorem al2 {j:Nat} (h:j < 1):j = 0:=by omega
theorem rd5:Rd Tryz.prog 5 1 u8C:=(atp Tryz.underlying5).co id fun a j hj=>by obtain rfl:=al2 hj;exact CoP.refl _
theorem avf:Rd Tryz.prog 42 1 as0:=(a2i Tryz.underlying42 (by kernel_rfl) (by omega) rd5).co id fun a j hj=>by obtain rfl:=al2 hj;exact CoP.refl _
theorem rd9:Rd Tryz.prog 9 1 ue:=(aj8 Tryz.underlying9).co id fun a j hj=>by obtain rfl:=al2 hj;exact CoP.refl _
theorem av4:Rd Tryz.prog 22 1 (ale 1 ue):=a2i Tryz.underlying22 (by kernel_rfl) (by omega) rd9
theorem avu:Rd Tryz.prog 58 4 MOp.c:=by
 intro H enc w sp held fuel cs x h
 obtain ⟨hl,n,hf⟩:=a7q Tryz.underlying58 h
 obtain ⟨y0,e0⟩:=hf 0 _ rfl
 obtain ⟨y1,e1⟩:=hf 1 _ rfl
 obtain ⟨y2,e2⟩:=hf 2 _ rfl
 obtain ⟨y3,e3⟩:=hf 3 _ rfl
 obtain ⟨a0,h0⟩:=qc rd5 e0
 obtain ⟨a1,h1⟩:=qc rd5 e1
 obtain ⟨a2,h2⟩:=qc rd5 e2
 obtain ⟨a3,h3⟩:=qc avf e3
 refine ⟨hl.trans (by kernel_rfl),(⟨a0,a1,a2,a3⟩:MOp),fun j hj=>?_⟩
 match j,hj with
 | 0,_=>exact h0 0 (by omega)
 | 1,_=>exact h1 0 (by omega)
 | 2,_=>exact h2 0 (by omega)
 | 3,_=>exact h3 0 (by omega)
theorem av9:Rd Tryz.prog 52 1 (ale 4 MOp.c):=a2i Tryz.underlying52 (by kernel_rfl) (by omega) avu
theorem alj:Rd Tryz.prog 54 2 Scr.c:=by
 intro H enc w sp held fuel cs x h
 obtain ⟨hl,n,hf⟩:=a7q Tryz.underlying54 h
 obtain ⟨y0,e0⟩:=hf 0 _ rfl
 obtain ⟨y1,e1⟩:=hf 1 _ rfl
 obtain ⟨a0,h0⟩:=qc rd5 e0
 obtain ⟨a1,h1⟩:=qc av9 e1
 refine ⟨hl.trans (by kernel_rfl),(⟨a0,a1⟩:Scr),fun j hj=>?_⟩
 match j,hj with
 | 0,_=>exact h0 0 (by omega)
 | 1,_=>exact h1 0 (by omega)
theorem afd {W:World}:oq (fp W):=fun b off v hv=>by unfold a11 sy at hv;simp at hv
theorem a14:laidOutB Tryz.prog = true:=by kernel_rfl
theorem auz:Tryz.prog.readableRec 9 = true ∧ 9 < Tryz.prog.types.size:=⟨by kernel_rfl,of_decide_eq_true (by kernel_rfl)⟩
theorem aus:Tryz.prog.readableRec 22 = true ∧ 22 < Tryz.prog.types.size:=⟨by kernel_rfl,of_decide_eq_true (by kernel_rfl)⟩
theorem af2:Tryz.prog.readableRec 54 = true ∧ 54 < Tryz.prog.types.size:=⟨by kernel_rfl,of_decide_eq_true (by kernel_rfl)⟩
end Go.Hx
end
section
namespace Go.Hx
open Go.Proofs
set_option maxRecDepth 100000
theorem x8:ai Tryz.prog 163:=⟨Tryz.f163,Tryz.func163,by kernel_rfl,by kernel_rfl⟩
theorem aav (a b:Int):ak Tryz.prog 163 [pI a,pI b] (av [pI (sgn a b)]):=by
 refine ag (nt:=11) ae Tryz.func163 rfl rfl l9 ?_;refine sx7 ?_;refine qy ?_;refine a6 ?_;refine a7 ?_;refine sx7 ?_;(iterate 3 refine qy ?_);refine a6 ?_
 refine a8 _ rfl (fun r0=>?_) (fun r0=>?_)
 ·
  have h0:=of_decide_eq_true r0
  try simp only [ty] at h0
  refine sx7 ?_;refine qy ?_;refine a6 ?_
  exact hx8 rfl rfl rfl (⟨cci (by unfold sgn;rw [if_pos h0]),trivial⟩)
 ·
  have h0:=of_decide_eq_false r0
  try simp only [ty] at h0
  refine aa ?_;refine a7 ?_;refine sx7 ?_;(iterate 3 refine qy ?_);refine a6 ?_;refine a8 _ rfl (fun r1=>?_) (fun r1=>?_)
  ·
   have h1:=of_decide_eq_true r1
   try simp only [ty] at h1
   refine sx7 ?_;refine qy ?_;refine a6 ?_
   exact hx8 rfl rfl rfl (⟨cci (by unfold sgn;rw [if_neg h0,if_pos h1]),trivial⟩)
  ·
   have h1:=of_decide_eq_false r1
   try simp only [ty] at h1
   refine aa ?_;refine sx7 ?_;refine qy ?_;refine a6 ?_
   exact hx8 rfl rfl rfl (⟨cci (by unfold sgn;rw [if_neg h0,if_neg h1]),trivial⟩)
theorem ant:ai Tryz.prog 164:=⟨Tryz.f164,Tryz.func164,by kernel_rfl,by kernel_rfl⟩
theorem av6 (a b:ByteArray) (ha:a.size ≤ 68719476736) (hb:b.size ≤ 68719476736):ak Tryz.prog 164 [pS a,pS b] (av [pI (ly a b)]):=by
 refine ag (nt:=39) ae Tryz.func164 rfl rfl l9 ?_;refine sx7 ?_;refine qy ?_;refine a6 ?_
 refine db (ι:=Unit) ⟨[(0,some _),(1,some _)],[]⟩ ⟨⟨c9,c9,trivial⟩,trivial⟩ (fun _i=>⟨[],[]⟩) (fun _i=>ly a b = sgn a.size b.size) ?_ ?_
 ·
  refine sx7 ?_;refine qy ?_;refine a6 ?_;refine af ?_
  refine ap (ι:=Nat) ⟨[(0,some _),(1,some _)],[]⟩ ⟨⟨c9,c9,trivial⟩,trivial⟩ (fun i=>⟨[(5,some (vI i))],[]⟩) (fun i=>i ≤ a.size ∧ i ≤ b.size ∧ ke ((bl a).drop i) ((bl b).drop i) = ly a b) (fun i=>a.size - i) (0) (⟨Nat.zero_le _,Nat.zero_le _,rfl⟩) ⟨⟨zy,trivial⟩,trivial⟩ ?_
  rintro i ⟨hi1,hi2,hc⟩
  refine a7 ?_;refine sx7 ?_;(iterate 5 refine qy ?_);refine b6 rfl rfl (fun r0=>?_) (fun r0=>?_)
  ·
   have h0:=of_decide_eq_true r0
   try simp only [ty] at h0
   (iterate 4 refine qy ?_ (hg:=(gtt r0)));refine qy ?_;refine a6 ?_;refine a8 _ rfl (fun r1=>?_) (fun r1=>?_)
   ·
    have h1:=r1
    have h1:=cq r0 h1
    have h1:=of_decide_eq_true h1
    try simp only [ty] at h1
    refine aa ?_;refine a7 ?_;refine af ?_;refine a7 ?_;refine aw (E:=b5) ae al [0,1,2,3,4,5,6] ?_;(iterate 7 refine qy ?_);refine a6 ?_;refine ⟨by kernel_rfl, ?_⟩
    refine a8 _ rfl (fun r2=>?_) (fun r2=>?_)
    ·
     have h2:=r2
     have h2:=of_decide_eq_false (az h2)
     try simp only [ty] at h2
     refine a7 ?_;refine aw (E:=b5) ae al [0,1,2,3,4,5,6,7,8,9] ?_;(iterate 8 refine qy ?_);refine rc rfl rfl rfl rfl rfl rfl x8 (aav _ _) (CoL.refl _) rfl rfl ?_;refine qy ?_
     refine a6 ?_;refine ⟨by kernel_rfl, ?_⟩
     exact hx8 rfl rfl rfl (⟨cci (by rw [← hc,a8h i _ _ (by rw [ib];omega) (by rw [ib];omega) (fun e=>h2 ((a51 _ _ _ _).2 e))];rfl),trivial⟩)
    ·
     have h2:=r2
     have h2:=of_decide_eq_true (b4 h2)
     try simp only [ty] at h2
     refine aa ?_;refine gy ?_;(iterate 3 refine qy ?_);refine a6 ?_;refine ⟨i + 1, ?_, ?_, ?_⟩
     · exact ⟨by omega,by omega,by rw [← hc];exact (a80 i _ _ (by rw [ib];omega) (by rw [ib];omega) ((a51 _ _ _ _).1 h2)).symm⟩
     · first | omega | (dsimp only;omega)
     · exact ⟨⟨zy,c9,c9,trivial⟩,trivial⟩
   ·
    have h1:=r1
    have h1:=cq r0 h1
    have h1:=of_decide_eq_false h1
    try simp only [ty] at h1
    refine am ?_;refine ⟨(), ?_, ?_⟩
    · rw [← hc,← ib,← ib];exact a2s i _ _ (by rw [ib];omega) (by rw [ib];omega) (by rw [ib,ib];omega)
    · exact ⟨⟨c9,c9,trivial⟩,trivial⟩
  ·
   have h0:=of_decide_eq_false r0
   try simp only [ty] at h0
   (iterate 4 refine k9 (gft r0) ?_);refine rq rfl rfl rfl rfl rfl ?_ (hp:=r0);refine a6 ?_;refine a8 _ rfl (fun e=>by cases e) (fun _=>?_);refine am ?_;refine ⟨(), ?_, ?_⟩
   · rw [← hc,← ib,← ib];exact a2s i _ _ (by rw [ib];omega) (by rw [ib];omega) (by rw [ib,ib];omega)
   · exact ⟨⟨c9,c9,trivial⟩,trivial⟩
 · rintro _ hj
   refine sx7 ?_;(iterate 4 refine qy ?_);refine rc rfl rfl rfl rfl rfl rfl x8 (aav _ _) (CoL.refl _) rfl rfl ?_;refine qy ?_;refine a6 ?_
   exact hx8 rfl rfl rfl (⟨cci hj.symm,trivial⟩)
theorem aef:ai Tryz.prog 147:=⟨Tryz.f147,Tryz.func147,by kernel_rfl,by kernel_rfl⟩
theorem aqa (a b:Val) (ha:a.str.size ≤ 68719476736) (hb:b.str.size ≤ 68719476736):ak Tryz.prog 147 [a.pc,b.pc] (av [pI (kj a b)]):=by
 refine ag (nt:=28) ae Tryz.func147 rfl rfl l9 ?_;refine sx7 ?_;refine m9 0 ?_;refine m9 1 ?_;refine qy ?_;refine a6 ?_;refine a7 ?_;refine sx7 ?_;(iterate 4 refine qy ?_)
 refine rc rfl rfl rfl rfl rfl rfl x8 (aav _ _) (CoL.refl _) rfl rfl ?_;refine qy ?_;refine a6 ?_;refine sx7 ?_;(iterate 2 refine qy ?_);refine a6 ?_;refine a8 _ rfl (fun r0=>?_) (fun r0=>?_)
 ·
  have h0:=r0
  have h0:=of_decide_eq_false (az h0)
  try simp only [ty] at h0
  refine sx7 ?_;(iterate 2 refine qy ?_);refine a6 ?_
  exact hx8 rfl rfl rfl (⟨cci (by unfold kj;rw [if_pos h0]),trivial⟩)
 ·
  have h0:=r0
  have h0:=of_decide_eq_true (b4 h0)
  try simp only [ty] at h0
  refine aa ?_;refine a7 ?_;refine sx7 ?_;(iterate 4 refine qy ?_);refine rc rfl rfl rfl rfl rfl rfl x8 (aav _ _) (CoL.refl _) rfl rfl ?_;refine qy ?_;refine a6 ?_;refine sx7 ?_;(iterate 2 refine qy ?_)
  refine a6 ?_;refine a8 _ rfl (fun r1=>?_) (fun r1=>?_)
  ·
   have h1:=r1
   have h1:=of_decide_eq_false (az h1)
   try simp only [ty] at h1
   refine sx7 ?_;(iterate 2 refine qy ?_);refine a6 ?_
   exact hx8 rfl rfl rfl (⟨cci (by unfold kj;rw [if_neg (by omega),if_pos h1]),trivial⟩)
  ·
   have h1:=r1
   have h1:=of_decide_eq_true (b4 h1)
   try simp only [ty] at h1
   refine aa ?_;refine sx7 ?_;(iterate 4 refine qy ?_);refine rc rfl rfl rfl rfl rfl rfl ant (av6 _ _ (by assumption) (by assumption)) (CoL.refl _) rfl rfl ?_;refine qy ?_;refine a6 ?_
   exact hx8 rfl rfl rfl (⟨cci (by unfold kj;rw [if_neg (by omega),if_neg (by omega)]),trivial⟩)
end Go.Hx
end
section
namespace Go.Hx
open Go.Proofs
set_option maxRecDepth 100000
set_option maxHeartbeats 1000000
theorem anm:ai Tryz.prog 149:=⟨Tryz.f149,Tryz.func149,by kernel_rfl,by kernel_rfl⟩
theorem avc (a b:List Val) (ha:qz a) (hb:qz b):ak Tryz.prog 149 [pP (vals a),pP (vals b)] (av [pI (io a b)]):=by
 refine ag (nt:=36) ae Tryz.func149 rfl rfl l9 ?_;refine ik 0 rfl (fun hn=>?_);refine sx7 ?_;refine qy ?_;refine a6 ?_
 refine db (ι:=Unit) ⟨[(0,some _),(1,some _)],[]⟩ ⟨⟨c9,c9,trivial⟩,trivial⟩ (fun _i=>⟨[],[]⟩) (fun _i=>io a b = sgn a.length b.length) ?_ ?_
 ·
  refine sx7 ?_;refine qy ?_;refine a6 ?_;refine af ?_
  refine ap (ι:=Nat) ⟨[(0,some _),(1,some _)],[]⟩ ⟨⟨c9,c9,trivial⟩,trivial⟩ (fun i=>⟨[(5,some (vI i))],[]⟩) (fun i=>i ≤ a.length ∧ i ≤ b.length ∧ io (a.drop i) (b.drop i) = io a b) (fun i=>a.length - i) (0) (⟨Nat.zero_le _,Nat.zero_le _,rfl⟩) ⟨⟨zy,trivial⟩,trivial⟩ ?_
  rintro i ⟨hi1,hi2,hc⟩
  refine a7 ?_;refine sx7 ?_;(iterate 5 refine qy ?_);refine b6 rfl rfl (fun r0=>?_) (fun r0=>?_)
  ·
   have h0:=of_decide_eq_true r0
   try simp only [ty] at h0
   (iterate 4 refine qy ?_ (hg:=(gtt r0)));refine qy ?_;refine a6 ?_;refine a8 _ rfl (fun r1=>?_) (fun r1=>?_)
   ·
    have h1:=r1
    have h1:=cq r0 h1
    have h1:=of_decide_eq_true h1
    try simp only [ty] at h1
    refine aa ?_;refine a7 ?_;refine af ?_;refine a7 ?_;refine aw (E:=b5) ae al [0,1,2,3,4,5,6,7,8,9] ?_;(iterate 8 refine qy ?_)
    refine rc rfl rfl rfl rfl rfl rfl aef (aqa _ _ (ha i (by omega)) (hb i (by omega))) (CoL.refl _) rfl rfl ?_;refine qy ?_;refine a6 ?_;refine ⟨by kernel_rfl, ?_⟩;refine sx7 ?_;(iterate 2 refine qy ?_)
    refine a6 ?_;refine a8 _ rfl (fun r2=>?_) (fun r2=>?_)
    ·
     have h2:=r2
     have h2:=of_decide_eq_false (az h2)
     try simp only [ty] at h2
     refine sx7 ?_;(iterate 2 refine qy ?_);refine a6 ?_
     exact hx8 rfl rfl rfl (⟨cci (by rw [← hc];exact (a4z i _ _ (by omega) (by omega) h2).symm),trivial⟩)
    ·
     have h2:=r2
     have h2:=of_decide_eq_true (b4 h2)
     try simp only [ty] at h2
     refine aa ?_;refine gy ?_;(iterate 3 refine qy ?_);refine a6 ?_;refine ⟨i + 1, ?_, ?_, ?_⟩
     · exact ⟨by omega,by omega,by rw [← hc];exact (a4e i _ _ (by omega) (by omega) h2).symm⟩
     · first | omega | (dsimp only;omega)
     · exact ⟨⟨zy,c9,c9,trivial⟩,trivial⟩
   ·
    have h1:=r1
    have h1:=cq r0 h1
    have h1:=of_decide_eq_false h1
    try simp only [ty] at h1
    refine am ?_;refine ⟨(), ?_, ?_⟩
    · rw [← hc];exact a0n i _ _ (by omega) (by omega) (by omega)
    · exact ⟨⟨c9,c9,trivial⟩,trivial⟩
  ·
   have h0:=of_decide_eq_false r0
   try simp only [ty] at h0
   (iterate 4 refine k9 (gft r0) ?_);refine rq rfl rfl rfl rfl rfl ?_ (hp:=r0);refine a6 ?_;refine a8 _ rfl (fun e=>by cases e) (fun _=>?_);refine am ?_;refine ⟨(), ?_, ?_⟩
   · rw [← hc];exact a0n i _ _ (by omega) (by omega) (by omega)
   · exact ⟨⟨c9,c9,trivial⟩,trivial⟩
 · rintro _ hj
   refine sx7 ?_;(iterate 4 refine qy ?_);refine rc rfl rfl rfl rfl rfl rfl x8 (aav _ _) (CoL.refl _) rfl rfl ?_;refine qy ?_;refine a6 ?_
   exact hx8 rfl rfl rfl (⟨cci hj.symm,trivial⟩)
theorem adj:ai Tryz.prog 120:=⟨Tryz.f120,Tryz.func120,by kernel_rfl,by kernel_rfl⟩
theorem c81 (a b:List Val) (ha:qz a) (hb:qz b):ak Tryz.prog 120 [pP (vals a),pP (vals b)] (av [pB (decide (a = b))]):=by
 refine ag (nt:=9) ae Tryz.func120 rfl rfl l9 ?_;refine sx7 ?_;refine qy ?_;refine a6 ?_;refine sx7 ?_;(iterate 2 refine qy ?_)
 refine rc rfl rfl rfl rfl rfl rfl anm (avc a b ha hb) (CoL.refl _) rfl rfl ?_;(iterate 2 refine qy ?_);refine a6 ?_
 exact hx8 rfl rfl rfl (⟨ccb (decide_eq_decide.2 a5m),trivial⟩)
theorem ahf:ai Tryz.prog 97:=⟨Tryz.f97,Tryz.func97,by kernel_rfl,by kernel_rfl⟩
theorem c86 (v:Val):ak Tryz.prog 97 [v.pc] (av [pB (dg v)]):=by
 refine ag (nt:=44) ae Tryz.func97 rfl rfl l9 ?_;refine sx7 ?_;refine m9 0 ?_;refine qy ?_;refine a6 ?_;refine a7 ?_;refine sx7 ?_;(iterate 2 refine qy ?_);refine a6 ?_;refine af ?_
 refine sx7 ?_;(iterate 2 refine qy ?_);refine a6 ?_;refine a8 _ rfl (fun r0=>?_) (fun r0=>?_)
 ·
  have h0:=of_decide_eq_true r0
  try simp only [ty] at h0
  refine sx7 ?_;(iterate 4 refine qy ?_);refine b6 rfl rfl (fun r1=>?_) (fun r1=>?_)
  ·
   have h1:=of_decide_eq_true r1
   try simp only [ty] at h1
   (iterate 3 refine qy ?_ (hg:=(gtt r1)));(iterate 2 refine qy ?_);refine a6 ?_
   exact hx8 rfl rfl rfl (⟨ccb (by simp [dg, *] <;> omega),trivial⟩)
  ·
   have h1:=of_decide_eq_false r1
   try simp only [ty] at h1
   (iterate 3 refine k9 (gft r1) ?_);refine rq rfl rfl rfl rfl rfl ?_ (hp:=r1);refine qy ?_;refine a6 ?_
   exact hx8 rfl rfl rfl (⟨ccb (by simp [dg, *] <;> omega),trivial⟩)
 ·
  have h0:=of_decide_eq_false r0
  try simp only [ty] at h0
  refine sx7 ?_;(iterate 2 refine qy ?_);refine a6 ?_;refine a8 _ rfl (fun r2=>?_) (fun r2=>?_)
  ·
   have h2:=of_decide_eq_true r2
   try simp only [ty] at h2
   refine sx7 ?_;(iterate 4 refine qy ?_);refine a6 ?_
   exact hx8 rfl rfl rfl (⟨ccb (by simp [dg, *] <;> omega),trivial⟩)
  ·
   have h2:=of_decide_eq_false r2
   try simp only [ty] at h2
   refine sx7 ?_;(iterate 2 refine qy ?_);refine a6 ?_;refine a8 _ rfl (fun r3=>?_) (fun r3=>?_)
   ·
    have h3:=of_decide_eq_true r3
    try simp only [ty] at h3
    refine sx7 ?_;(iterate 4 refine qy ?_);refine b6 rfl rfl (fun r4=>?_) (fun r4=>?_)
    ·
     have h4:=of_decide_eq_true r4
     try simp only [ty] at h4
     (iterate 4 refine qy ?_ (hg:=(gtt r4)));(iterate 2 refine qy ?_);refine a6 ?_
     exact hx8 rfl rfl rfl (⟨ccb (by simp [dg, *] <;> omega),trivial⟩)
    ·
     have h4:=of_decide_eq_false r4
     try simp only [ty] at h4
     (iterate 4 refine k9 (gft r4) ?_);refine rq rfl rfl rfl rfl rfl ?_ (hp:=r4);refine qy ?_;refine a6 ?_
     exact hx8 rfl rfl rfl (⟨ccb (by simp [dg, *] <;> omega),trivial⟩)
   ·
    have h3:=of_decide_eq_false r3
    try simp only [ty] at h3
    refine aa ?_;refine sx7 ?_;(iterate 4 refine qy ?_);refine b6 rfl rfl (fun r5=>?_) (fun r5=>?_)
    ·
     have h5:=of_decide_eq_true r5
     try simp only [ty] at h5
     (iterate 3 refine qy ?_ (hg:=(gtt r5)));(iterate 2 refine qy ?_);refine b6 rfl rfl (fun r6=>?_) (fun r6=>?_)
     ·
      have h6:=r6
      have h6:=cq r5 h6
      have h6:=of_decide_eq_true h6
      try simp only [ty] at h6
      (iterate 3 refine qy ?_ (hg:=(gtt r6)));(iterate 2 refine qy ?_);refine a6 ?_
      exact hx8 rfl rfl rfl (⟨ccb (by simp [dg, *] <;> omega),trivial⟩)
     ·
      have h6:=r6
      have h6:=cq r5 h6
      have h6:=of_decide_eq_false h6
      try simp only [ty] at h6
      (iterate 3 refine k9 (gft r6) ?_);refine rq rfl rfl rfl rfl rfl ?_ (hp:=r6);refine qy ?_;refine a6 ?_
      exact hx8 rfl rfl rfl (⟨ccb (by simp [dg, *] <;> omega),trivial⟩)
    ·
     have h5:=of_decide_eq_false r5
     try simp only [ty] at h5
     (iterate 3 refine k9 (gft r5) ?_);refine rq rfl rfl rfl rfl rfl ?_ (hp:=r5);refine qy ?_;(iterate 3 refine k9 rfl ?_);(iterate 2 refine qy ?_);refine a6 ?_
     exact hx8 rfl rfl rfl (⟨ccb (by simp [dg, *] <;> omega),trivial⟩)
theorem ae1:ai Tryz.prog 106:=⟨Tryz.f106,Tryz.func106,by kernel_rfl,by kernel_rfl⟩
theorem c76 (v:Val):ak Tryz.prog 106 [v.pc] (av [pB (dg v)]):=by
 refine ag (nt:=41) ae Tryz.func106 rfl rfl l9 ?_;refine sx7 ?_;refine m9 0 ?_;refine qy ?_;refine a6 ?_;refine a7 ?_;refine sx7 ?_;(iterate 2 refine qy ?_);refine a6 ?_;refine af ?_
 refine sx7 ?_;(iterate 2 refine qy ?_);refine a6 ?_;refine a8 _ rfl (fun r0=>?_) (fun r0=>?_)
 ·
  have h0:=of_decide_eq_true r0
  try simp only [ty] at h0
  refine sx7 ?_;(iterate 4 refine qy ?_);refine b6 rfl rfl (fun r1=>?_) (fun r1=>?_)
  ·
   have h1:=of_decide_eq_true r1
   try simp only [ty] at h1
   (iterate 3 refine qy ?_ (hg:=(gtt r1)));(iterate 2 refine qy ?_);refine a6 ?_
   exact hx8 rfl rfl rfl (⟨ccb (by simp [dg, *] <;> omega),trivial⟩)
  ·
   have h1:=of_decide_eq_false r1
   try simp only [ty] at h1
   (iterate 3 refine k9 (gft r1) ?_);refine rq rfl rfl rfl rfl rfl ?_ (hp:=r1);refine qy ?_;refine a6 ?_
   exact hx8 rfl rfl rfl (⟨ccb (by simp [dg, *] <;> omega),trivial⟩)
 ·
  have h0:=of_decide_eq_false r0
  try simp only [ty] at h0
  refine sx7 ?_;(iterate 2 refine qy ?_);refine a6 ?_;refine a8 _ rfl (fun r2=>?_) (fun r2=>?_)
  ·
   have h2:=of_decide_eq_true r2
   try simp only [ty] at h2
   refine sx7 ?_;(iterate 4 refine qy ?_);refine a6 ?_
   exact hx8 rfl rfl rfl (⟨ccb (by simp [dg, *] <;> omega),trivial⟩)
  ·
   have h2:=of_decide_eq_false r2
   try simp only [ty] at h2
   refine sx7 ?_;(iterate 2 refine qy ?_);refine a6 ?_;refine a8 _ rfl (fun r3=>?_) (fun r3=>?_)
   ·
    have h3:=of_decide_eq_true r3
    try simp only [ty] at h3
    refine sx7 ?_;(iterate 4 refine qy ?_);refine b6 rfl rfl (fun r4=>?_) (fun r4=>?_)
    ·
     have h4:=of_decide_eq_true r4
     try simp only [ty] at h4
     (iterate 4 refine qy ?_ (hg:=(gtt r4)));(iterate 2 refine qy ?_);refine a6 ?_
     exact hx8 rfl rfl rfl (⟨ccb (by simp [dg, *] <;> omega),trivial⟩)
    ·
     have h4:=of_decide_eq_false r4
     try simp only [ty] at h4
     (iterate 4 refine k9 (gft r4) ?_);refine rq rfl rfl rfl rfl rfl ?_ (hp:=r4);refine qy ?_;refine a6 ?_
     exact hx8 rfl rfl rfl (⟨ccb (by simp [dg, *] <;> omega),trivial⟩)
   ·
    have h3:=of_decide_eq_false r3
    try simp only [ty] at h3
    refine sx7 ?_;(iterate 2 refine qy ?_);refine a6 ?_;refine a8 _ rfl (fun r5=>?_) (fun r5=>?_)
    ·
     have h5:=of_decide_eq_true r5
     try simp only [ty] at h5
     refine sx7 ?_;(iterate 4 refine qy ?_);refine b6 rfl rfl (fun r6=>?_) (fun r6=>?_)
     ·
      have h6:=of_decide_eq_true r6
      try simp only [ty] at h6
      (iterate 3 refine qy ?_ (hg:=(gtt r6)));(iterate 2 refine qy ?_);refine a6 ?_
      exact hx8 rfl rfl rfl (⟨ccb (by simp [dg, *] <;> omega),trivial⟩)
     ·
      have h6:=of_decide_eq_false r6
      try simp only [ty] at h6
      (iterate 3 refine k9 (gft r6) ?_);refine rq rfl rfl rfl rfl rfl ?_ (hp:=r6);refine qy ?_;refine a6 ?_
      exact hx8 rfl rfl rfl (⟨ccb (by simp [dg, *] <;> omega),trivial⟩)
    ·
     have h5:=of_decide_eq_false r5
     try simp only [ty] at h5
     refine aa ?_;refine sx7 ?_;refine qy ?_;refine a6 ?_
     exact hx8 rfl rfl rfl (⟨ccb (by simp [dg, *] <;> omega),trivial⟩)
theorem ags:ai Tryz.prog 80:=⟨Tryz.f80,Tryz.func80,by kernel_rfl,by kernel_rfl⟩
theorem c83 (l:List Val):ak Tryz.prog 80 [pP (vals l)] (av [pB (l.all dg)]):=by
 refine ag (nt:=16) ae Tryz.func80 rfl rfl l9 ?_;refine ik 0 rfl (fun hn=>?_);refine sx7 ?_;refine qy ?_;refine a6 ?_
 refine db (ι:=Unit) ⟨[],[]⟩ ⟨trivial,trivial⟩ (fun _i=>⟨[],[]⟩) (fun _i=>l.all dg = true) ?_ ?_
 ·
  refine sx7 ?_;refine qy ?_;refine a6 ?_;refine af ?_
  refine ap (ι:=Nat) ⟨[(0,some _)],[]⟩ ⟨⟨c9,trivial⟩,trivial⟩ (fun i=>⟨[(3,some (vI i))],[]⟩) (fun i=>i ≤ l.length ∧ ∀ j,j < i → dg (l.getD j default) = true) (fun i=>l.length - i) (0) (⟨Nat.zero_le _,df⟩) ⟨⟨zy,trivial⟩,trivial⟩ ?_
  rintro i ⟨hi,hI⟩
  refine a7 ?_;refine sx7 ?_;(iterate 4 refine qy ?_);refine a6 ?_;refine a8 _ rfl (fun r0=>?_) (fun r0=>?_)
  ·
   have h0:=of_decide_eq_true r0
   try simp only [ty] at h0
   refine aa ?_;refine a7 ?_;refine af ?_;refine sx7 ?_;(iterate 4 refine qy ?_);refine rc rfl rfl rfl rfl rfl rfl ahf (c86 _) (CoL.refl _) rfl rfl ?_;refine qy ?_;refine a6 ?_
   refine a8 _ rfl (fun r1=>?_) (fun r1=>?_)
   ·
    have h1:=r1
    have h1:=az h1
    refine sx7 ?_;refine qy ?_;refine a6 ?_
    exact hx8 rfl rfl rfl (⟨ccb (au0 (by omega) h1).symm,trivial⟩)
   ·
    have h1:=r1
    have h1:=b4 h1
    refine aa ?_;refine gy ?_;(iterate 3 refine qy ?_);refine a6 ?_;refine ⟨i + 1, ?_, ?_, ?_⟩
    · exact ⟨by omega,cz hI (h1)⟩
    · first | omega | (dsimp only;omega)
    · exact ⟨⟨zy,c9,trivial⟩,trivial⟩
  ·
   have h0:=of_decide_eq_false r0
   try simp only [ty] at h0
   refine am ?_;refine ⟨(), ?_, ?_⟩
   · exact auq fun j hj=>hI j (by omega)
   · exact ⟨trivial,trivial⟩
 · rintro _ hj
   refine sx7 ?_;refine qy ?_;refine a6 ?_
   exact hx8 rfl rfl rfl (⟨ccb hj.symm,trivial⟩)
theorem apv:ai Tryz.prog 85:=⟨Tryz.f85,Tryz.func85,by kernel_rfl,by kernel_rfl⟩
theorem c54 (a b:Row) (ha:a.ok) (hb:b.ok):ak Tryz.prog 85 [a.pc,b.pc] (av [pB (decide (a = b))]):=by
 refine ag (nt:=17) ae Tryz.func85 rfl rfl l9 ?_;refine sx7 ?_;refine m9 0 ?_;refine m9 1 ?_;refine qy ?_;refine a6 ?_;refine sx7 ?_;(iterate 6 refine qy ?_)
 refine b6 rfl rfl (fun r0=>?_) (fun r0=>?_)
 ·
  have h0:=of_decide_eq_true r0
  try simp only [ty] at h0
  (iterate 4 refine qy ?_ (hg:=(gtt r0)));refine rc rfl rfl rfl rfl rfl rfl adj (c81 a.vals b.vals ha.2 hb.2) (CoL.refl _) rfl (gtt r0) ?_;(iterate 2 refine qy ?_);refine a6 ?_
  exact hx8 rfl rfl rfl (⟨ccb (by simp [Row.eq_iff, *]),trivial⟩)
 ·
  have h0:=of_decide_eq_false r0
  try simp only [ty] at h0
  (iterate 5 refine k9 (gft r0) ?_);refine rq rfl rfl rfl rfl rfl ?_ (hp:=r0);refine qy ?_;refine a6 ?_
  exact hx8 rfl rfl rfl (⟨ccb (by simp [Row.eq_iff, *]),trivial⟩)
theorem asi:ai Tryz.prog 84:=⟨Tryz.f84,Tryz.func84,by kernel_rfl,by kernel_rfl⟩
theorem c75 (a b:List ByteArray):ak Tryz.prog 84 [pP (gc a),pP (gc b)] (av [pB (decide (a = b))]):=by
 refine ag (nt:=26) ae Tryz.func84 rfl rfl l9 ?_;refine ik 0 rfl (fun hn=>?_);refine sx7 ?_;refine qy ?_;refine a6 ?_;refine a7 ?_;refine sx7 ?_;(iterate 5 refine qy ?_);refine a6 ?_
 refine a8 _ rfl (fun r0=>?_) (fun r0=>?_)
 ·
  have h0:=r0
  have h0:=of_decide_eq_false (az h0)
  try simp only [ty] at h0
  refine sx7 ?_;refine qy ?_;refine a6 ?_
  exact hx8 rfl rfl rfl (⟨ccb (decide_eq_false (fun e=>h0 (by rw [e]))).symm,trivial⟩)
 ·
  have h0:=r0
  have h0:=of_decide_eq_true (b4 h0)
  try simp only [ty] at h0
  refine aa ?_;refine db (ι:=Unit) ⟨[],[]⟩ ⟨trivial,trivial⟩ (fun _i=>⟨[],[]⟩) (fun _i=>a = b) ?_ ?_
  ·
   refine sx7 ?_;refine qy ?_;refine a6 ?_;refine af ?_
   refine ap (ι:=Nat) ⟨[(0,some _),(1,some _)],[]⟩ ⟨⟨c9,c9,trivial⟩,trivial⟩ (fun i=>⟨[(5,some (vI i))],[]⟩) (fun i=>i ≤ a.length ∧ ∀ j,j < i → a.getD j default = b.getD j default) (fun i=>a.length - i) (0) (⟨Nat.zero_le _,df⟩) ⟨⟨zy,trivial⟩,trivial⟩ ?_
   rintro i ⟨hi,hI⟩
   refine a7 ?_;refine sx7 ?_;(iterate 4 refine qy ?_);refine a6 ?_;refine a8 _ rfl (fun r1=>?_) (fun r1=>?_)
   ·
    have h1:=of_decide_eq_true r1
    try simp only [ty] at h1
    refine aa ?_;refine a7 ?_;refine af ?_;refine a7 ?_;refine aw (E:=b5) ae al [0,1,2,3,4,5,6,7,8] ?_;(iterate 9 refine qy ?_);refine a6 ?_;refine ⟨by kernel_rfl, ?_⟩
    refine a8 _ rfl (fun r2=>?_) (fun r2=>?_)
    ·
     have h2:=r2
     have h2:=of_decide_eq_false (az h2)
     try simp only [ty] at h2
     refine sx7 ?_;refine qy ?_;refine a6 ?_
     exact hx8 rfl rfl rfl (⟨ccb (decide_eq_false (fun e=>h2 (by subst e;rfl))).symm,trivial⟩)
    ·
     have h2:=r2
     have h2:=of_decide_eq_true (b4 h2)
     try simp only [ty] at h2
     refine aa ?_;refine gy ?_;(iterate 3 refine qy ?_);refine a6 ?_;refine ⟨i + 1, ?_, ?_, ?_⟩
     · exact ⟨by omega,cz hI (h2)⟩
     · first | omega | (dsimp only;omega)
     · exact ⟨⟨zy,c9,c9,trivial⟩,trivial⟩
   ·
    have h1:=of_decide_eq_false r1
    try simp only [ty] at h1
    refine am ?_;refine ⟨(), ?_, ?_⟩
    · exact a1l (by omega) fun j hj=>hI j (by omega)
    · exact ⟨trivial,trivial⟩
  · rintro _ hj
    refine sx7 ?_;refine qy ?_;refine a6 ?_
    exact hx8 rfl rfl rfl (⟨ccb (decide_eq_true hj).symm,trivial⟩)
theorem as4:ai Tryz.prog 46:=⟨Tryz.f46,Tryz.func46,by kernel_rfl,by kernel_rfl⟩
theorem c47 (a b:Tbl) (ha:a.ok) (hb:b.ok):ak Tryz.prog 46 [a.pc,b.pc] (av [pB (decide (a = b))]):=by
 refine ag (nt:=47) ae Tryz.func46 rfl rfl l9 ?_;refine sx7 ?_;refine m9 0 ?_;refine m9 1 ?_;refine qy ?_;refine a6 ?_;(iterate 2 refine a7 ?_);refine amk 0 2 rfl rfl (fun hn=>?_);refine gy ?_
 (iterate 6 refine qy ?_);refine b6 rfl rfl (fun r0=>?_) (fun r0=>?_)
 ·
  have h0:=r0
  have h0:=of_decide_eq_false (az h0)
  try simp only [ty] at h0
  (iterate 6 refine k9 (gtf r0) ?_);refine rq rfl rfl rfl rfl rfl ?_ (hp:=r0);refine qy ?_;(iterate 7 refine k9 rfl ?_);refine qy ?_;refine a6 ?_;refine a8 _ rfl (fun _=>?_) (fun e=>by cases e);refine sx7 ?_
  refine qy ?_;refine a6 ?_
  exact hx8 rfl rfl rfl (⟨ccb (decide_eq_false (fun e=>by subst e;simp_all)).symm,trivial⟩)
 ·
  have h0:=r0
  have h0:=of_decide_eq_true (b4 h0)
  try simp only [ty] at h0
  (iterate 4 refine qy ?_ (hg:=(gff r0)));refine rc rfl rfl rfl rfl rfl rfl asi (c75 _ _) (CoL.refl _) rfl (gff r0) ?_;refine qy ?_ (hg:=(gff r0));(iterate 2 refine qy ?_)
  refine b6 rfl rfl (fun r1=>?_) (fun r1=>?_)
  ·
   have h1:=r1
   have h1:=bj r0 h1
   have h1:=az h1
   (iterate 7 refine k9 (gtf r1) ?_);refine rq rfl rfl rfl rfl rfl ?_ (hp:=r1);refine a6 ?_;refine a8 _ rfl (fun _=>?_) (fun e=>by cases e);refine sx7 ?_;refine qy ?_;refine a6 ?_
   exact hx8 rfl rfl rfl (⟨ccb (decide_eq_false (fun e=>by subst e;simp_all)).symm,trivial⟩)
  ·
   have h1:=r1
   have h1:=bj r0 h1
   have h1:=b4 h1
   (iterate 7 refine qy ?_ (hg:=(gff r1)));refine qy ?_;refine a6 ?_;refine a8 _ rfl (fun r2=>?_) (fun r2=>?_)
   ·
    have h2:=r2
    have h2:=bj r1 h2
    have h2:=of_decide_eq_false (az h2)
    try simp only [ty] at h2
    refine sx7 ?_;refine qy ?_;refine a6 ?_
    exact hx8 rfl rfl rfl (⟨ccb (decide_eq_false (fun e=>by subst e;simp_all)).symm,trivial⟩)
   ·
    have h2:=r2
    have h2:=bj r1 h2
    have h2:=of_decide_eq_true (b4 h2)
    try simp only [ty] at h2
    refine aa ?_;refine db (ι:=Unit) ⟨[],[]⟩ ⟨trivial,trivial⟩ (fun _i=>⟨[],[]⟩) (fun _i=>a = b) ?_ ?_
    ·
     refine sx7 ?_;refine qy ?_;refine a6 ?_;refine af ?_
     refine ap (ι:=Nat) ⟨[(2,some _),(3,some _)],[(0,some _),(1,some _)]⟩ ⟨⟨c9,c9,trivial⟩,⟨u9,u9,trivial⟩⟩ (fun i=>⟨[(5,some (vI i))],[]⟩) (fun i=>i ≤ a.rows.length ∧ ∀ j,j < i → a.rows.getD j default = b.rows.getD j default) (fun i=>a.rows.length - i) (0) (⟨Nat.zero_le _,df⟩) ⟨⟨zy,trivial⟩,trivial⟩ ?_
     rintro i ⟨hi,hI⟩
     refine a7 ?_;refine sx7 ?_;(iterate 5 refine qy ?_);refine a6 ?_;refine a8 _ rfl (fun r3=>?_) (fun r3=>?_)
     ·
      have h3:=of_decide_eq_true r3
      try simp only [ty] at h3
      refine aa ?_;refine a7 ?_;refine af ?_;refine a7 ?_;refine aw (E:=b5) ae al [0,1,2,3,4,5,6,7,8,9,10,11] ?_;(iterate 10 refine qy ?_)
      refine rc rfl rfl rfl rfl rfl rfl apv (c54 _ _ (ha.2.2 i (by omega)) (hb.2.2 i (by omega))) (CoL.refl _) rfl rfl ?_;refine qy ?_;refine a6 ?_;refine ⟨by kernel_rfl, ?_⟩
      refine a8 _ rfl (fun r4=>?_) (fun r4=>?_)
      ·
       have h4:=r4
       have h4:=az h4
       have hN:=of_decide_eq_false h4
       refine sx7 ?_;refine qy ?_;refine a6 ?_
       exact hx8 rfl rfl rfl (⟨ccb (decide_eq_false (fun e=>by subst e;simp_all)).symm,trivial⟩)
      ·
       have h4:=r4
       have h4:=b4 h4
       have hN:=of_decide_eq_true h4
       refine aa ?_;refine gy ?_;(iterate 3 refine qy ?_);refine a6 ?_;refine ⟨i + 1, ?_, ?_, ?_⟩
       · exact ⟨by omega,cz hI (hN)⟩
       · first | omega | (dsimp only;omega)
       · exact ⟨⟨zy,c9,c9,trivial⟩,⟨u9,u9,trivial⟩⟩
     ·
      have h3:=of_decide_eq_false r3
      try simp only [ty] at h3
      refine am ?_;refine ⟨(), ?_, ?_⟩
      · exact Tbl.eq_iff.2 ⟨by assumption,by simp_all,a1l (by omega) fun j hj=>hI j (by omega)⟩
      · exact ⟨trivial,trivial⟩
    · rintro _ hj
      refine sx7 ?_;refine qy ?_;refine a6 ?_
      exact hx8 rfl rfl rfl (⟨ccb (decide_eq_true hj).symm,trivial⟩)
end Go.Hx
end

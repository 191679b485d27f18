/- A part of the proof: Rb33 W1 W2. -/
import Derived.Test.YtaegkccfbmekbaaGreatNq15
import Derived.Test.YtaegkccfbmekbaaGreatNq21
import Derived.Test.YtaegkccfbmekbaaGreatNq26
set_option linter.all false
section
namespace Go.Hx
open Go.Proofs
theorem own:ownKnob Tryz.prog.godebug = none:=by kernel_rfl
theorem arb {j:Nat} (h:j < 1):j = 0:=by omega
theorem rd5:Rd Tryz.prog 5 1 u8C:=(au4 Tryz.underlying5).co id fun a j hj=>by obtain rfl:=arb hj;exact CoP.refl _
theorem av9:Rd Tryz.prog 42 1 ar1:=(aaa Tryz.underlying42 (by kernel_rfl) (by omega) rd5).co id fun a j hj=>by obtain rfl:=arb hj;exact CoP.refl _
theorem awa:Rd Tryz.prog 58 4 MOp.c:=by
 intro H enc w sp held fuel cs x h
 obtain ⟨hl,n,hf⟩:=a8i Tryz.underlying58 h
 obtain ⟨y0,e0⟩:=hf 0 _ rfl
 obtain ⟨y1,e1⟩:=hf 1 _ rfl
 obtain ⟨y2,e2⟩:=hf 2 _ rfl
 obtain ⟨y3,e3⟩:=hf 3 _ rfl
 obtain ⟨a0,h0⟩:=pz rd5 e0
 obtain ⟨a1,h1⟩:=pz rd5 e1
 obtain ⟨a2,h2⟩:=pz rd5 e2
 obtain ⟨a3,h3⟩:=pz av9 e3
 refine ⟨hl.trans (by kernel_rfl),(⟨a0,a1,a2,a3⟩:MOp),fun j hj=>?_⟩
 match j,hj with
 | 0,_=>exact h0 0 (by omega)
 | 1,_=>exact h1 0 (by omega)
 | 2,_=>exact h2 0 (by omega)
 | 3,_=>exact h3 0 (by omega)
theorem ave:Rd Tryz.prog 52 1 (aq3 4 MOp.c):=aaa Tryz.underlying52 (by kernel_rfl) (by omega) awa
theorem aqd:Rd Tryz.prog 54 2 Scr.c:=by
 intro H enc w sp held fuel cs x h
 obtain ⟨hl,n,hf⟩:=a8i Tryz.underlying54 h
 obtain ⟨y0,e0⟩:=hf 0 _ rfl
 obtain ⟨y1,e1⟩:=hf 1 _ rfl
 obtain ⟨a0,h0⟩:=pz rd5 e0
 obtain ⟨a1,h1⟩:=pz ave e1
 refine ⟨hl.trans (by kernel_rfl),(⟨a0,a1⟩:Scr),fun j hj=>?_⟩
 match j,hj with
 | 0,_=>exact h0 0 (by omega)
 | 1,_=>exact h1 0 (by omega)
theorem aw7 {W:World}:ov (fp W):=fun b off v hv=>by unfold a19 sw at hv;simp at hv
theorem amx:laidOutB Tryz.prog = true:=by kernel_rfl
theorem auv:Tryz.prog.readableRec 54 = true ∧ 54 < Tryz.prog.types.size:=⟨by kernel_rfl,of_decide_eq_true (by kernel_rfl)⟩
end Go.Hx
end
section
namespace Go.Hx
open Go.Proofs
set_option maxRecDepth 100000
theorem xk:aj Tryz.prog 163:=⟨Tryz.f163,Tryz.func163,by kernel_rfl,by kernel_rfl⟩
theorem abz (a b:Int):ap Tryz.prog 163 [pI a,pI b] (b4 [pI (sgn a b)]):=by
 refine ah (nt:=11) ae Tryz.func163 rfl rfl l9 ?_;refine sx7 ?_;refine qy ?_;refine a6 ?_;refine a7 ?_;refine sx7 ?_;(iterate 3 refine qy ?_);refine a6 ?_
 refine a8 _ rfl (fun r0=>?_) (fun r0=>?_)
 ·
  have h0:=of_decide_eq_true r0
  try simp only [ty] at h0
  refine sx7 ?_;refine qy ?_;refine a6 ?_
  exact hx8 rfl rfl rfl (⟨cci (by unfold sgn;rw [if_pos h0]),trivial⟩)
 ·
  have h0:=of_decide_eq_false r0
  try simp only [ty] at h0
  refine aa ?_;refine a7 ?_;refine sx7 ?_;(iterate 3 refine qy ?_);refine a6 ?_;refine a8 _ rfl (fun r1=>?_) (fun r1=>?_)
  ·
   have h1:=of_decide_eq_true r1
   try simp only [ty] at h1
   refine sx7 ?_;refine qy ?_;refine a6 ?_
   exact hx8 rfl rfl rfl (⟨cci (by unfold sgn;rw [if_neg h0,if_pos h1]),trivial⟩)
  ·
   have h1:=of_decide_eq_false r1
   try simp only [ty] at h1
   refine aa ?_;refine sx7 ?_;refine qy ?_;refine a6 ?_
   exact hx8 rfl rfl rfl (⟨cci (by unfold sgn;rw [if_neg h0,if_neg h1]),trivial⟩)
theorem ap3:aj Tryz.prog 164:=⟨Tryz.f164,Tryz.func164,by kernel_rfl,by kernel_rfl⟩
theorem av3 (a b:ByteArray) (ha:a.size ≤ 68719476736) (hb:b.size ≤ 68719476736):ap Tryz.prog 164 [pS a,pS b] (b4 [pI (m8 a b)]):=by
 refine ah (nt:=39) ae Tryz.func164 rfl rfl l9 ?_;refine sx7 ?_;refine qy ?_;refine a6 ?_
 refine db (ι:=Unit) ⟨[(0,some _),(1,some _)],[]⟩ ⟨⟨c9,c9,trivial⟩,trivial⟩ (fun _i=>⟨[],[]⟩) (fun _i=>m8 a b = sgn a.size b.size) ?_ ?_
 ·
  refine sx7 ?_;refine qy ?_;refine a6 ?_;refine af ?_
  refine av (ι:=Nat) ⟨[(0,some _),(1,some _)],[]⟩ ⟨⟨c9,c9,trivial⟩,trivial⟩ (fun i=>⟨[(5,some (vI i))],[]⟩) (fun i=>i ≤ a.size ∧ i ≤ b.size ∧ ke ((bl a).drop i) ((bl b).drop i) = m8 a b) (fun i=>a.size - i) (0) (⟨Nat.zero_le _,Nat.zero_le _,rfl⟩) ⟨⟨zy,trivial⟩,trivial⟩ ?_
  rintro i ⟨hi1,hi2,hc⟩
  refine a7 ?_;refine sx7 ?_;(iterate 5 refine qy ?_);refine b5 rfl rfl (fun r0=>?_) (fun r0=>?_)
  ·
   have h0:=of_decide_eq_true r0
   try simp only [ty] at h0
   (iterate 4 refine qy ?_ (hg:=(gtt r0)));refine qy ?_;refine a6 ?_;refine a8 _ rfl (fun r1=>?_) (fun r1=>?_)
   ·
    have h1:=r1
    have h1:=d4 r0 h1
    have h1:=of_decide_eq_true h1
    try simp only [ty] at h1
    refine aa ?_;refine a7 ?_;refine af ?_;refine a7 ?_;refine ax (E:=aq) ae ak [0,1,2,3,4,5,6] ?_;(iterate 7 refine qy ?_);refine a6 ?_;refine ⟨by kernel_rfl, ?_⟩
    refine a8 _ rfl (fun r2=>?_) (fun r2=>?_)
    ·
     have h2:=r2
     have h2:=of_decide_eq_false (be h2)
     try simp only [ty] at h2
     refine a7 ?_;refine ax (E:=aq) ae ak [0,1,2,3,4,5,6,7,8,9] ?_;(iterate 8 refine qy ?_);refine rc rfl rfl rfl rfl rfl rfl xk (abz _ _) (CoL.refl _) rfl rfl ?_;refine qy ?_
     refine a6 ?_;refine ⟨by kernel_rfl, ?_⟩
     exact hx8 rfl rfl rfl (⟨cci (by rw [← hc,a7r i _ _ (by rw [i5];omega) (by rw [i5];omega) (fun e=>h2 ((a4f _ _ _ _).2 e))];rfl),trivial⟩)
    ·
     have h2:=r2
     have h2:=of_decide_eq_true (bf h2)
     try simp only [ty] at h2
     refine aa ?_;refine gy ?_;(iterate 3 refine qy ?_);refine a6 ?_;refine ⟨i + 1, ?_, ?_, ?_⟩
     · exact ⟨by omega,by omega,by rw [← hc];exact (a7t i _ _ (by rw [i5];omega) (by rw [i5];omega) ((a4f _ _ _ _).1 h2)).symm⟩
     · first | omega | (dsimp only;omega)
     · exact ⟨⟨zy,c9,c9,trivial⟩,trivial⟩
   ·
    have h1:=r1
    have h1:=d4 r0 h1
    have h1:=of_decide_eq_false h1
    try simp only [ty] at h1
    refine au ?_;refine ⟨(), ?_, ?_⟩
    · rw [← hc,← i5,← i5];exact a3m i _ _ (by rw [i5];omega) (by rw [i5];omega) (by rw [i5,i5];omega)
    · exact ⟨⟨c9,c9,trivial⟩,trivial⟩
  ·
   have h0:=of_decide_eq_false r0
   try simp only [ty] at h0
   (iterate 4 refine k9 (gft r0) ?_);refine rq rfl rfl rfl rfl rfl ?_ (hp:=r0);refine a6 ?_;refine a8 _ rfl (fun e=>by cases e) (fun _=>?_);refine au ?_;refine ⟨(), ?_, ?_⟩
   · rw [← hc,← i5,← i5];exact a3m i _ _ (by rw [i5];omega) (by rw [i5];omega) (by rw [i5,i5];omega)
   · exact ⟨⟨c9,c9,trivial⟩,trivial⟩
 · rintro _ hj
   refine sx7 ?_;(iterate 4 refine qy ?_);refine rc rfl rfl rfl rfl rfl rfl xk (abz _ _) (CoL.refl _) rfl rfl ?_;refine qy ?_;refine a6 ?_
   exact hx8 rfl rfl rfl (⟨cci hj.symm,trivial⟩)
theorem adq:aj Tryz.prog 147:=⟨Tryz.f147,Tryz.func147,by kernel_rfl,by kernel_rfl⟩
theorem ar3 (a b:Val) (ha:a.str.size ≤ 68719476736) (hb:b.str.size ≤ 68719476736):ap Tryz.prog 147 [a.pc,b.pc] (b4 [pI (kj a b)]):=by
 refine ah (nt:=28) ae Tryz.func147 rfl rfl l9 ?_;refine sx7 ?_;refine m9 0 ?_;refine m9 1 ?_;refine qy ?_;refine a6 ?_;refine a7 ?_;refine sx7 ?_;(iterate 4 refine qy ?_)
 refine rc rfl rfl rfl rfl rfl rfl xk (abz _ _) (CoL.refl _) rfl rfl ?_;refine qy ?_;refine a6 ?_;refine sx7 ?_;(iterate 2 refine qy ?_);refine a6 ?_;refine a8 _ rfl (fun r0=>?_) (fun r0=>?_)
 ·
  have h0:=r0
  have h0:=of_decide_eq_false (be h0)
  try simp only [ty] at h0
  refine sx7 ?_;(iterate 2 refine qy ?_);refine a6 ?_
  exact hx8 rfl rfl rfl (⟨cci (by unfold kj;rw [if_pos h0]),trivial⟩)
 ·
  have h0:=r0
  have h0:=of_decide_eq_true (bf h0)
  try simp only [ty] at h0
  refine aa ?_;refine a7 ?_;refine sx7 ?_;(iterate 4 refine qy ?_);refine rc rfl rfl rfl rfl rfl rfl xk (abz _ _) (CoL.refl _) rfl rfl ?_;refine qy ?_;refine a6 ?_;refine sx7 ?_;(iterate 2 refine qy ?_)
  refine a6 ?_;refine a8 _ rfl (fun r1=>?_) (fun r1=>?_)
  ·
   have h1:=r1
   have h1:=of_decide_eq_false (be h1)
   try simp only [ty] at h1
   refine sx7 ?_;(iterate 2 refine qy ?_);refine a6 ?_
   exact hx8 rfl rfl rfl (⟨cci (by unfold kj;rw [if_neg (by omega),if_pos h1]),trivial⟩)
  ·
   have h1:=r1
   have h1:=of_decide_eq_true (bf h1)
   try simp only [ty] at h1
   refine aa ?_;refine sx7 ?_;(iterate 4 refine qy ?_);refine rc rfl rfl rfl rfl rfl rfl ap3 (av3 _ _ (by assumption) (by assumption)) (CoL.refl _) rfl rfl ?_;refine qy ?_;refine a6 ?_
   exact hx8 rfl rfl rfl (⟨cci (by unfold kj;rw [if_neg (by omega),if_neg (by omega)]),trivial⟩)
end Go.Hx
end
section
namespace Go.Hx
open Go.Proofs
set_option maxRecDepth 100000
set_option maxHeartbeats 1000000
theorem ap0:aj Tryz.prog 149:=⟨Tryz.f149,Tryz.func149,by kernel_rfl,by kernel_rfl⟩
theorem av8 (a b:List Val) (ha:rl a) (hb:rl b):ap Tryz.prog 149 [pP (vals a),pP (vals b)] (b4 [pI (ia a b)]):=by
 refine ah (nt:=36) ae Tryz.func149 rfl rfl l9 ?_;refine j0 0 rfl (fun hn=>?_);refine sx7 ?_;refine qy ?_;refine a6 ?_
 refine db (ι:=Unit) ⟨[(0,some _),(1,some _)],[]⟩ ⟨⟨c9,c9,trivial⟩,trivial⟩ (fun _i=>⟨[],[]⟩) (fun _i=>ia a b = sgn a.length b.length) ?_ ?_
 ·
  refine sx7 ?_;refine qy ?_;refine a6 ?_;refine af ?_
  refine av (ι:=Nat) ⟨[(0,some _),(1,some _)],[]⟩ ⟨⟨c9,c9,trivial⟩,trivial⟩ (fun i=>⟨[(5,some (vI i))],[]⟩) (fun i=>i ≤ a.length ∧ i ≤ b.length ∧ ia (a.drop i) (b.drop i) = ia a b) (fun i=>a.length - i) (0) (⟨Nat.zero_le _,Nat.zero_le _,rfl⟩) ⟨⟨zy,trivial⟩,trivial⟩ ?_
  rintro i ⟨hi1,hi2,hc⟩
  refine a7 ?_;refine sx7 ?_;(iterate 5 refine qy ?_);refine b5 rfl rfl (fun r0=>?_) (fun r0=>?_)
  ·
   have h0:=of_decide_eq_true r0
   try simp only [ty] at h0
   (iterate 4 refine qy ?_ (hg:=(gtt r0)));refine qy ?_;refine a6 ?_;refine a8 _ rfl (fun r1=>?_) (fun r1=>?_)
   ·
    have h1:=r1
    have h1:=d4 r0 h1
    have h1:=of_decide_eq_true h1
    try simp only [ty] at h1
    refine aa ?_;refine a7 ?_;refine af ?_;refine a7 ?_;refine ax (E:=aq) ae ak [0,1,2,3,4,5,6,7,8,9] ?_;(iterate 8 refine qy ?_)
    refine rc rfl rfl rfl rfl rfl rfl adq (ar3 _ _ (ha i (by omega)) (hb i (by omega))) (CoL.refl _) rfl rfl ?_;refine qy ?_;refine a6 ?_;refine ⟨by kernel_rfl, ?_⟩;refine sx7 ?_;(iterate 2 refine qy ?_)
    refine a6 ?_;refine a8 _ rfl (fun r2=>?_) (fun r2=>?_)
    ·
     have h2:=r2
     have h2:=of_decide_eq_false (be h2)
     try simp only [ty] at h2
     refine sx7 ?_;(iterate 2 refine qy ?_);refine a6 ?_
     exact hx8 rfl rfl rfl (⟨cci (by rw [← hc];exact (a40 i _ _ (by omega) (by omega) h2).symm),trivial⟩)
    ·
     have h2:=r2
     have h2:=of_decide_eq_true (bf h2)
     try simp only [ty] at h2
     refine aa ?_;refine gy ?_;(iterate 3 refine qy ?_);refine a6 ?_;refine ⟨i + 1, ?_, ?_, ?_⟩
     · exact ⟨by omega,by omega,by rw [← hc];exact (a4c i _ _ (by omega) (by omega) h2).symm⟩
     · first | omega | (dsimp only;omega)
     · exact ⟨⟨zy,c9,c9,trivial⟩,trivial⟩
   ·
    have h1:=r1
    have h1:=d4 r0 h1
    have h1:=of_decide_eq_false h1
    try simp only [ty] at h1
    refine au ?_;refine ⟨(), ?_, ?_⟩
    · rw [← hc];exact a0u i _ _ (by omega) (by omega) (by omega)
    · exact ⟨⟨c9,c9,trivial⟩,trivial⟩
  ·
   have h0:=of_decide_eq_false r0
   try simp only [ty] at h0
   (iterate 4 refine k9 (gft r0) ?_);refine rq rfl rfl rfl rfl rfl ?_ (hp:=r0);refine a6 ?_;refine a8 _ rfl (fun e=>by cases e) (fun _=>?_);refine au ?_;refine ⟨(), ?_, ?_⟩
   · rw [← hc];exact a0u i _ _ (by omega) (by omega) (by omega)
   · exact ⟨⟨c9,c9,trivial⟩,trivial⟩
 · rintro _ hj
   refine sx7 ?_;(iterate 4 refine qy ?_);refine rc rfl rfl rfl rfl rfl rfl xk (abz _ _) (CoL.refl _) rfl rfl ?_;refine qy ?_;refine a6 ?_
   exact hx8 rfl rfl rfl (⟨cci hj.symm,trivial⟩)
theorem ads:aj Tryz.prog 120:=⟨Tryz.f120,Tryz.func120,by kernel_rfl,by kernel_rfl⟩
theorem c81 (a b:List Val) (ha:rl a) (hb:rl b):ap Tryz.prog 120 [pP (vals a),pP (vals b)] (b4 [pB (decide (a = b))]):=by
 refine ah (nt:=9) ae Tryz.func120 rfl rfl l9 ?_;refine sx7 ?_;refine qy ?_;refine a6 ?_;refine sx7 ?_;(iterate 2 refine qy ?_)
 refine rc rfl rfl rfl rfl rfl rfl ap0 (av8 a b ha hb) (CoL.refl _) rfl rfl ?_;(iterate 2 refine qy ?_);refine a6 ?_
 exact hx8 rfl rfl rfl (⟨ccb (decide_eq_decide.2 a5h),trivial⟩)
theorem agv:aj Tryz.prog 97:=⟨Tryz.f97,Tryz.func97,by kernel_rfl,by kernel_rfl⟩
theorem c86 (v:Val):ap Tryz.prog 97 [v.pc] (b4 [pB (dg v)]):=by
 refine ah (nt:=44) ae Tryz.func97 rfl rfl l9 ?_;refine sx7 ?_;refine m9 0 ?_;refine qy ?_;refine a6 ?_;refine a7 ?_;refine sx7 ?_;(iterate 2 refine qy ?_);refine a6 ?_;refine af ?_
 refine sx7 ?_;(iterate 2 refine qy ?_);refine a6 ?_;refine a8 _ rfl (fun r0=>?_) (fun r0=>?_)
 ·
  have h0:=of_decide_eq_true r0
  try simp only [ty] at h0
  refine sx7 ?_;(iterate 4 refine qy ?_);refine b5 rfl rfl (fun r1=>?_) (fun r1=>?_)
  ·
   have h1:=of_decide_eq_true r1
   try simp only [ty] at h1
   (iterate 3 refine qy ?_ (hg:=(gtt r1)));(iterate 2 refine qy ?_);refine a6 ?_
   exact hx8 rfl rfl rfl (⟨ccb (by simp [dg, *] <;> omega),trivial⟩)
  ·
   have h1:=of_decide_eq_false r1
   try simp only [ty] at h1
   (iterate 3 refine k9 (gft r1) ?_);refine rq rfl rfl rfl rfl rfl ?_ (hp:=r1);refine qy ?_;refine a6 ?_
   exact hx8 rfl rfl rfl (⟨ccb (by simp [dg, *] <;> omega),trivial⟩)
 ·
  have h0:=of_decide_eq_false r0
  try simp only [ty] at h0
  refine sx7 ?_;(iterate 2 refine qy ?_);refine a6 ?_;refine a8 _ rfl (fun r2=>?_) (fun r2=>?_)
  ·
   have h2:=of_decide_eq_true r2
   try simp only [ty] at h2
   refine sx7 ?_;(iterate 4 refine qy ?_);refine a6 ?_
   exact hx8 rfl rfl rfl (⟨ccb (by simp [dg, *] <;> omega),trivial⟩)
  ·
   have h2:=of_decide_eq_false r2
   try simp only [ty] at h2
   refine sx7 ?_;(iterate 2 refine qy ?_);refine a6 ?_;refine a8 _ rfl (fun r3=>?_) (fun r3=>?_)
   ·
    have h3:=of_decide_eq_true r3
    try simp only [ty] at h3
    refine sx7 ?_;(iterate 4 refine qy ?_);refine b5 rfl rfl (fun r4=>?_) (fun r4=>?_)
    ·
     have h4:=of_decide_eq_true r4
     try simp only [ty] at h4
     (iterate 4 refine qy ?_ (hg:=(gtt r4)));(iterate 2 refine qy ?_);refine a6 ?_
     exact hx8 rfl rfl rfl (⟨ccb (by simp [dg, *] <;> omega),trivial⟩)
    ·
     have h4:=of_decide_eq_false r4
     try simp only [ty] at h4
     (iterate 4 refine k9 (gft r4) ?_);refine rq rfl rfl rfl rfl rfl ?_ (hp:=r4);refine qy ?_;refine a6 ?_
     exact hx8 rfl rfl rfl (⟨ccb (by simp [dg, *] <;> omega),trivial⟩)
   ·
    have h3:=of_decide_eq_false r3
    try simp only [ty] at h3
    refine aa ?_;refine sx7 ?_;(iterate 4 refine qy ?_);refine b5 rfl rfl (fun r5=>?_) (fun r5=>?_)
    ·
     have h5:=of_decide_eq_true r5
     try simp only [ty] at h5
     (iterate 3 refine qy ?_ (hg:=(gtt r5)));(iterate 2 refine qy ?_);refine b5 rfl rfl (fun r6=>?_) (fun r6=>?_)
     ·
      have h6:=r6
      have h6:=d4 r5 h6
      have h6:=of_decide_eq_true h6
      try simp only [ty] at h6
      (iterate 3 refine qy ?_ (hg:=(gtt r6)));(iterate 2 refine qy ?_);refine a6 ?_
      exact hx8 rfl rfl rfl (⟨ccb (by simp [dg, *] <;> omega),trivial⟩)
     ·
      have h6:=r6
      have h6:=d4 r5 h6
      have h6:=of_decide_eq_false h6
      try simp only [ty] at h6
      (iterate 3 refine k9 (gft r6) ?_);refine rq rfl rfl rfl rfl rfl ?_ (hp:=r6);refine qy ?_;refine a6 ?_
      exact hx8 rfl rfl rfl (⟨ccb (by simp [dg, *] <;> omega),trivial⟩)
    ·
     have h5:=of_decide_eq_false r5
     try simp only [ty] at h5
     (iterate 3 refine k9 (gft r5) ?_);refine rq rfl rfl rfl rfl rfl ?_ (hp:=r5);refine qy ?_;(iterate 3 refine k9 rfl ?_);(iterate 2 refine qy ?_);refine a6 ?_
     exact hx8 rfl rfl rfl (⟨ccb (by simp [dg, *] <;> omega),trivial⟩)
theorem aed:aj Tryz.prog 106:=⟨Tryz.f106,Tryz.func106,by kernel_rfl,by kernel_rfl⟩
theorem c76 (v:Val):ap Tryz.prog 106 [v.pc] (b4 [pB (dg v)]):=by
 refine ah (nt:=41) ae Tryz.func106 rfl rfl l9 ?_;refine sx7 ?_;refine m9 0 ?_;refine qy ?_;refine a6 ?_;refine a7 ?_;refine sx7 ?_;(iterate 2 refine qy ?_);refine a6 ?_;refine af ?_
 refine sx7 ?_;(iterate 2 refine qy ?_);refine a6 ?_;refine a8 _ rfl (fun r0=>?_) (fun r0=>?_)
 ·
  have h0:=of_decide_eq_true r0
  try simp only [ty] at h0
  refine sx7 ?_;(iterate 4 refine qy ?_);refine b5 rfl rfl (fun r1=>?_) (fun r1=>?_)
  ·
   have h1:=of_decide_eq_true r1
   try simp only [ty] at h1
   (iterate 3 refine qy ?_ (hg:=(gtt r1)));(iterate 2 refine qy ?_);refine a6 ?_
   exact hx8 rfl rfl rfl (⟨ccb (by simp [dg, *] <;> omega),trivial⟩)
  ·
   have h1:=of_decide_eq_false r1
   try simp only [ty] at h1
   (iterate 3 refine k9 (gft r1) ?_);refine rq rfl rfl rfl rfl rfl ?_ (hp:=r1);refine qy ?_;refine a6 ?_
   exact hx8 rfl rfl rfl (⟨ccb (by simp [dg, *] <;> omega),trivial⟩)
 ·
  have h0:=of_decide_eq_false r0
  try simp only [ty] at h0
  refine sx7 ?_;(iterate 2 refine qy ?_);refine a6 ?_;refine a8 _ rfl (fun r2=>?_) (fun r2=>?_)
  ·
   have h2:=of_decide_eq_true r2
   try simp only [ty] at h2
   refine sx7 ?_;(iterate 4 refine qy ?_);refine a6 ?_
   exact hx8 rfl rfl rfl (⟨ccb (by simp [dg, *] <;> omega),trivial⟩)
  ·
   have h2:=of_decide_eq_false r2
   try simp only [ty] at h2
   refine sx7 ?_;(iterate 2 refine qy ?_);refine a6 ?_;refine a8 _ rfl (fun r3=>?_) (fun r3=>?_)
   ·
    have h3:=of_decide_eq_true r3
    try simp only [ty] at h3
    refine sx7 ?_;(iterate 4 refine qy ?_);refine b5 rfl rfl (fun r4=>?_) (fun r4=>?_)
    ·
     have h4:=of_decide_eq_true r4
     try simp only [ty] at h4
     (iterate 4 refine qy ?_ (hg:=(gtt r4)));(iterate 2 refine qy ?_);refine a6 ?_
     exact hx8 rfl rfl rfl (⟨ccb (by simp [dg, *] <;> omega),trivial⟩)
    ·
     have h4:=of_decide_eq_false r4
     try simp only [ty] at h4
     (iterate 4 refine k9 (gft r4) ?_);refine rq rfl rfl rfl rfl rfl ?_ (hp:=r4);refine qy ?_;refine a6 ?_
     exact hx8 rfl rfl rfl (⟨ccb (by simp [dg, *] <;> omega),trivial⟩)
   ·
    have h3:=of_decide_eq_false r3
    try simp only [ty] at h3
    refine sx7 ?_;(iterate 2 refine qy ?_);refine a6 ?_;refine a8 _ rfl (fun r5=>?_) (fun r5=>?_)
    ·
     have h5:=of_decide_eq_true r5
     try simp only [ty] at h5
     refine sx7 ?_;(iterate 4 refine qy ?_);refine b5 rfl rfl (fun r6=>?_) (fun r6=>?_)
     ·
      have h6:=of_decide_eq_true r6
      try simp only [ty] at h6
      (iterate 3 refine qy ?_ (hg:=(gtt r6)));(iterate 2 refine qy ?_);refine a6 ?_
      exact hx8 rfl rfl rfl (⟨ccb (by simp [dg, *] <;> omega),trivial⟩)
     ·
      have h6:=of_decide_eq_false r6
      try simp only [ty] at h6
      (iterate 3 refine k9 (gft r6) ?_);refine rq rfl rfl rfl rfl rfl ?_ (hp:=r6);refine qy ?_;refine a6 ?_
      exact hx8 rfl rfl rfl (⟨ccb (by simp [dg, *] <;> omega),trivial⟩)
    ·
     have h5:=of_decide_eq_false r5
     try simp only [ty] at h5
     refine aa ?_;refine sx7 ?_;refine qy ?_;refine a6 ?_
     exact hx8 rfl rfl rfl (⟨ccb (by simp [dg, *] <;> omega),trivial⟩)
theorem ag6:aj Tryz.prog 80:=⟨Tryz.f80,Tryz.func80,by kernel_rfl,by kernel_rfl⟩
theorem c83 (l:List Val):ap Tryz.prog 80 [pP (vals l)] (b4 [pB (l.all dg)]):=by
 refine ah (nt:=16) ae Tryz.func80 rfl rfl l9 ?_;refine j0 0 rfl (fun hn=>?_);refine sx7 ?_;refine qy ?_;refine a6 ?_
 refine db (ι:=Unit) ⟨[],[]⟩ ⟨trivial,trivial⟩ (fun _i=>⟨[],[]⟩) (fun _i=>l.all dg = true) ?_ ?_
 ·
  refine sx7 ?_;refine qy ?_;refine a6 ?_;refine af ?_
  refine av (ι:=Nat) ⟨[(0,some _)],[]⟩ ⟨⟨c9,trivial⟩,trivial⟩ (fun i=>⟨[(3,some (vI i))],[]⟩) (fun i=>i ≤ l.length ∧ ∀ j,j < i → dg (l.getD j default) = true) (fun i=>l.length - i) (0) (⟨Nat.zero_le _,dl⟩) ⟨⟨zy,trivial⟩,trivial⟩ ?_
  rintro i ⟨hi,hI⟩
  refine a7 ?_;refine sx7 ?_;(iterate 4 refine qy ?_);refine a6 ?_;refine a8 _ rfl (fun r0=>?_) (fun r0=>?_)
  ·
   have h0:=of_decide_eq_true r0
   try simp only [ty] at h0
   refine aa ?_;refine a7 ?_;refine af ?_;refine sx7 ?_;(iterate 4 refine qy ?_);refine rc rfl rfl rfl rfl rfl rfl agv (c86 _) (CoL.refl _) rfl rfl ?_;refine qy ?_;refine a6 ?_
   refine a8 _ rfl (fun r1=>?_) (fun r1=>?_)
   ·
    have h1:=r1
    have h1:=be h1
    refine sx7 ?_;refine qy ?_;refine a6 ?_
    exact hx8 rfl rfl rfl (⟨ccb (au8 (by omega) h1).symm,trivial⟩)
   ·
    have h1:=r1
    have h1:=bf h1
    refine aa ?_;refine gy ?_;(iterate 3 refine qy ?_);refine a6 ?_;refine ⟨i + 1, ?_, ?_, ?_⟩
    · exact ⟨by omega,da hI (h1)⟩
    · first | omega | (dsimp only;omega)
    · exact ⟨⟨zy,c9,trivial⟩,trivial⟩
  ·
   have h0:=of_decide_eq_false r0
   try simp only [ty] at h0
   refine au ?_;refine ⟨(), ?_, ?_⟩
   · exact aus fun j hj=>hI j (by omega)
   · exact ⟨trivial,trivial⟩
 · rintro _ hj
   refine sx7 ?_;refine qy ?_;refine a6 ?_
   exact hx8 rfl rfl rfl (⟨ccb hj.symm,trivial⟩)
theorem aqq:aj Tryz.prog 85:=⟨Tryz.f85,Tryz.func85,by kernel_rfl,by kernel_rfl⟩
theorem c54 (a b:Row) (ha:a.ok) (hb:b.ok):ap Tryz.prog 85 [a.pc,b.pc] (b4 [pB (decide (a = b))]):=by
 refine ah (nt:=17) ae Tryz.func85 rfl rfl l9 ?_;refine sx7 ?_;refine m9 0 ?_;refine m9 1 ?_;refine qy ?_;refine a6 ?_;refine sx7 ?_;(iterate 6 refine qy ?_)
 refine b5 rfl rfl (fun r0=>?_) (fun r0=>?_)
 ·
  have h0:=of_decide_eq_true r0
  try simp only [ty] at h0
  (iterate 4 refine qy ?_ (hg:=(gtt r0)));refine rc rfl rfl rfl rfl rfl rfl ads (c81 a.vals b.vals ha.2 hb.2) (CoL.refl _) rfl (gtt r0) ?_;(iterate 2 refine qy ?_);refine a6 ?_
  exact hx8 rfl rfl rfl (⟨ccb (by simp [Row.eq_iff, *]),trivial⟩)
 ·
  have h0:=of_decide_eq_false r0
  try simp only [ty] at h0
  (iterate 5 refine k9 (gft r0) ?_);refine rq rfl rfl rfl rfl rfl ?_ (hp:=r0);refine qy ?_;refine a6 ?_
  exact hx8 rfl rfl rfl (⟨ccb (by simp [Row.eq_iff, *]),trivial⟩)
theorem arf:aj Tryz.prog 84:=⟨Tryz.f84,Tryz.func84,by kernel_rfl,by kernel_rfl⟩
theorem c75 (a b:List ByteArray):ap Tryz.prog 84 [pP (i7 a),pP (i7 b)] (b4 [pB (decide (a = b))]):=by
 refine ah (nt:=26) ae Tryz.func84 rfl rfl l9 ?_;refine j0 0 rfl (fun hn=>?_);refine sx7 ?_;refine qy ?_;refine a6 ?_;refine a7 ?_;refine sx7 ?_;(iterate 5 refine qy ?_);refine a6 ?_
 refine a8 _ rfl (fun r0=>?_) (fun r0=>?_)
 ·
  have h0:=r0
  have h0:=of_decide_eq_false (be h0)
  try simp only [ty] at h0
  refine sx7 ?_;refine qy ?_;refine a6 ?_
  exact hx8 rfl rfl rfl (⟨ccb (decide_eq_false (fun e=>h0 (by rw [e]))).symm,trivial⟩)
 ·
  have h0:=r0
  have h0:=of_decide_eq_true (bf h0)
  try simp only [ty] at h0
  refine aa ?_;refine db (ι:=Unit) ⟨[],[]⟩ ⟨trivial,trivial⟩ (fun _i=>⟨[],[]⟩) (fun _i=>a = b) ?_ ?_
  ·
   refine sx7 ?_;refine qy ?_;refine a6 ?_;refine af ?_
   refine av (ι:=Nat) ⟨[(0,some _),(1,some _)],[]⟩ ⟨⟨c9,c9,trivial⟩,trivial⟩ (fun i=>⟨[(5,some (vI i))],[]⟩) (fun i=>i ≤ a.length ∧ ∀ j,j < i → a.getD j default = b.getD j default) (fun i=>a.length - i) (0) (⟨Nat.zero_le _,dl⟩) ⟨⟨zy,trivial⟩,trivial⟩ ?_
   rintro i ⟨hi,hI⟩
   refine a7 ?_;refine sx7 ?_;(iterate 4 refine qy ?_);refine a6 ?_;refine a8 _ rfl (fun r1=>?_) (fun r1=>?_)
   ·
    have h1:=of_decide_eq_true r1
    try simp only [ty] at h1
    refine aa ?_;refine a7 ?_;refine af ?_;refine a7 ?_;refine ax (E:=aq) ae ak [0,1,2,3,4,5,6,7,8] ?_;(iterate 9 refine qy ?_);refine a6 ?_;refine ⟨by kernel_rfl, ?_⟩
    refine a8 _ rfl (fun r2=>?_) (fun r2=>?_)
    ·
     have h2:=r2
     have h2:=of_decide_eq_false (be h2)
     try simp only [ty] at h2
     refine sx7 ?_;refine qy ?_;refine a6 ?_
     exact hx8 rfl rfl rfl (⟨ccb (decide_eq_false (fun e=>h2 (by subst e;rfl))).symm,trivial⟩)
    ·
     have h2:=r2
     have h2:=of_decide_eq_true (bf h2)
     try simp only [ty] at h2
     refine aa ?_;refine gy ?_;(iterate 3 refine qy ?_);refine a6 ?_;refine ⟨i + 1, ?_, ?_, ?_⟩
     · exact ⟨by omega,da hI (h2)⟩
     · first | omega | (dsimp only;omega)
     · exact ⟨⟨zy,c9,c9,trivial⟩,trivial⟩
   ·
    have h1:=of_decide_eq_false r1
    try simp only [ty] at h1
    refine au ?_;refine ⟨(), ?_, ?_⟩
    · exact a1p (by omega) fun j hj=>hI j (by omega)
    · exact ⟨trivial,trivial⟩
  · rintro _ hj
    refine sx7 ?_;refine qy ?_;refine a6 ?_
    exact hx8 rfl rfl rfl (⟨ccb (decide_eq_true hj).symm,trivial⟩)
theorem asc:aj Tryz.prog 46:=⟨Tryz.f46,Tryz.func46,by kernel_rfl,by kernel_rfl⟩
theorem c47 (a b:Tbl) (ha:a.ok) (hb:b.ok):ap Tryz.prog 46 [a.pc,b.pc] (b4 [pB (decide (a = b))]):=by
 refine ah (nt:=47) ae Tryz.func46 rfl rfl l9 ?_;refine sx7 ?_;refine m9 0 ?_;refine m9 1 ?_;refine qy ?_;refine a6 ?_;(iterate 2 refine a7 ?_);refine ame 0 2 rfl rfl (fun hn=>?_);refine gy ?_
 (iterate 6 refine qy ?_);refine b5 rfl rfl (fun r0=>?_) (fun r0=>?_)
 ·
  have h0:=r0
  have h0:=of_decide_eq_false (be h0)
  try simp only [ty] at h0
  (iterate 6 refine k9 (gtf r0) ?_);refine rq rfl rfl rfl rfl rfl ?_ (hp:=r0);refine qy ?_;(iterate 7 refine k9 rfl ?_);refine qy ?_;refine a6 ?_;refine a8 _ rfl (fun _=>?_) (fun e=>by cases e);refine sx7 ?_
  refine qy ?_;refine a6 ?_
  exact hx8 rfl rfl rfl (⟨ccb (decide_eq_false (fun e=>by subst e;simp_all)).symm,trivial⟩)
 ·
  have h0:=r0
  have h0:=of_decide_eq_true (bf h0)
  try simp only [ty] at h0
  (iterate 4 refine qy ?_ (hg:=(gff r0)));refine rc rfl rfl rfl rfl rfl rfl arf (c75 _ _) (CoL.refl _) rfl (gff r0) ?_;refine qy ?_ (hg:=(gff r0));(iterate 2 refine qy ?_)
  refine b5 rfl rfl (fun r1=>?_) (fun r1=>?_)
  ·
   have h1:=r1
   have h1:=bv r0 h1
   have h1:=be h1
   (iterate 7 refine k9 (gtf r1) ?_);refine rq rfl rfl rfl rfl rfl ?_ (hp:=r1);refine a6 ?_;refine a8 _ rfl (fun _=>?_) (fun e=>by cases e);refine sx7 ?_;refine qy ?_;refine a6 ?_
   exact hx8 rfl rfl rfl (⟨ccb (decide_eq_false (fun e=>by subst e;simp_all)).symm,trivial⟩)
  ·
   have h1:=r1
   have h1:=bv r0 h1
   have h1:=bf h1
   (iterate 7 refine qy ?_ (hg:=(gff r1)));refine qy ?_;refine a6 ?_;refine a8 _ rfl (fun r2=>?_) (fun r2=>?_)
   ·
    have h2:=r2
    have h2:=bv r1 h2
    have h2:=of_decide_eq_false (be h2)
    try simp only [ty] at h2
    refine sx7 ?_;refine qy ?_;refine a6 ?_
    exact hx8 rfl rfl rfl (⟨ccb (decide_eq_false (fun e=>by subst e;simp_all)).symm,trivial⟩)
   ·
    have h2:=r2
    have h2:=bv r1 h2
    have h2:=of_decide_eq_true (bf h2)
    try simp only [ty] at h2
    refine aa ?_;refine db (ι:=Unit) ⟨[],[]⟩ ⟨trivial,trivial⟩ (fun _i=>⟨[],[]⟩) (fun _i=>a = b) ?_ ?_
    ·
     refine sx7 ?_;refine qy ?_;refine a6 ?_;refine af ?_
     refine av (ι:=Nat) ⟨[(2,some _),(3,some _)],[(0,some _),(1,some _)]⟩ ⟨⟨c9,c9,trivial⟩,⟨u9,u9,trivial⟩⟩ (fun i=>⟨[(5,some (vI i))],[]⟩) (fun i=>i ≤ a.rows.length ∧ ∀ j,j < i → a.rows.getD j default = b.rows.getD j default) (fun i=>a.rows.length - i) (0) (⟨Nat.zero_le _,dl⟩) ⟨⟨zy,trivial⟩,trivial⟩ ?_
     rintro i ⟨hi,hI⟩
     refine a7 ?_;refine sx7 ?_;(iterate 5 refine qy ?_);refine a6 ?_;refine a8 _ rfl (fun r3=>?_) (fun r3=>?_)
     ·
      have h3:=of_decide_eq_true r3
      try simp only [ty] at h3
      refine aa ?_;refine a7 ?_;refine af ?_;refine a7 ?_;refine ax (E:=aq) ae ak [0,1,2,3,4,5,6,7,8,9,10,11] ?_;(iterate 10 refine qy ?_)
      refine rc rfl rfl rfl rfl rfl rfl aqq (c54 _ _ (ha.2.2 i (by omega)) (hb.2.2 i (by omega))) (CoL.refl _) rfl rfl ?_;refine qy ?_;refine a6 ?_;refine ⟨by kernel_rfl, ?_⟩
      refine a8 _ rfl (fun r4=>?_) (fun r4=>?_)
      ·
       have h4:=r4
       have h4:=be h4
       have hN:=of_decide_eq_false h4
       refine sx7 ?_;refine qy ?_;refine a6 ?_
       exact hx8 rfl rfl rfl (⟨ccb (decide_eq_false (fun e=>by subst e;simp_all)).symm,trivial⟩)
      ·
       have h4:=r4
       have h4:=bf h4
       have hN:=of_decide_eq_true h4
       refine aa ?_;refine gy ?_;(iterate 3 refine qy ?_);refine a6 ?_;refine ⟨i + 1, ?_, ?_, ?_⟩
       · exact ⟨by omega,da hI (hN)⟩
       · first | omega | (dsimp only;omega)
       · exact ⟨⟨zy,c9,c9,trivial⟩,⟨u9,u9,trivial⟩⟩
     ·
      have h3:=of_decide_eq_false r3
      try simp only [ty] at h3
      refine au ?_;refine ⟨(), ?_, ?_⟩
      · exact Tbl.eq_iff.2 ⟨by assumption,by simp_all,a1p (by omega) fun j hj=>hI j (by omega)⟩
      · exact ⟨trivial,trivial⟩
    · rintro _ hj
      refine sx7 ?_;refine qy ?_;refine a6 ?_
      exact hx8 rfl rfl rfl (⟨ccb (decide_eq_true hj).symm,trivial⟩)
end Go.Hx
end

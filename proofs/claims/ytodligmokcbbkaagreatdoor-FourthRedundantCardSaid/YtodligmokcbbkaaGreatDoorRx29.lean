/- A part of the proof: SrC Tb1 Tb2. -/
import Derived.Test.YtodligmokcbbkaaGreatDoorRx15
import Derived.Test.YtodligmokcbbkaaGreatDoorRx26
import Derived.Test.YtodligmokcbbkaaGreatDoorRx28
set_option linter.all false
section
namespace Go.Hx
open Go.Proofs Go.RowKit
set_option maxRecDepth 100000
theorem asa:∀ (a b:List UInt8),Lib.compareBytes a b = fc a b
 | [],[]=>rfl
 | [],_ :: _=>rfl
 | _ :: _,[]=>rfl
 | x :: xs,y :: ys=>by
  unfold Lib.compareBytes fc
  rw [asa xs ys]
  by_cases h1:x < y
  · have h2:x.toNat < y.toNat:=h1
    rw [if_pos h1,if_neg (fun e=>by rw [e] at h2;omega)]
    unfold sgn
    rw [if_pos (by omega)]
  · have h2:¬ x.toNat < y.toNat:=h1
    rw [if_neg h1]
    by_cases h3:y < x
    · have h4:y.toNat < x.toNat:=h3
      rw [if_pos h3,if_neg (fun e=>by rw [e] at h4;omega)]
      unfold sgn
      rw [if_neg (by omega),if_pos (by omega)]
    · have h4:¬ y.toNat < x.toNat:=h3
      rw [if_neg h3,if_pos (UInt8.toNat_inj.1 (by omega))]
theorem as0:ak Tryz.prog 82:=⟨Tryz.f82,Tryz.func82,by kernel_rfl,by kernel_rfl⟩
theorem amq (a b:ByteArray):aj Tryz.prog 82 [pS a,pS b] (ao [pI (jh a b)]):=by
 intro w imm us htab him hus
 match us,hus with
 | [u,v],⟨hu,hv,_⟩ =>
  obtain ⟨rfl,_⟩:=hu
  obtain ⟨rfl,_⟩:=hv
  refine (Any.bytealg_CompareString Tryz.laysCS a b w).mono ?_
  rintro e w' ⟨rfl,rfl⟩
  exact ⟨_,imm,rfl,⟨by rw [asa];rfl,rfl⟩,fun _ _=>rfl,him,Below.refl _ _⟩
 | [],h=>exact h.elim
 | [_],⟨_,h⟩=>exact h.elim
 | _ :: _ :: _ :: _,⟨_,_,h⟩=>exact h.elim
end Go.Hx
end
section
namespace Go.Hx
open Go.Proofs
set_option maxRecDepth 100000
theorem a04:ak Tryz.prog 94:=⟨Tryz.f94,Tryz.func94,by kernel_rfl,by kernel_rfl⟩
theorem aag (a b:Int):aj Tryz.prog 94 [pI a,pI b] (ao [pI (sgn a b)]):=by
 refine ai (nt:=11) ae Tryz.func94 rfl rfl l9 ?_;refine sx7 ?_;refine qy ?_;refine a6 ?_;refine a7 ?_;refine sx7 ?_;(iterate 3 refine qy ?_);refine a6 ?_
 refine a8 _ rfl (fun r0=>?_) (fun r0=>?_)
 ·
  have h0:=of_decide_eq_true r0
  try simp only [ty] at h0
  refine sx7 ?_;refine qy ?_;refine a6 ?_
  exact hx8 rfl rfl rfl (⟨cci (by unfold sgn;rw [if_pos h0]),trivial⟩)
 ·
  have h0:=of_decide_eq_false r0
  try simp only [ty] at h0
  refine aa ?_;refine a7 ?_;refine sx7 ?_;(iterate 3 refine qy ?_);refine a6 ?_;refine a8 _ rfl (fun r1=>?_) (fun r1=>?_)
  ·
   have h1:=of_decide_eq_true r1
   try simp only [ty] at h1
   refine sx7 ?_;refine qy ?_;refine a6 ?_
   exact hx8 rfl rfl rfl (⟨cci (by unfold sgn;rw [if_neg h0,if_pos h1]),trivial⟩)
  ·
   have h1:=of_decide_eq_false r1
   try simp only [ty] at h1
   refine aa ?_;refine sx7 ?_;refine qy ?_;refine a6 ?_
   exact hx8 rfl rfl rfl (⟨cci (by unfold sgn;rw [if_neg h0,if_neg h1]),trivial⟩)
theorem anr:ak Tryz.prog 106:=⟨Tryz.f106,Tryz.func106,by kernel_rfl,by kernel_rfl⟩
theorem awh (a b:ByteArray) (ha:a.size ≤ 68719476736) (hb:b.size ≤ 68719476736):aj Tryz.prog 106 [pS a,pS b] (ao [pI (jh a b)]):=by
 refine ai (nt:=39) ae Tryz.func106 rfl rfl l9 ?_;refine sx7 ?_;refine qy ?_;refine a6 ?_
 refine cr (ι:=Unit) ⟨[(0,some _),(1,some _)],[]⟩ ⟨⟨c9,c9,trivial⟩,trivial⟩ (fun _i=>⟨[],[]⟩) (fun _i=>jh a b = sgn a.size b.size) ?_ ?_
 ·
  refine sx7 ?_;refine qy ?_;refine a6 ?_;refine af ?_
  refine aw (ι:=Nat) ⟨[(0,some _),(1,some _)],[]⟩ ⟨⟨c9,c9,trivial⟩,trivial⟩ (fun i=>⟨[(5,some (vI i))],[]⟩) (fun i=>i ≤ a.size ∧ i ≤ b.size ∧ fc ((bl a).drop i) ((bl b).drop i) = jh a b) (fun i=>a.size - i) (0) (⟨Nat.zero_le _,Nat.zero_le _,rfl⟩) ⟨⟨zy,trivial⟩,trivial⟩ ?_
  rintro i ⟨hi1,hi2,hc⟩
  refine a7 ?_;refine sx7 ?_;(iterate 5 refine qy ?_);refine bd rfl rfl (fun r0=>?_) (fun r0=>?_)
  ·
   have h0:=of_decide_eq_true r0
   try simp only [ty] at h0
   (iterate 4 refine qy ?_ (hg:=(gtt r0)));refine qy ?_;refine a6 ?_;refine a8 _ rfl (fun r1=>?_) (fun r1=>?_)
   ·
    have h1:=r1
    have h1:=ck r0 h1
    have h1:=of_decide_eq_true h1
    try simp only [ty] at h1
    refine aa ?_;refine a7 ?_;refine af ?_;refine a7 ?_;refine dp (E:=ci) ae ct [0,1,2,3,4,5,6] ?_;(iterate 7 refine qy ?_);refine a6 ?_;refine ⟨by kernel_rfl, ?_⟩
    refine a8 _ rfl (fun r2=>?_) (fun r2=>?_)
    ·
     have h2:=r2
     have h2:=of_decide_eq_false (b7 h2)
     try simp only [ty] at h2
     refine a7 ?_;refine dp (E:=ci) ae ct [0,1,2,3,4,5,6,7,8,9] ?_;(iterate 8 refine qy ?_);refine rc rfl rfl rfl rfl rfl rfl a04 (aag _ _) (CoL.refl _) rfl rfl ?_;refine qy ?_
     refine a6 ?_;refine ⟨by kernel_rfl, ?_⟩
     exact hx8 rfl rfl rfl (⟨cci (by rw [← hc,a71 i _ _ (by rw [ew];omega) (by rw [ew];omega) (fun e=>h2 ((a49 _ _ _ _).2 e))];rfl),trivial⟩)
    ·
     have h2:=r2
     have h2:=of_decide_eq_true (b6 h2)
     try simp only [ty] at h2
     refine aa ?_;refine gy ?_;(iterate 3 refine qy ?_);refine a6 ?_;refine ⟨i + 1, ?_, ?_, ?_⟩
     · exact ⟨by omega,by omega,by rw [← hc];exact (a6k i _ _ (by rw [ew];omega) (by rw [ew];omega) ((a49 _ _ _ _).1 h2)).symm⟩
     · first | omega | (dsimp only;omega)
     · exact ⟨⟨zy,c9,c9,trivial⟩,trivial⟩
   ·
    have h1:=r1
    have h1:=ck r0 h1
    have h1:=of_decide_eq_false h1
    try simp only [ty] at h1
    refine az ?_;refine ⟨(), ?_, ?_⟩
    · rw [← hc,← ew,← ew];exact a2o i _ _ (by rw [ew];omega) (by rw [ew];omega) (by rw [ew,ew];omega)
    · exact ⟨⟨c9,c9,trivial⟩,trivial⟩
  ·
   have h0:=of_decide_eq_false r0
   try simp only [ty] at h0
   (iterate 4 refine k9 (gft r0) ?_);refine rq rfl rfl rfl rfl rfl ?_ (hp:=r0);refine a6 ?_;refine a8 _ rfl (fun e=>by cases e) (fun _=>?_);refine az ?_;refine ⟨(), ?_, ?_⟩
   · rw [← hc,← ew,← ew];exact a2o i _ _ (by rw [ew];omega) (by rw [ew];omega) (by rw [ew,ew];omega)
   · exact ⟨⟨c9,c9,trivial⟩,trivial⟩
 · rintro _ hj
   refine sx7 ?_;(iterate 4 refine qy ?_);refine rc rfl rfl rfl rfl rfl rfl a04 (aag _ _) (CoL.refl _) rfl rfl ?_;refine qy ?_;refine a6 ?_
   exact hx8 rfl rfl rfl (⟨cci hj.symm,trivial⟩)
theorem aqv:ak Tryz.prog 93:=⟨Tryz.f93,Tryz.func93,by kernel_rfl,by kernel_rfl⟩
theorem avd (a b:Val) (ha:a.str.size ≤ 68719476736) (hb:b.str.size ≤ 68719476736):aj Tryz.prog 93 [a.pc,b.pc] (ao [pI (io a b)]):=by
 refine ai (nt:=28) ae Tryz.func93 rfl rfl l9 ?_;refine sx7 ?_;refine m9 0 ?_;refine m9 1 ?_;refine qy ?_;refine a6 ?_;refine a7 ?_;refine sx7 ?_;(iterate 4 refine qy ?_)
 refine rc rfl rfl rfl rfl rfl rfl a04 (aag _ _) (CoL.refl _) rfl rfl ?_;refine qy ?_;refine a6 ?_;refine sx7 ?_;(iterate 2 refine qy ?_);refine a6 ?_;refine a8 _ rfl (fun r0=>?_) (fun r0=>?_)
 ·
  have h0:=r0
  have h0:=of_decide_eq_false (b7 h0)
  try simp only [ty] at h0
  refine sx7 ?_;(iterate 2 refine qy ?_);refine a6 ?_
  exact hx8 rfl rfl rfl (⟨cci (by unfold io;rw [if_pos h0]),trivial⟩)
 ·
  have h0:=r0
  have h0:=of_decide_eq_true (b6 h0)
  try simp only [ty] at h0
  refine aa ?_;refine a7 ?_;refine sx7 ?_;(iterate 4 refine qy ?_);refine rc rfl rfl rfl rfl rfl rfl a04 (aag _ _) (CoL.refl _) rfl rfl ?_;refine qy ?_;refine a6 ?_;refine sx7 ?_;(iterate 2 refine qy ?_)
  refine a6 ?_;refine a8 _ rfl (fun r1=>?_) (fun r1=>?_)
  ·
   have h1:=r1
   have h1:=of_decide_eq_false (b7 h1)
   try simp only [ty] at h1
   refine sx7 ?_;(iterate 2 refine qy ?_);refine a6 ?_
   exact hx8 rfl rfl rfl (⟨cci (by unfold io;rw [if_neg (by omega),if_pos h1]),trivial⟩)
  ·
   have h1:=r1
   have h1:=of_decide_eq_true (b6 h1)
   try simp only [ty] at h1
   refine aa ?_;refine sx7 ?_;(iterate 4 refine qy ?_);refine rc rfl rfl rfl rfl rfl rfl anr (awh a.str b.str ha hb) (CoL.refl _) rfl rfl ?_;refine qy ?_;refine a6 ?_
   exact hx8 rfl rfl rfl (⟨cci (by unfold io;rw [if_neg (by omega),if_neg (by omega)]),trivial⟩)
end Go.Hx
end
section
namespace Go.Hx
open Go.Proofs
set_option maxRecDepth 100000
set_option maxHeartbeats 1000000
theorem arz:ak Tryz.prog 86:=⟨Tryz.f86,Tryz.func86,by kernel_rfl,by kernel_rfl⟩
theorem avf (a b:List Val) (ha:nu a) (hb:nu b):aj Tryz.prog 86 [pP (vals a),pP (vals b)] (ao [pI (gq a b)]):=by
 refine ai (nt:=36) ae Tryz.func86 rfl rfl l9 ?_;refine j1 0 rfl (fun hn=>?_);refine sx7 ?_;refine qy ?_;refine a6 ?_
 refine cr (ι:=Unit) ⟨[(0,some _),(1,some _)],[]⟩ ⟨⟨c9,c9,trivial⟩,trivial⟩ (fun _i=>⟨[],[]⟩) (fun _i=>gq a b = sgn a.length b.length) ?_ ?_
 ·
  refine sx7 ?_;refine qy ?_;refine a6 ?_;refine af ?_
  refine aw (ι:=Nat) ⟨[(0,some _),(1,some _)],[]⟩ ⟨⟨c9,c9,trivial⟩,trivial⟩ (fun i=>⟨[(5,some (vI i))],[]⟩) (fun i=>i ≤ a.length ∧ i ≤ b.length ∧ gq (a.drop i) (b.drop i) = gq a b) (fun i=>a.length - i) (0) (⟨Nat.zero_le _,Nat.zero_le _,rfl⟩) ⟨⟨zy,trivial⟩,trivial⟩ ?_
  rintro i ⟨hi1,hi2,hc⟩
  refine a7 ?_;refine sx7 ?_;(iterate 5 refine qy ?_);refine bd rfl rfl (fun r0=>?_) (fun r0=>?_)
  ·
   have h0:=of_decide_eq_true r0
   try simp only [ty] at h0
   (iterate 4 refine qy ?_ (hg:=(gtt r0)));refine qy ?_;refine a6 ?_;refine a8 _ rfl (fun r1=>?_) (fun r1=>?_)
   ·
    have h1:=r1
    have h1:=ck r0 h1
    have h1:=of_decide_eq_true h1
    try simp only [ty] at h1
    refine aa ?_;refine a7 ?_;refine af ?_;refine a7 ?_;refine dp (E:=ci) ae ct [0,1,2,3,4,5,6,7,8,9] ?_;(iterate 8 refine qy ?_)
    refine rc rfl rfl rfl rfl rfl rfl aqv (avd _ _ (ha i (by omega)) (hb i (by omega))) (CoL.refl _) rfl rfl ?_;refine qy ?_;refine a6 ?_;refine ⟨by kernel_rfl, ?_⟩;refine sx7 ?_;(iterate 2 refine qy ?_)
    refine a6 ?_;refine a8 _ rfl (fun r2=>?_) (fun r2=>?_)
    ·
     have h2:=r2
     have h2:=of_decide_eq_false (b7 h2)
     try simp only [ty] at h2
     refine sx7 ?_;(iterate 2 refine qy ?_);refine a6 ?_
     exact hx8 rfl rfl rfl (⟨cci (by rw [← hc];exact (a4w i _ _ (by omega) (by omega) h2).symm),trivial⟩)
    ·
     have h2:=r2
     have h2:=of_decide_eq_true (b6 h2)
     try simp only [ty] at h2
     refine aa ?_;refine gy ?_;(iterate 3 refine qy ?_);refine a6 ?_;refine ⟨i + 1, ?_, ?_, ?_⟩
     · exact ⟨by omega,by omega,by rw [← hc];exact (a40 i _ _ (by omega) (by omega) h2).symm⟩
     · first | omega | (dsimp only;omega)
     · exact ⟨⟨zy,c9,c9,trivial⟩,trivial⟩
   ·
    have h1:=r1
    have h1:=ck r0 h1
    have h1:=of_decide_eq_false h1
    try simp only [ty] at h1
    refine az ?_;refine ⟨(), ?_, ?_⟩
    · rw [← hc];exact ym i _ _ (by omega) (by omega) (by omega)
    · exact ⟨⟨c9,c9,trivial⟩,trivial⟩
  ·
   have h0:=of_decide_eq_false r0
   try simp only [ty] at h0
   (iterate 4 refine k9 (gft r0) ?_);refine rq rfl rfl rfl rfl rfl ?_ (hp:=r0);refine a6 ?_;refine a8 _ rfl (fun e=>by cases e) (fun _=>?_);refine az ?_;refine ⟨(), ?_, ?_⟩
   · rw [← hc];exact ym i _ _ (by omega) (by omega) (by omega)
   · exact ⟨⟨c9,c9,trivial⟩,trivial⟩
 · rintro _ hj
   refine sx7 ?_;(iterate 4 refine qy ?_);refine rc rfl rfl rfl rfl rfl rfl a04 (aag _ _) (CoL.refl _) rfl rfl ?_;refine qy ?_;refine a6 ?_
   exact hx8 rfl rfl rfl (⟨cci hj.symm,trivial⟩)
theorem ara:ak Tryz.prog 64:=⟨Tryz.f64,Tryz.func64,by kernel_rfl,by kernel_rfl⟩
theorem c81 (a b:List Val) (ha:nu a) (hb:nu b):aj Tryz.prog 64 [pP (vals a),pP (vals b)] (ao [pB (decide (a = b))]):=by
 refine ai (nt:=9) ae Tryz.func64 rfl rfl l9 ?_;refine sx7 ?_;refine qy ?_;refine a6 ?_;refine sx7 ?_;(iterate 2 refine qy ?_);refine rc rfl rfl rfl rfl rfl rfl arz (avf a b ha hb) (CoL.refl _) rfl rfl ?_
 (iterate 2 refine qy ?_);refine a6 ?_
 exact hx8 rfl rfl rfl (⟨ccb (decide_eq_decide.2 a3f),trivial⟩)
theorem aq1:ak Tryz.prog 85:=⟨Tryz.f85,Tryz.func85,by kernel_rfl,by kernel_rfl⟩
theorem c86 (v:Val):aj Tryz.prog 85 [v.pc] (ao [pB (c6 v)]):=by
 refine ai (nt:=44) ae Tryz.func85 rfl rfl l9 ?_;refine sx7 ?_;refine m9 0 ?_;refine qy ?_;refine a6 ?_;refine a7 ?_;refine sx7 ?_;(iterate 2 refine qy ?_);refine a6 ?_;refine af ?_
 refine sx7 ?_;(iterate 2 refine qy ?_);refine a6 ?_;refine a8 _ rfl (fun r0=>?_) (fun r0=>?_)
 ·
  have h0:=of_decide_eq_true r0
  try simp only [ty] at h0
  refine sx7 ?_;(iterate 4 refine qy ?_);refine bd rfl rfl (fun r1=>?_) (fun r1=>?_)
  ·
   have h1:=of_decide_eq_true r1
   try simp only [ty] at h1
   (iterate 3 refine qy ?_ (hg:=(gtt r1)));(iterate 2 refine qy ?_);refine a6 ?_
   exact hx8 rfl rfl rfl (⟨ccb (by simp [c6, *] <;> omega),trivial⟩)
  ·
   have h1:=of_decide_eq_false r1
   try simp only [ty] at h1
   (iterate 3 refine k9 (gft r1) ?_);refine rq rfl rfl rfl rfl rfl ?_ (hp:=r1);refine qy ?_;refine a6 ?_
   exact hx8 rfl rfl rfl (⟨ccb (by simp [c6, *] <;> omega),trivial⟩)
 ·
  have h0:=of_decide_eq_false r0
  try simp only [ty] at h0
  refine sx7 ?_;(iterate 2 refine qy ?_);refine a6 ?_;refine a8 _ rfl (fun r2=>?_) (fun r2=>?_)
  ·
   have h2:=of_decide_eq_true r2
   try simp only [ty] at h2
   refine sx7 ?_;(iterate 4 refine qy ?_);refine a6 ?_
   exact hx8 rfl rfl rfl (⟨ccb (by simp [c6, *] <;> omega),trivial⟩)
  ·
   have h2:=of_decide_eq_false r2
   try simp only [ty] at h2
   refine sx7 ?_;(iterate 2 refine qy ?_);refine a6 ?_;refine a8 _ rfl (fun r3=>?_) (fun r3=>?_)
   ·
    have h3:=of_decide_eq_true r3
    try simp only [ty] at h3
    refine sx7 ?_;(iterate 4 refine qy ?_);refine bd rfl rfl (fun r4=>?_) (fun r4=>?_)
    ·
     have h4:=of_decide_eq_true r4
     try simp only [ty] at h4
     (iterate 4 refine qy ?_ (hg:=(gtt r4)));(iterate 2 refine qy ?_);refine a6 ?_
     exact hx8 rfl rfl rfl (⟨ccb (by simp [c6, *] <;> omega),trivial⟩)
    ·
     have h4:=of_decide_eq_false r4
     try simp only [ty] at h4
     (iterate 4 refine k9 (gft r4) ?_);refine rq rfl rfl rfl rfl rfl ?_ (hp:=r4);refine qy ?_;refine a6 ?_
     exact hx8 rfl rfl rfl (⟨ccb (by simp [c6, *] <;> omega),trivial⟩)
   ·
    have h3:=of_decide_eq_false r3
    try simp only [ty] at h3
    refine aa ?_;refine sx7 ?_;(iterate 4 refine qy ?_);refine bd rfl rfl (fun r5=>?_) (fun r5=>?_)
    ·
     have h5:=of_decide_eq_true r5
     try simp only [ty] at h5
     (iterate 3 refine qy ?_ (hg:=(gtt r5)));(iterate 2 refine qy ?_);refine bd rfl rfl (fun r6=>?_) (fun r6=>?_)
     ·
      have h6:=r6
      have h6:=ck r5 h6
      have h6:=of_decide_eq_true h6
      try simp only [ty] at h6
      (iterate 3 refine qy ?_ (hg:=(gtt r6)));(iterate 2 refine qy ?_);refine a6 ?_
      exact hx8 rfl rfl rfl (⟨ccb (by simp [c6, *] <;> omega),trivial⟩)
     ·
      have h6:=r6
      have h6:=ck r5 h6
      have h6:=of_decide_eq_false h6
      try simp only [ty] at h6
      (iterate 3 refine k9 (gft r6) ?_);refine rq rfl rfl rfl rfl rfl ?_ (hp:=r6);refine qy ?_;refine a6 ?_
      exact hx8 rfl rfl rfl (⟨ccb (by simp [c6, *] <;> omega),trivial⟩)
    ·
     have h5:=of_decide_eq_false r5
     try simp only [ty] at h5
     (iterate 3 refine k9 (gft r5) ?_);refine rq rfl rfl rfl rfl rfl ?_ (hp:=r5);refine qy ?_;(iterate 3 refine k9 rfl ?_);(iterate 2 refine qy ?_);refine a6 ?_
     exact hx8 rfl rfl rfl (⟨ccb (by simp [c6, *] <;> omega),trivial⟩)
theorem agw:ak Tryz.prog 52:=⟨Tryz.f52,Tryz.func52,by kernel_rfl,by kernel_rfl⟩
theorem c76 (v:Val):aj Tryz.prog 52 [v.pc] (ao [pB (c6 v)]):=by
 refine ai (nt:=41) ae Tryz.func52 rfl rfl l9 ?_;refine sx7 ?_;refine m9 0 ?_;refine qy ?_;refine a6 ?_;refine a7 ?_;refine sx7 ?_;(iterate 2 refine qy ?_);refine a6 ?_;refine af ?_
 refine sx7 ?_;(iterate 2 refine qy ?_);refine a6 ?_;refine a8 _ rfl (fun r0=>?_) (fun r0=>?_)
 ·
  have h0:=of_decide_eq_true r0
  try simp only [ty] at h0
  refine sx7 ?_;(iterate 4 refine qy ?_);refine bd rfl rfl (fun r1=>?_) (fun r1=>?_)
  ·
   have h1:=of_decide_eq_true r1
   try simp only [ty] at h1
   (iterate 3 refine qy ?_ (hg:=(gtt r1)));(iterate 2 refine qy ?_);refine a6 ?_
   exact hx8 rfl rfl rfl (⟨ccb (by simp [c6, *] <;> omega),trivial⟩)
  ·
   have h1:=of_decide_eq_false r1
   try simp only [ty] at h1
   (iterate 3 refine k9 (gft r1) ?_);refine rq rfl rfl rfl rfl rfl ?_ (hp:=r1);refine qy ?_;refine a6 ?_
   exact hx8 rfl rfl rfl (⟨ccb (by simp [c6, *] <;> omega),trivial⟩)
 ·
  have h0:=of_decide_eq_false r0
  try simp only [ty] at h0
  refine sx7 ?_;(iterate 2 refine qy ?_);refine a6 ?_;refine a8 _ rfl (fun r2=>?_) (fun r2=>?_)
  ·
   have h2:=of_decide_eq_true r2
   try simp only [ty] at h2
   refine sx7 ?_;(iterate 4 refine qy ?_);refine a6 ?_
   exact hx8 rfl rfl rfl (⟨ccb (by simp [c6, *] <;> omega),trivial⟩)
  ·
   have h2:=of_decide_eq_false r2
   try simp only [ty] at h2
   refine sx7 ?_;(iterate 2 refine qy ?_);refine a6 ?_;refine a8 _ rfl (fun r3=>?_) (fun r3=>?_)
   ·
    have h3:=of_decide_eq_true r3
    try simp only [ty] at h3
    refine sx7 ?_;(iterate 4 refine qy ?_);refine bd rfl rfl (fun r4=>?_) (fun r4=>?_)
    ·
     have h4:=of_decide_eq_true r4
     try simp only [ty] at h4
     (iterate 4 refine qy ?_ (hg:=(gtt r4)));(iterate 2 refine qy ?_);refine a6 ?_
     exact hx8 rfl rfl rfl (⟨ccb (by simp [c6, *] <;> omega),trivial⟩)
    ·
     have h4:=of_decide_eq_false r4
     try simp only [ty] at h4
     (iterate 4 refine k9 (gft r4) ?_);refine rq rfl rfl rfl rfl rfl ?_ (hp:=r4);refine qy ?_;refine a6 ?_
     exact hx8 rfl rfl rfl (⟨ccb (by simp [c6, *] <;> omega),trivial⟩)
   ·
    have h3:=of_decide_eq_false r3
    try simp only [ty] at h3
    refine sx7 ?_;(iterate 2 refine qy ?_);refine a6 ?_;refine a8 _ rfl (fun r5=>?_) (fun r5=>?_)
    ·
     have h5:=of_decide_eq_true r5
     try simp only [ty] at h5
     refine sx7 ?_;(iterate 4 refine qy ?_);refine bd rfl rfl (fun r6=>?_) (fun r6=>?_)
     ·
      have h6:=of_decide_eq_true r6
      try simp only [ty] at h6
      (iterate 3 refine qy ?_ (hg:=(gtt r6)));(iterate 2 refine qy ?_);refine a6 ?_
      exact hx8 rfl rfl rfl (⟨ccb (by simp [c6, *] <;> omega),trivial⟩)
     ·
      have h6:=of_decide_eq_false r6
      try simp only [ty] at h6
      (iterate 3 refine k9 (gft r6) ?_);refine rq rfl rfl rfl rfl rfl ?_ (hp:=r6);refine qy ?_;refine a6 ?_
      exact hx8 rfl rfl rfl (⟨ccb (by simp [c6, *] <;> omega),trivial⟩)
    ·
     have h5:=of_decide_eq_false r5
     try simp only [ty] at h5
     refine aa ?_;refine sx7 ?_;refine qy ?_;refine a6 ?_
     exact hx8 rfl rfl rfl (⟨ccb (by simp [c6, *] <;> omega),trivial⟩)
theorem ard:ak Tryz.prog 62:=⟨Tryz.f62,Tryz.func62,by kernel_rfl,by kernel_rfl⟩
theorem c83 (l:List Val):aj Tryz.prog 62 [pP (vals l)] (ao [pB (l.all c6)]):=by
 refine ai (nt:=16) ae Tryz.func62 rfl rfl l9 ?_;refine j1 0 rfl (fun hn=>?_);refine sx7 ?_;refine qy ?_;refine a6 ?_
 refine cr (ι:=Unit) ⟨[],[]⟩ ⟨trivial,trivial⟩ (fun _i=>⟨[],[]⟩) (fun _i=>l.all c6 = true) ?_ ?_
 ·
  refine sx7 ?_;refine qy ?_;refine a6 ?_;refine af ?_
  refine aw (ι:=Nat) ⟨[(0,some _)],[]⟩ ⟨⟨c9,trivial⟩,trivial⟩ (fun i=>⟨[(3,some (vI i))],[]⟩) (fun i=>i ≤ l.length ∧ ∀ j,j < i → c6 (l.getD j default) = true) (fun i=>l.length - i) (0) (⟨Nat.zero_le _,dq⟩) ⟨⟨zy,trivial⟩,trivial⟩ ?_
  rintro i ⟨hi,hI⟩
  refine a7 ?_;refine sx7 ?_;(iterate 4 refine qy ?_);refine a6 ?_;refine a8 _ rfl (fun r0=>?_) (fun r0=>?_)
  ·
   have h0:=of_decide_eq_true r0
   try simp only [ty] at h0
   refine aa ?_;refine a7 ?_;refine af ?_;refine sx7 ?_;(iterate 4 refine qy ?_);refine rc rfl rfl rfl rfl rfl rfl aq1 (c86 _) (CoL.refl _) rfl rfl ?_;refine qy ?_;refine a6 ?_
   refine a8 _ rfl (fun r1=>?_) (fun r1=>?_)
   ·
    have h1:=r1
    have h1:=b7 h1
    refine sx7 ?_;refine qy ?_;refine a6 ?_
    exact hx8 rfl rfl rfl (⟨ccb (aev (by omega) h1).symm,trivial⟩)
   ·
    have h1:=r1
    have h1:=b6 h1
    refine aa ?_;refine gy ?_;(iterate 3 refine qy ?_);refine a6 ?_;refine ⟨i + 1, ?_, ?_, ?_⟩
    · exact ⟨by omega,cu hI (h1)⟩
    · first | omega | (dsimp only;omega)
    · exact ⟨⟨zy,c9,trivial⟩,trivial⟩
  ·
   have h0:=of_decide_eq_false r0
   try simp only [ty] at h0
   refine az ?_;refine ⟨(), ?_, ?_⟩
   · exact adp fun j hj=>hI j (by omega)
   · exact ⟨trivial,trivial⟩
 · rintro _ hj
   refine sx7 ?_;refine qy ?_;refine a6 ?_
   exact hx8 rfl rfl rfl (⟨ccb hj.symm,trivial⟩)
end Go.Hx
end

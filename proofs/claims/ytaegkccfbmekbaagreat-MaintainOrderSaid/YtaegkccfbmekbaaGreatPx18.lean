/- A part of the proof: V7. -/
import Derived.Test.YtaegkccfbmekbaaGreatPx17
set_option linter.all false
section
namespace Go.Hx
open Go.Proofs
set_option maxRecDepth 100000
set_option maxHeartbeats 1000000
theorem aea:ai Tryz.prog 119:=⟨Tryz.f119,Tryz.func119,by kernel_rfl,by kernel_rfl⟩
theorem ae3 (a b:AS):al Tryz.prog 119 [pA a,pA b] (az [pB (bef a b)]):=by
 refine ag (nt:=18) ae Tryz.func119 rfl rfl l9 ?_;refine sx7 ?_;refine qy ?_;refine a6 ?_;refine a7 ?_;refine sx7 ?_;refine qy ?_
 refine rc rfl rfl rfl rfl rfl rfl pi (un _) (CoL.refl _) rfl rfl ?_;refine qy ?_;refine rc rfl rfl rfl rfl rfl rfl pi (un _) (CoL.refl _) rfl rfl ?_;refine qy ?_;refine a6 ?_
 refine a8 _ rfl (fun r0=>?_) (fun r0=>?_)
 ·
  have h0:=r0
  have h0:=of_decide_eq_false (b8 h0)
  try simp only [ty] at h0
  refine sx7 ?_;refine qy ?_;refine rc rfl rfl rfl rfl rfl rfl pi (un _) (CoL.refl _) rfl rfl ?_;refine qy ?_;refine rc rfl rfl rfl rfl rfl rfl pi (un _) (CoL.refl _) rfl rfl ?_;(iterate 2 refine qy ?_)
  refine a6 ?_
  exact hx8 rfl rfl rfl (⟨ccb (ar6 h0),trivial⟩)
 ·
  have h0:=r0
  have h0:=of_decide_eq_true (b9 h0)
  try simp only [ty] at h0
  refine aa ?_;refine sx7 ?_;(iterate 4 refine qy ?_);refine a6 ?_
  exact hx8 rfl rfl rfl (⟨ccb (aqg h0),trivial⟩)
theorem anw:ai Tryz.prog 118:=⟨Tryz.f118,Tryz.func118,by kernel_rfl,by kernel_rfl⟩
theorem cIn (l:List AS) (s:AS):al Tryz.prog 118 [pP (asl l),pA s] (az [pB (decide (s ∈ l))]):=by
 refine ag (nt:=18) ae Tryz.func118 rfl rfl l9 ?_;refine a7 ?_
 refine j8 0 rfl fun hn=>?_
 refine gy ?_;refine qy ?_;refine a6 ?_;refine df (ι:=Unit) ⟨[],[]⟩ ⟨trivial,trivial⟩ (fun _i=>⟨[],[]⟩) (fun _i=>decide (s ∈ l) = false) ?_ ?_
 ·
  refine sx7 ?_;refine qy ?_;refine a6 ?_;refine af ?_
  refine av (ι:=Nat) ⟨[(0,some _),(1,some _)],[]⟩ ⟨⟨c9,c9,trivial⟩,trivial⟩ (fun i=>⟨[(5,some (vI i))],[]⟩) (fun i=>i ≤ l.length ∧ (∀ j,j < i → decide (l.getD j default = s) = false)) (fun i=>l.length - i) (0) (⟨Nat.zero_le _,dm⟩) ⟨⟨zy,trivial⟩,trivial⟩ ?_
  rintro i ⟨hi,hI⟩
  refine a7 ?_;refine sx7 ?_;(iterate 4 refine qy ?_);refine a6 ?_;refine a8 _ rfl (fun r0=>?_) (fun r0=>?_)
  ·
   have h0:=of_decide_eq_true r0
   try simp only [ty] at h0
   refine aa ?_;refine a7 ?_;refine af ?_;refine sx7 ?_;(iterate 6 refine qy ?_);refine a6 ?_;refine a8 _ rfl (fun r1=>?_) (fun r1=>?_)
   ·
    have h1:=of_decide_eq_true r1
    try simp only [ty] at h1
    refine sx7 ?_;refine qy ?_;refine a6 ?_
    exact hx8 rfl rfl rfl (⟨ccb (by rw [← aek];exact (auc (p:=fun x=>decide (x = s)) (i:=i) (by omega) (decide_eq_true (it.1 h1))).symm),trivial⟩)
   ·
    have h1:=of_decide_eq_false r1
    try simp only [ty] at h1
    refine aa ?_;refine gy ?_;(iterate 3 refine qy ?_);refine a6 ?_;refine ⟨i + 1, ?_, ?_, ?_⟩
    · exact ⟨by show i + 1 ≤ _;omega,d8 hI (decide_eq_false fun e=>h1 (congrArg asI e))⟩
    · first | omega | (dsimp only;omega)
    · exact ⟨⟨zy,c9,c9,trivial⟩,trivial⟩
  ·
   have h0:=of_decide_eq_false r0
   try simp only [ty] at h0
   refine aq ?_;refine ⟨(), ?_, ?_⟩
   · rw [← aek];exact aun (p:=fun x=>decide (x = s)) fun j hj=>hI j (by omega)
   · exact ⟨trivial,trivial⟩
 · rintro _ hj
   refine sx7 ?_;refine qy ?_;refine a6 ?_
   exact hx8 rfl rfl rfl (⟨ccb hj.symm,trivial⟩)
theorem adm:ai Tryz.prog 109:=⟨Tryz.f109,Tryz.func109,by kernel_rfl,by kernel_rfl⟩
theorem am2 (a:Int):al Tryz.prog 109 [pI a] (az [pB false]):=by
 refine ag (nt:=6) ae Tryz.func109 rfl rfl l9 ?_;refine sx7 ?_;refine qy ?_;refine a6 ?_;refine sx7 ?_;(iterate 4 refine qy ?_);refine a6 ?_
 exact hx8 rfl rfl rfl (⟨ccb (by simp),trivial⟩)
theorem aee:ai Tryz.prog 111:=⟨Tryz.f111,Tryz.func111,by kernel_rfl,by kernel_rfl⟩
theorem ame (a:AS):al Tryz.prog 111 [pA a] (az [pB false]):=by
 refine ag (nt:=6) ae Tryz.func111 rfl rfl l9 ?_;refine sx7 ?_;refine qy ?_;refine a6 ?_;refine sx7 ?_;(iterate 4 refine qy ?_);refine a6 ?_
 exact hx8 rfl rfl rfl (⟨ccb (by simp),trivial⟩)
theorem ab4:ai Tryz.prog 71:=⟨Tryz.f71,Tryz.func71,by kernel_rfl,by kernel_rfl⟩
theorem aew (a b:Int):al Tryz.prog 71 [pI a,pI b] (az [pI (fw a b)]):=by
 refine ag (nt:=20) ae Tryz.func71 rfl rfl l9 ?_;refine sx7 ?_;refine qy ?_;refine a6 ?_;refine sx7 ?_;refine qy ?_;refine rc rfl rfl rfl rfl rfl rfl adm (am2 _) (CoL.refl _) rfl rfl ?_;refine qy ?_
 refine a6 ?_;refine sx7 ?_;refine qy ?_;refine rc rfl rfl rfl rfl rfl rfl adm (am2 _) (CoL.refl _) rfl rfl ?_;refine qy ?_;refine a6 ?_;refine a7 ?_;refine sx7 ?_;refine qy ?_;refine a6 ?_
 refine a8 _ rfl (fun e=>by cases e) (fun _=>?_);refine aa ?_;refine a7 ?_;refine sx7 ?_;refine qy ?_;refine a6 ?_;refine a8 _ rfl (fun e=>by cases e) (fun _=>?_);refine aa ?_
 refine a7 ?_;refine sx7 ?_;(iterate 3 refine qy ?_);refine a6 ?_;refine a8 _ rfl (fun r0=>?_) (fun r0=>?_)
 ·
  have h0:=of_decide_eq_true r0
  try simp only [ty] at h0
  refine sx7 ?_;refine qy ?_;refine a6 ?_
  exact hx8 rfl rfl rfl (⟨cci (by unfold fw;first | (rw [if_pos (by omega)]) | (rw [if_neg (by omega),if_pos (by omega)]) | (rw [if_neg (by omega),if_neg (by omega)])),trivial⟩)
 ·
  have h0:=of_decide_eq_false r0
  try simp only [ty] at h0
  refine aa ?_;refine a7 ?_;refine sx7 ?_;(iterate 3 refine qy ?_);refine a6 ?_;refine a8 _ rfl (fun r1=>?_) (fun r1=>?_)
  ·
   have h1:=of_decide_eq_true r1
   try simp only [ty] at h1
   refine sx7 ?_;refine qy ?_;refine a6 ?_
   exact hx8 rfl rfl rfl (⟨cci (by unfold fw;first | (rw [if_pos (by omega)]) | (rw [if_neg (by omega),if_pos (by omega)]) | (rw [if_neg (by omega),if_neg (by omega)])),trivial⟩)
  ·
   have h1:=of_decide_eq_false r1
   try simp only [ty] at h1
   refine aa ?_;refine sx7 ?_;refine qy ?_;refine a6 ?_
   exact hx8 rfl rfl rfl (⟨cci (by unfold fw;first | (rw [if_pos (by omega)]) | (rw [if_neg (by omega),if_pos (by omega)]) | (rw [if_neg (by omega),if_neg (by omega)])),trivial⟩)
theorem aj0:ai Tryz.prog 73:=⟨Tryz.f73,Tryz.func73,by kernel_rfl,by kernel_rfl⟩
theorem am6 (a b:AS):al Tryz.prog 73 [pA a,pA b] (az [pI (fw (asI a) (asI b))]):=by
 refine ag (nt:=20) ae Tryz.func73 rfl rfl l9 ?_;refine sx7 ?_;refine qy ?_;refine a6 ?_;refine sx7 ?_;refine qy ?_;refine rc rfl rfl rfl rfl rfl rfl aee (ame _) (CoL.refl _) rfl rfl ?_;refine qy ?_
 refine a6 ?_;refine sx7 ?_;refine qy ?_;refine rc rfl rfl rfl rfl rfl rfl aee (ame _) (CoL.refl _) rfl rfl ?_;refine qy ?_;refine a6 ?_;refine a7 ?_;refine sx7 ?_;refine qy ?_;refine a6 ?_
 refine a8 _ rfl (fun e=>by cases e) (fun _=>?_);refine aa ?_;refine a7 ?_;refine sx7 ?_;refine qy ?_;refine a6 ?_;refine a8 _ rfl (fun e=>by cases e) (fun _=>?_);refine aa ?_
 refine a7 ?_;refine sx7 ?_;(iterate 3 refine qy ?_);refine a6 ?_;refine a8 _ rfl (fun r0=>?_) (fun r0=>?_)
 ·
  have h0:=of_decide_eq_true r0
  try simp only [ty] at h0
  refine sx7 ?_;refine qy ?_;refine a6 ?_
  exact hx8 rfl rfl rfl (⟨cci (by unfold fw;first | (rw [if_pos (by omega)]) | (rw [if_neg (by omega),if_pos (by omega)]) | (rw [if_neg (by omega),if_neg (by omega)])),trivial⟩)
 ·
  have h0:=of_decide_eq_false r0
  try simp only [ty] at h0
  refine aa ?_;refine a7 ?_;refine sx7 ?_;(iterate 3 refine qy ?_);refine a6 ?_;refine a8 _ rfl (fun r1=>?_) (fun r1=>?_)
  ·
   have h1:=of_decide_eq_true r1
   try simp only [ty] at h1
   refine sx7 ?_;refine qy ?_;refine a6 ?_
   exact hx8 rfl rfl rfl (⟨cci (by unfold fw;first | (rw [if_pos (by omega)]) | (rw [if_neg (by omega),if_pos (by omega)]) | (rw [if_neg (by omega),if_neg (by omega)])),trivial⟩)
  ·
   have h1:=of_decide_eq_false r1
   try simp only [ty] at h1
   refine aa ?_;refine sx7 ?_;refine qy ?_;refine a6 ?_
   exact hx8 rfl rfl rfl (⟨cci (by unfold fw;first | (rw [if_pos (by omega)]) | (rw [if_neg (by omega),if_pos (by omega)]) | (rw [if_neg (by omega),if_neg (by omega)])),trivial⟩)
theorem aba:ai Tryz.prog 70:=⟨Tryz.f70,Tryz.func70,by kernel_rfl,by kernel_rfl⟩
theorem cOr (l:List Int):al Tryz.prog 70 [pP (psl 1 jC l)] (az [pI (orF l)]):=by
 refine ag (nt:=18) ae Tryz.func70 rfl rfl l9 ?_;refine a7 ?_
 refine j8 0 rfl fun hn=>?_
 refine gy ?_;refine qy ?_;refine a6 ?_;refine sx7 ?_;refine qy ?_;refine a6 ?_;refine df (ι:=Unit) ⟨[(3,some _)],[]⟩ ⟨⟨c9,trivial⟩,trivial⟩ (fun _i=>⟨[],[]⟩) (fun _i=>orF l = 0) ?_ ?_
 ·
  refine sx7 ?_;(iterate 3 refine qy ?_);refine a6 ?_;refine af ?_
  refine av (ι:=Nat) ⟨[(3,some _),(6,some _),(7,some _)],[]⟩ ⟨⟨c9,c9,c9,trivial⟩,trivial⟩ (fun i=>⟨[(8,some (vI i))],[]⟩) (fun i=>i ≤ l.length ∧ (∀ j,j < i → decide (l.getD j default = 0) = true)) (fun i=>l.length - i) (0) (⟨Nat.zero_le _,dm⟩) ⟨⟨zy,trivial⟩,trivial⟩ ?_
  rintro i ⟨hi,hI⟩
  refine sx7 ?_;refine qy ?_;refine a6 ?_;refine a7 ?_;refine a8 _ rfl (fun r0=>?_) (fun r0=>?_)
  ·
   have h0:=of_decide_eq_true r0
   try simp only [ty] at h0
   refine aa ?_;refine a7 ?_;refine af ?_;refine sx7 ?_;(iterate 3 refine qy ?_);refine a6 ?_;refine sx7 ?_;(iterate 3 refine qy ?_);refine a6 ?_;refine a8 _ rfl (fun r1=>?_) (fun r1=>?_)
   ·
    have h1:=r1
    have h1:=of_decide_eq_false (b8 h1)
    try simp only [ty] at h1
    refine sx7 ?_;(iterate 2 refine qy ?_);refine a6 ?_
    exact hx8 rfl rfl rfl (⟨cci (aui (i:=i) (by omega) hI h1).symm,trivial⟩)
   ·
    have h1:=r1
    have h1:=of_decide_eq_true (b9 h1)
    try simp only [ty] at h1
    refine aa ?_;refine gy ?_;(iterate 2 refine qy ?_);refine a6 ?_;refine ⟨i + 1, ?_, ?_, ?_⟩
    · exact ⟨by show i + 1 ≤ _;omega,d8 hI (decide_eq_true h1)⟩
    · first | omega | (dsimp only;omega)
    · exact ⟨⟨zy,c9,c9,c9,trivial⟩,trivial⟩
  ·
   have h0:=of_decide_eq_false r0
   try simp only [ty] at h0
   refine aq ?_;refine ⟨(), ?_, ?_⟩
   · exact atz fun j hj=>hI j (by omega)
   · exact ⟨⟨c9,trivial⟩,trivial⟩
 · rintro _ hj
   refine sx7 ?_;(iterate 2 refine qy ?_);refine a6 ?_
   exact hx8 rfl rfl rfl (⟨cci hj.symm,trivial⟩)
theorem ali (a b:AS):al Tryz.prog 133 [pA a,pA b] (az [pI (qb a b)]):=by
 refine ag (nt:=15) ae Tryz.func133 rfl rfl l9 ?_;refine sx7 ?_;refine qy ?_;refine a6 ?_;refine sx7 ?_;refine qy ?_;refine rc rfl rfl rfl rfl rfl rfl a0c (a4x _) (CoL.refl _) rfl rfl ?_;refine qy ?_
 refine rc rfl rfl rfl rfl rfl rfl a0c (a4x _) (CoL.refl _) rfl rfl ?_;refine rc rfl rfl rfl rfl rfl rfl ab4 (aew _ _) (CoL.refl _) rfl rfl ?_;(iterate 2 refine qy ?_)
 refine rc rfl rfl rfl rfl rfl rfl aj0 (am6 _ _) (CoL.refl _) rfl rfl ?_;refine m9 0 ?_
 refine rc rfl rfl rfl rfl rfl rfl aba (cOr [fw (bsz a) (bsz b),fw (asI a) (asI b)]) (⟨CoC.one (xe (CoP.refl _) (CoP.refl _)),trivial⟩) rfl rfl ?_;refine qy ?_;refine a6 ?_
 exact hx8 rfl rfl rfl (⟨cci (ae7 a b),trivial⟩)
theorem ah5:ai Tryz.prog 83:=⟨Tryz.f83,Tryz.func83,by kernel_rfl,by kernel_rfl⟩
theorem adl (l:List AS) (hl:l.length ≤ 8589934592):al Tryz.prog 83 [pP (asl l)] (az [pP (asl (ord l))]):=by
 refine ag (nt:=61) ae Tryz.func83 rfl rfl l9 ?_;refine a7 ?_
 refine j8 0 rfl fun hn=>?_
 refine gy ?_;refine qy ?_;refine a6 ?_;refine sx7 ?_;refine qy ?_;refine a6 ?_;refine a7 ?_;refine sx7 ?_;refine qy ?_;refine a6 ?_;refine af ?_
 refine ec 3 900 true 1 69 (lf sC []) (by decide) rfl (CoP.sl rfl (.inr rfl) (fun h=>h) (fun i j hi _=>absurd hi (Nat.not_lt_zero i))) (.inr rfl) rfl ?_
 refine av (ι:=Nat) ⟨[(0,some _)],[]⟩ ⟨⟨c9,trivial⟩,trivial⟩ (fun i=>⟨[(3,some (.v (.one (.ref 900 (ord (l.take i)).length)))),(4,some (vI i))],[(900,some (.arr true 1 69 (ord (l.take i)).length (lf sC (ord (l.take i)))))]⟩) (fun i=>i ≤ l.length) (fun i=>l.length - i) (0) (Nat.zero_le _) ⟨⟨zy,zy,trivial⟩,⟨u9,trivial⟩⟩ ?_
 rintro i hi
 have hlen:=su (l.take i)
 rw [List.length_take] at hlen
 refine a7 ?_;refine sx7 ?_;(iterate 4 refine qy ?_);refine a6 ?_;refine a8 _ rfl (fun r0=>?_) (fun r0=>?_)
 ·
  have h0:=of_decide_eq_true r0
  try simp only [ty] at h0
  refine aa ?_;refine a7 ?_;refine af ?_;refine a7 ?_;refine sx7 ?_;(iterate 5 refine qy ?_);refine rc rfl rfl rfl rfl rfl rfl anw (cIn (ord (l.take i)) (l.getD i default)) (CoL.refl _) rfl rfl ?_
  refine a6 ?_;refine a8 _ rfl (fun r1=>?_) (fun r1=>?_)
  ·
   have h1:=r1
   have hin:=of_decide_eq_true h1
   refine aq ?_;refine gy ?_;(iterate 3 refine qy ?_);refine a6 ?_
   first | (refine ⟨i + 1, ?_, ?_, ?_⟩
            · show i + 1 ≤ _;omega
            · first | omega | (dsimp only;omega)
            · exact ⟨⟨⟨_,rfl,(d9 (by rw [fu (by omega),po (fe _) hin]))⟩,zy,c9,trivial⟩,⟨⟨_,rfl,(cr (by rw [fu (by omega),po (fe _) hin]))⟩,trivial⟩⟩)
         | (refine ⟨i + 1, ?_, ?_, ?_⟩
            · show i + 1 ≤ _;omega
            · first | omega | (dsimp only;omega)
            · exact ⟨⟨⟨_,rfl,(a68 (by rw [fu (by omega),← hfin,jk hk]))⟩,zy,c9,trivial⟩,⟨⟨_,rfl,(ml (by rw [fu (by omega),← hfin]) (by rw [fu (by omega),← hfin,jk hk]))⟩,trivial⟩⟩)
  ·
   have h1:=r1
   have hin:=of_decide_eq_false h1
   refine aa ?_;refine sx7 ?_;(iterate 5 refine qy ?_);refine m9 0 ?_;refine ra 1 true rfl rfl rfl rfl rfl rfl ?_;refine qy ?_;refine a6 ?_;refine sx7 ?_;(iterate 4 refine qy ?_);refine a6 ?_
   refine af ?_
   refine av (ι:=Nat) ⟨[(0,some _),(3,some _),(4,some _)],[]⟩ ⟨⟨c9,c9,c9,trivial⟩,trivial⟩ (fun k=>⟨[(5,some (vI k))],[(900,some (.arr true 1 69 ((ord (l.take i)).length + 1) (lf sC (jb (ord (l.take i)) k (l.getD i default)))))]⟩) (fun k=>k ≤ (ord (l.take i)).length ∧ ∀ j,k ≤ j → j < (ord (l.take i)).length → bef (l.getD i default) ((ord (l.take i)).getD j default) = true) (fun k=>k) ((ord (l.take i)).length) (⟨Nat.le_refl _,fun j h1 h2=>by omega⟩) ⟨⟨zy,trivial⟩,⟨⟨_,rfl,(by rw [al9];exact ao5 (CoP.refl _))⟩,trivial⟩⟩ ?_
   rintro k ⟨hk,hK⟩
   (iterate 2 refine a7 ?_);refine ay (E:=b5) ae ak [0,1,2,3,4,5,6,7,8,9,10,11,12,13] ?_;(iterate 3 refine qy ?_);refine b4 rfl rfl (fun r2=>?_) (fun r2=>?_)
   ·
    have h2:=of_decide_eq_true r2
    try simp only [ty] at h2
    (iterate 9 refine qy ?_ (hg:=(gtt r2)));refine rc rfl rfl rfl rfl rfl rfl aea (ae3 _ _) (CoL.refl _) rfl (gtt r2) ?_;refine qy ?_;refine a6 ?_;refine ⟨by kernel_rfl, ?_⟩
    refine a8 _ rfl (fun r3=>?_) (fun r3=>?_)
    ·
     have h3:=r3
     have h3:=ci r2 h3
     have hb:=ahl (by omega) hk h3 (by omega) (by omega)
     refine aa ?_;refine a7 ?_;refine af ?_;refine ay (E:=b5) ae ak [0,1,5,6,7,8,9,10,11,12,13,14,15,2,3,4,16,17] ?_;(iterate 12 refine qy ?_);refine s9 ?_
     (iterate 4 refine qy ?_);refine s9 ?_;refine a6 ?_;refine ⟨by kernel_rfl, ?_⟩;refine gy ?_;(iterate 3 refine qy ?_);refine a6 ?_;refine ⟨k - 1, ?_, ?_, ?_⟩
     · refine ⟨by omega,fun j h1 h2=>?_⟩
       by_cases hj:j = k - 1
       · rw [hj];exact hb
       · exact hK j (by omega) h2
     · show k - 1 < k
       omega
     · exact ⟨⟨zy,c9,c9,c9,trivial⟩,⟨⟨_,rfl,(ahn (by omega) hk (by omega) (by omega) rfl)⟩,trivial⟩⟩
    ·
     have h3:=r3
     have h3:=ci r2 h3
     have hb:=ahl (by omega) hk h3 (by omega) (by omega)
     have hfin:=a8i (fe _) hin hk hK (.inr (by rw [hb];decide))
     refine aq ?_;refine gy ?_;(iterate 3 refine qy ?_);refine a6 ?_
     first | (refine ⟨i + 1, ?_, ?_, ?_⟩
              · show i + 1 ≤ _;omega
              · first | omega | (dsimp only;omega)
              · exact ⟨⟨⟨_,rfl,(d9 (by rw [fu (by omega),po (fe _) hin]))⟩,zy,c9,trivial⟩,⟨⟨_,rfl,(cr (by rw [fu (by omega),po (fe _) hin]))⟩,trivial⟩⟩)
           | (refine ⟨i + 1, ?_, ?_, ?_⟩
              · show i + 1 ≤ _;omega
              · first | omega | (dsimp only;omega)
              · exact ⟨⟨⟨_,rfl,(a68 (by rw [fu (by omega),← hfin,jk hk]))⟩,zy,c9,trivial⟩,⟨⟨_,rfl,(ml (by rw [fu (by omega),← hfin]) (by rw [fu (by omega),← hfin,jk hk]))⟩,trivial⟩⟩)
   ·
    have h2:=of_decide_eq_false r2
    try simp only [ty] at h2
    have hfin:=a8i (fe _) hin hk hK (.inl (by omega))
    (iterate 10 refine k9 (gft r2) ?_);refine rq rfl rfl rfl rfl rfl ?_ (hp:=r2);refine a6 ?_;refine ⟨by kernel_rfl, ?_⟩;refine a8 _ rfl (fun e=>by cases e) (fun _=>?_);refine aq ?_;refine gy ?_
    (iterate 3 refine qy ?_);refine a6 ?_
    first | (refine ⟨i + 1, ?_, ?_, ?_⟩
             · show i + 1 ≤ _;omega
             · first | omega | (dsimp only;omega)
             · exact ⟨⟨⟨_,rfl,(d9 (by rw [fu (by omega),po (fe _) hin]))⟩,zy,c9,trivial⟩,⟨⟨_,rfl,(cr (by rw [fu (by omega),po (fe _) hin]))⟩,trivial⟩⟩)
          | (refine ⟨i + 1, ?_, ?_, ?_⟩
             · show i + 1 ≤ _;omega
             · first | omega | (dsimp only;omega)
             · exact ⟨⟨⟨_,rfl,(a68 (by rw [fu (by omega),← hfin,jk hk]))⟩,zy,c9,trivial⟩,⟨⟨_,rfl,(ml (by rw [fu (by omega),← hfin]) (by rw [fu (by omega),← hfin,jk hk]))⟩,trivial⟩⟩)
 ·
  have h0:=of_decide_eq_false r0
  try simp only [ty] at h0
  obtain rfl:i = l.length:=by omega
  refine aq ?_;refine sx7 ?_;(iterate 2 refine qy ?_);refine a6 ?_;refine dp 2 rfl rfl rfl ?_
  exact hx8 rfl rfl rfl (⟨CoC.one (CoP.of_eq (by rw [List.take_length];rfl)),trivial⟩)
end Go.Hx
end

/- A part of the proof: V7. -/
import Derived.Test.YtaegkccfbmekbaaGreatNq17
set_option linter.all false
section
namespace Go.Hx
open Go.Proofs
set_option maxRecDepth 100000
set_option maxHeartbeats 1000000
theorem ady:aj Tryz.prog 119:=⟨Tryz.f119,Tryz.func119,by kernel_rfl,by kernel_rfl⟩
theorem adu (a b:AS):ap Tryz.prog 119 [pA a,pA b] (b4 [pB (bef a b)]):=by
 refine ah (nt:=18) ae Tryz.func119 rfl rfl l9 ?_;refine sx7 ?_;refine qy ?_;refine a6 ?_;refine a7 ?_;refine sx7 ?_;refine qy ?_
 refine rc rfl rfl rfl rfl rfl rfl pa (ui _) (CoL.refl _) rfl rfl ?_;refine qy ?_;refine rc rfl rfl rfl rfl rfl rfl pa (ui _) (CoL.refl _) rfl rfl ?_;refine qy ?_;refine a6 ?_
 refine a8 _ rfl (fun r0=>?_) (fun r0=>?_)
 ·
  have h0:=r0
  have h0:=of_decide_eq_false (be h0)
  try simp only [ty] at h0
  refine sx7 ?_;refine qy ?_;refine rc rfl rfl rfl rfl rfl rfl pa (ui _) (CoL.refl _) rfl rfl ?_;refine qy ?_;refine rc rfl rfl rfl rfl rfl rfl pa (ui _) (CoL.refl _) rfl rfl ?_;(iterate 2 refine qy ?_)
  refine a6 ?_
  exact hx8 rfl rfl rfl (⟨ccb (atb h0),trivial⟩)
 ·
  have h0:=r0
  have h0:=of_decide_eq_true (bf h0)
  try simp only [ty] at h0
  refine aa ?_;refine sx7 ?_;(iterate 4 refine qy ?_);refine a6 ?_
  exact hx8 rfl rfl rfl (⟨ccb (aqe h0),trivial⟩)
theorem aon:aj Tryz.prog 118:=⟨Tryz.f118,Tryz.func118,by kernel_rfl,by kernel_rfl⟩
theorem cIn (l:List AS) (s:AS):ap Tryz.prog 118 [pP (asl l),pA s] (b4 [pB (decide (s ∈ l))]):=by
 refine ah (nt:=18) ae Tryz.func118 rfl rfl l9 ?_;refine a7 ?_
 refine j0 0 rfl fun hn=>?_
 refine gy ?_;refine qy ?_;refine a6 ?_;refine db (ι:=Unit) ⟨[],[]⟩ ⟨trivial,trivial⟩ (fun _i=>⟨[],[]⟩) (fun _i=>decide (s ∈ l) = false) ?_ ?_
 ·
  refine sx7 ?_;refine qy ?_;refine a6 ?_;refine af ?_
  refine av (ι:=Nat) ⟨[(0,some _),(1,some _)],[]⟩ ⟨⟨c9,c9,trivial⟩,trivial⟩ (fun i=>⟨[(5,some (vI i))],[]⟩) (fun i=>i ≤ l.length ∧ (∀ j,j < i → decide (l.getD j default = s) = false)) (fun i=>l.length - i) (0) (⟨Nat.zero_le _,dl⟩) ⟨⟨zy,trivial⟩,trivial⟩ ?_
  rintro i ⟨hi,hI⟩
  refine a7 ?_;refine sx7 ?_;(iterate 4 refine qy ?_);refine a6 ?_;refine a8 _ rfl (fun r0=>?_) (fun r0=>?_)
  ·
   have h0:=of_decide_eq_true r0
   try simp only [ty] at h0
   refine aa ?_;refine a7 ?_;refine af ?_;refine sx7 ?_;(iterate 6 refine qy ?_);refine a6 ?_;refine a8 _ rfl (fun r1=>?_) (fun r1=>?_)
   ·
    have h1:=of_decide_eq_true r1
    try simp only [ty] at h1
    refine sx7 ?_;refine qy ?_;refine a6 ?_
    exact hx8 rfl rfl rfl (⟨ccb (by rw [← adk];exact (auh (p:=fun x=>decide (x = s)) (i:=i) (by omega) (decide_eq_true (im.1 h1))).symm),trivial⟩)
   ·
    have h1:=of_decide_eq_false r1
    try simp only [ty] at h1
    refine aa ?_;refine gy ?_;(iterate 3 refine qy ?_);refine a6 ?_;refine ⟨i + 1, ?_, ?_, ?_⟩
    · exact ⟨by show i + 1 ≤ _;omega,da hI (decide_eq_false fun e=>h1 (congrArg asI e))⟩
    · first | omega | (dsimp only;omega)
    · exact ⟨⟨zy,c9,c9,trivial⟩,trivial⟩
  ·
   have h0:=of_decide_eq_false r0
   try simp only [ty] at h0
   refine au ?_;refine ⟨(), ?_, ?_⟩
   · rw [← adk];exact aug (p:=fun x=>decide (x = s)) fun j hj=>hI j (by omega)
   · exact ⟨trivial,trivial⟩
 · rintro _ hj
   refine sx7 ?_;refine qy ?_;refine a6 ?_
   exact hx8 rfl rfl rfl (⟨ccb hj.symm,trivial⟩)
theorem aeh:aj Tryz.prog 109:=⟨Tryz.f109,Tryz.func109,by kernel_rfl,by kernel_rfl⟩
theorem amv (a:Int):ap Tryz.prog 109 [pI a] (b4 [pB false]):=by
 refine ah (nt:=6) ae Tryz.func109 rfl rfl l9 ?_;refine sx7 ?_;refine qy ?_;refine a6 ?_;refine sx7 ?_;(iterate 4 refine qy ?_);refine a6 ?_
 exact hx8 rfl rfl rfl (⟨ccb (by simp),trivial⟩)
theorem ade:aj Tryz.prog 111:=⟨Tryz.f111,Tryz.func111,by kernel_rfl,by kernel_rfl⟩
theorem am6 (a:AS):ap Tryz.prog 111 [pA a] (b4 [pB false]):=by
 refine ah (nt:=6) ae Tryz.func111 rfl rfl l9 ?_;refine sx7 ?_;refine qy ?_;refine a6 ?_;refine sx7 ?_;(iterate 4 refine qy ?_);refine a6 ?_
 exact hx8 rfl rfl rfl (⟨ccb (by simp),trivial⟩)
theorem aa0:aj Tryz.prog 71:=⟨Tryz.f71,Tryz.func71,by kernel_rfl,by kernel_rfl⟩
theorem afk (a b:Int):ap Tryz.prog 71 [pI a,pI b] (b4 [pI (fh a b)]):=by
 refine ah (nt:=20) ae Tryz.func71 rfl rfl l9 ?_;refine sx7 ?_;refine qy ?_;refine a6 ?_;refine sx7 ?_;refine qy ?_;refine rc rfl rfl rfl rfl rfl rfl aeh (amv _) (CoL.refl _) rfl rfl ?_;refine qy ?_
 refine a6 ?_;refine sx7 ?_;refine qy ?_;refine rc rfl rfl rfl rfl rfl rfl aeh (amv _) (CoL.refl _) rfl rfl ?_;refine qy ?_;refine a6 ?_;refine a7 ?_;refine sx7 ?_;refine qy ?_;refine a6 ?_
 refine a8 _ rfl (fun e=>by cases e) (fun _=>?_);refine aa ?_;refine a7 ?_;refine sx7 ?_;refine qy ?_;refine a6 ?_;refine a8 _ rfl (fun e=>by cases e) (fun _=>?_);refine aa ?_
 refine a7 ?_;refine sx7 ?_;(iterate 3 refine qy ?_);refine a6 ?_;refine a8 _ rfl (fun r0=>?_) (fun r0=>?_)
 ·
  have h0:=of_decide_eq_true r0
  try simp only [ty] at h0
  refine sx7 ?_;refine qy ?_;refine a6 ?_
  exact hx8 rfl rfl rfl (⟨cci (by unfold fh;first | (rw [if_pos (by omega)]) | (rw [if_neg (by omega),if_pos (by omega)]) | (rw [if_neg (by omega),if_neg (by omega)])),trivial⟩)
 ·
  have h0:=of_decide_eq_false r0
  try simp only [ty] at h0
  refine aa ?_;refine a7 ?_;refine sx7 ?_;(iterate 3 refine qy ?_);refine a6 ?_;refine a8 _ rfl (fun r1=>?_) (fun r1=>?_)
  ·
   have h1:=of_decide_eq_true r1
   try simp only [ty] at h1
   refine sx7 ?_;refine qy ?_;refine a6 ?_
   exact hx8 rfl rfl rfl (⟨cci (by unfold fh;first | (rw [if_pos (by omega)]) | (rw [if_neg (by omega),if_pos (by omega)]) | (rw [if_neg (by omega),if_neg (by omega)])),trivial⟩)
  ·
   have h1:=of_decide_eq_false r1
   try simp only [ty] at h1
   refine aa ?_;refine sx7 ?_;refine qy ?_;refine a6 ?_
   exact hx8 rfl rfl rfl (⟨cci (by unfold fh;first | (rw [if_pos (by omega)]) | (rw [if_neg (by omega),if_pos (by omega)]) | (rw [if_neg (by omega),if_neg (by omega)])),trivial⟩)
theorem aha:aj Tryz.prog 73:=⟨Tryz.f73,Tryz.func73,by kernel_rfl,by kernel_rfl⟩
theorem amm (a b:AS):ap Tryz.prog 73 [pA a,pA b] (b4 [pI (fh (asI a) (asI b))]):=by
 refine ah (nt:=20) ae Tryz.func73 rfl rfl l9 ?_;refine sx7 ?_;refine qy ?_;refine a6 ?_;refine sx7 ?_;refine qy ?_;refine rc rfl rfl rfl rfl rfl rfl ade (am6 _) (CoL.refl _) rfl rfl ?_;refine qy ?_
 refine a6 ?_;refine sx7 ?_;refine qy ?_;refine rc rfl rfl rfl rfl rfl rfl ade (am6 _) (CoL.refl _) rfl rfl ?_;refine qy ?_;refine a6 ?_;refine a7 ?_;refine sx7 ?_;refine qy ?_;refine a6 ?_
 refine a8 _ rfl (fun e=>by cases e) (fun _=>?_);refine aa ?_;refine a7 ?_;refine sx7 ?_;refine qy ?_;refine a6 ?_;refine a8 _ rfl (fun e=>by cases e) (fun _=>?_);refine aa ?_
 refine a7 ?_;refine sx7 ?_;(iterate 3 refine qy ?_);refine a6 ?_;refine a8 _ rfl (fun r0=>?_) (fun r0=>?_)
 ·
  have h0:=of_decide_eq_true r0
  try simp only [ty] at h0
  refine sx7 ?_;refine qy ?_;refine a6 ?_
  exact hx8 rfl rfl rfl (⟨cci (by unfold fh;first | (rw [if_pos (by omega)]) | (rw [if_neg (by omega),if_pos (by omega)]) | (rw [if_neg (by omega),if_neg (by omega)])),trivial⟩)
 ·
  have h0:=of_decide_eq_false r0
  try simp only [ty] at h0
  refine aa ?_;refine a7 ?_;refine sx7 ?_;(iterate 3 refine qy ?_);refine a6 ?_;refine a8 _ rfl (fun r1=>?_) (fun r1=>?_)
  ·
   have h1:=of_decide_eq_true r1
   try simp only [ty] at h1
   refine sx7 ?_;refine qy ?_;refine a6 ?_
   exact hx8 rfl rfl rfl (⟨cci (by unfold fh;first | (rw [if_pos (by omega)]) | (rw [if_neg (by omega),if_pos (by omega)]) | (rw [if_neg (by omega),if_neg (by omega)])),trivial⟩)
  ·
   have h1:=of_decide_eq_false r1
   try simp only [ty] at h1
   refine aa ?_;refine sx7 ?_;refine qy ?_;refine a6 ?_
   exact hx8 rfl rfl rfl (⟨cci (by unfold fh;first | (rw [if_pos (by omega)]) | (rw [if_neg (by omega),if_pos (by omega)]) | (rw [if_neg (by omega),if_neg (by omega)])),trivial⟩)
theorem a99:aj Tryz.prog 70:=⟨Tryz.f70,Tryz.func70,by kernel_rfl,by kernel_rfl⟩
theorem cOr (l:List Int):ap Tryz.prog 70 [pP (psl 1 jC l)] (b4 [pI (orF l)]):=by
 refine ah (nt:=18) ae Tryz.func70 rfl rfl l9 ?_;refine a7 ?_
 refine j0 0 rfl fun hn=>?_
 refine gy ?_;refine qy ?_;refine a6 ?_;refine sx7 ?_;refine qy ?_;refine a6 ?_;refine db (ι:=Unit) ⟨[(3,some _)],[]⟩ ⟨⟨c9,trivial⟩,trivial⟩ (fun _i=>⟨[],[]⟩) (fun _i=>orF l = 0) ?_ ?_
 ·
  refine sx7 ?_;(iterate 3 refine qy ?_);refine a6 ?_;refine af ?_
  refine av (ι:=Nat) ⟨[(3,some _),(6,some _),(7,some _)],[]⟩ ⟨⟨c9,c9,c9,trivial⟩,trivial⟩ (fun i=>⟨[(8,some (vI i))],[]⟩) (fun i=>i ≤ l.length ∧ (∀ j,j < i → decide (l.getD j default = 0) = true)) (fun i=>l.length - i) (0) (⟨Nat.zero_le _,dl⟩) ⟨⟨zy,trivial⟩,trivial⟩ ?_
  rintro i ⟨hi,hI⟩
  refine sx7 ?_;refine qy ?_;refine a6 ?_;refine a7 ?_;refine a8 _ rfl (fun r0=>?_) (fun r0=>?_)
  ·
   have h0:=of_decide_eq_true r0
   try simp only [ty] at h0
   refine aa ?_;refine a7 ?_;refine af ?_;refine sx7 ?_;(iterate 3 refine qy ?_);refine a6 ?_;refine sx7 ?_;(iterate 3 refine qy ?_);refine a6 ?_;refine a8 _ rfl (fun r1=>?_) (fun r1=>?_)
   ·
    have h1:=r1
    have h1:=of_decide_eq_false (be h1)
    try simp only [ty] at h1
    refine sx7 ?_;(iterate 2 refine qy ?_);refine a6 ?_
    exact hx8 rfl rfl rfl (⟨cci (auk (i:=i) (by omega) hI h1).symm,trivial⟩)
   ·
    have h1:=r1
    have h1:=of_decide_eq_true (bf h1)
    try simp only [ty] at h1
    refine aa ?_;refine gy ?_;(iterate 2 refine qy ?_);refine a6 ?_;refine ⟨i + 1, ?_, ?_, ?_⟩
    · exact ⟨by show i + 1 ≤ _;omega,da hI (decide_eq_true h1)⟩
    · first | omega | (dsimp only;omega)
    · exact ⟨⟨zy,c9,c9,c9,trivial⟩,trivial⟩
  ·
   have h0:=of_decide_eq_false r0
   try simp only [ty] at h0
   refine au ?_;refine ⟨(), ?_, ?_⟩
   · exact au6 fun j hj=>hI j (by omega)
   · exact ⟨⟨c9,trivial⟩,trivial⟩
 · rintro _ hj
   refine sx7 ?_;(iterate 2 refine qy ?_);refine a6 ?_
   exact hx8 rfl rfl rfl (⟨cci hj.symm,trivial⟩)
theorem akj (a b:AS):ap Tryz.prog 133 [pA a,pA b] (b4 [pI (p9 a b)]):=by
 refine ah (nt:=15) ae Tryz.func133 rfl rfl l9 ?_;refine sx7 ?_;refine qy ?_;refine a6 ?_;refine sx7 ?_;refine qy ?_;refine rc rfl rfl rfl rfl rfl rfl a07 (a4j _) (CoL.refl _) rfl rfl ?_;refine qy ?_
 refine rc rfl rfl rfl rfl rfl rfl a07 (a4j _) (CoL.refl _) rfl rfl ?_;refine rc rfl rfl rfl rfl rfl rfl aa0 (afk _ _) (CoL.refl _) rfl rfl ?_;(iterate 2 refine qy ?_)
 refine rc rfl rfl rfl rfl rfl rfl aha (amm _ _) (CoL.refl _) rfl rfl ?_;refine m9 0 ?_
 refine rc rfl rfl rfl rfl rfl rfl a99 (cOr [fh (bsz a) (bsz b),fh (asI a) (asI b)]) (⟨CoC.one (ws (CoP.refl _) (CoP.refl _)),trivial⟩) rfl rfl ?_;refine qy ?_;refine a6 ?_
 exact hx8 rfl rfl rfl (⟨cci (ae0 a b),trivial⟩)
theorem agu:aj Tryz.prog 83:=⟨Tryz.f83,Tryz.func83,by kernel_rfl,by kernel_rfl⟩
theorem adl (l:List AS) (hl:l.length ≤ 8589934592):ap Tryz.prog 83 [pP (asl l)] (b4 [pP (asl (ord l))]):=by
 refine ah (nt:=61) ae Tryz.func83 rfl rfl l9 ?_;refine a7 ?_
 refine j0 0 rfl fun hn=>?_
 refine gy ?_;refine qy ?_;refine a6 ?_;refine sx7 ?_;refine qy ?_;refine a6 ?_;refine a7 ?_;refine sx7 ?_;refine qy ?_;refine a6 ?_;refine af ?_
 refine dw 3 900 true 1 69 (lf sC []) (by decide) rfl (CoP.sl rfl (.inr rfl) (fun h=>h) (fun i j hi _=>absurd hi (Nat.not_lt_zero i))) (.inr rfl) rfl ?_
 refine av (ι:=Nat) ⟨[(0,some _)],[]⟩ ⟨⟨c9,trivial⟩,trivial⟩ (fun i=>⟨[(3,some (.v (.one (.ref 900 (ord (l.take i)).length)))),(4,some (vI i))],[(900,some (.arr true 1 69 (ord (l.take i)).length (lf sC (ord (l.take i)))))]⟩) (fun i=>i ≤ l.length) (fun i=>l.length - i) (0) (Nat.zero_le _) ⟨⟨zy,zy,trivial⟩,⟨u9,trivial⟩⟩ ?_
 rintro i hi
 have hlen:=t6 (l.take i)
 rw [List.length_take] at hlen
 refine a7 ?_;refine sx7 ?_;(iterate 4 refine qy ?_);refine a6 ?_;refine a8 _ rfl (fun r0=>?_) (fun r0=>?_)
 ·
  have h0:=of_decide_eq_true r0
  try simp only [ty] at h0
  refine aa ?_;refine a7 ?_;refine af ?_;refine a7 ?_;refine sx7 ?_;(iterate 5 refine qy ?_);refine rc rfl rfl rfl rfl rfl rfl aon (cIn (ord (l.take i)) (l.getD i default)) (CoL.refl _) rfl rfl ?_
  refine a6 ?_;refine a8 _ rfl (fun r1=>?_) (fun r1=>?_)
  ·
   have h1:=r1
   have hin:=of_decide_eq_true h1
   refine au ?_;refine gy ?_;(iterate 3 refine qy ?_);refine a6 ?_
   first | (refine ⟨i + 1, ?_, ?_, ?_⟩
            · show i + 1 ≤ _;omega
            · first | omega | (dsimp only;omega)
            · exact ⟨⟨⟨_,rfl,(d5 (by rw [fm (by omega),pk (f7 _) hin]))⟩,zy,c9,trivial⟩,⟨⟨_,rfl,(ci (by rw [fm (by omega),pk (f7 _) hin]))⟩,trivial⟩⟩)
         | (refine ⟨i + 1, ?_, ?_, ?_⟩
            · show i + 1 ≤ _;omega
            · first | omega | (dsimp only;omega)
            · exact ⟨⟨⟨_,rfl,(a64 (by rw [fm (by omega),← hfin,jk hk]))⟩,zy,c9,trivial⟩,⟨⟨_,rfl,(o4 (by rw [fm (by omega),← hfin]) (by rw [fm (by omega),← hfin,jk hk]))⟩,trivial⟩⟩)
  ·
   have h1:=r1
   have hin:=of_decide_eq_false h1
   refine aa ?_;refine sx7 ?_;(iterate 5 refine qy ?_);refine m9 0 ?_;refine ra 1 true rfl rfl rfl rfl rfl rfl ?_;refine qy ?_;refine a6 ?_;refine sx7 ?_;(iterate 4 refine qy ?_);refine a6 ?_
   refine af ?_
   refine av (ι:=Nat) ⟨[(0,some _),(3,some _),(4,some _)],[]⟩ ⟨⟨c9,c9,c9,trivial⟩,trivial⟩ (fun k=>⟨[(5,some (vI k))],[(900,some (.arr true 1 69 ((ord (l.take i)).length + 1) (lf sC (j2 (ord (l.take i)) k (l.getD i default)))))]⟩) (fun k=>k ≤ (ord (l.take i)).length ∧ ∀ j,k ≤ j → j < (ord (l.take i)).length → bef (l.getD i default) ((ord (l.take i)).getD j default) = true) (fun k=>k) ((ord (l.take i)).length) (⟨Nat.le_refl _,fun j h1 h2=>by omega⟩) ⟨⟨zy,trivial⟩,⟨⟨_,rfl,(by rw [aky];exact aok (CoP.refl _))⟩,trivial⟩⟩ ?_
   rintro k ⟨hk,hK⟩
   (iterate 2 refine a7 ?_);refine ax (E:=aq) ae ak [0,1,2,3,4,5,6,7,8,9,10,11,12,13] ?_;(iterate 3 refine qy ?_);refine b5 rfl rfl (fun r2=>?_) (fun r2=>?_)
   ·
    have h2:=of_decide_eq_true r2
    try simp only [ty] at h2
    (iterate 9 refine qy ?_ (hg:=(gtt r2)));refine rc rfl rfl rfl rfl rfl rfl ady (adu _ _) (CoL.refl _) rfl (gtt r2) ?_;refine qy ?_;refine a6 ?_;refine ⟨by kernel_rfl, ?_⟩
    refine a8 _ rfl (fun r3=>?_) (fun r3=>?_)
    ·
     have h3:=r3
     have h3:=d4 r2 h3
     have hb:=aic (by omega) hk h3 (by omega) (by omega)
     refine aa ?_;refine a7 ?_;refine af ?_;refine ax (E:=aq) ae ak [0,1,5,6,7,8,9,10,11,12,13,14,15,2,3,4,16,17] ?_;(iterate 12 refine qy ?_);refine s9 ?_
     (iterate 4 refine qy ?_);refine s9 ?_;refine a6 ?_;refine ⟨by kernel_rfl, ?_⟩;refine gy ?_;(iterate 3 refine qy ?_);refine a6 ?_;refine ⟨k - 1, ?_, ?_, ?_⟩
     · refine ⟨by omega,fun j h1 h2=>?_⟩
       by_cases hj:j = k - 1
       · rw [hj];exact hb
       · exact hK j (by omega) h2
     · show k - 1 < k
       omega
     · exact ⟨⟨zy,c9,c9,c9,trivial⟩,⟨⟨_,rfl,(ahx (by omega) hk (by omega) (by omega) rfl)⟩,trivial⟩⟩
    ·
     have h3:=r3
     have h3:=d4 r2 h3
     have hb:=aic (by omega) hk h3 (by omega) (by omega)
     have hfin:=a7y (f7 _) hin hk hK (.inr (by rw [hb];decide))
     refine au ?_;refine gy ?_;(iterate 3 refine qy ?_);refine a6 ?_
     first | (refine ⟨i + 1, ?_, ?_, ?_⟩
              · show i + 1 ≤ _;omega
              · first | omega | (dsimp only;omega)
              · exact ⟨⟨⟨_,rfl,(d5 (by rw [fm (by omega),pk (f7 _) hin]))⟩,zy,c9,trivial⟩,⟨⟨_,rfl,(ci (by rw [fm (by omega),pk (f7 _) hin]))⟩,trivial⟩⟩)
           | (refine ⟨i + 1, ?_, ?_, ?_⟩
              · show i + 1 ≤ _;omega
              · first | omega | (dsimp only;omega)
              · exact ⟨⟨⟨_,rfl,(a64 (by rw [fm (by omega),← hfin,jk hk]))⟩,zy,c9,trivial⟩,⟨⟨_,rfl,(o4 (by rw [fm (by omega),← hfin]) (by rw [fm (by omega),← hfin,jk hk]))⟩,trivial⟩⟩)
   ·
    have h2:=of_decide_eq_false r2
    try simp only [ty] at h2
    have hfin:=a7y (f7 _) hin hk hK (.inl (by omega))
    (iterate 10 refine k9 (gft r2) ?_);refine rq rfl rfl rfl rfl rfl ?_ (hp:=r2);refine a6 ?_;refine ⟨by kernel_rfl, ?_⟩;refine a8 _ rfl (fun e=>by cases e) (fun _=>?_);refine au ?_;refine gy ?_
    (iterate 3 refine qy ?_);refine a6 ?_
    first | (refine ⟨i + 1, ?_, ?_, ?_⟩
             · show i + 1 ≤ _;omega
             · first | omega | (dsimp only;omega)
             · exact ⟨⟨⟨_,rfl,(d5 (by rw [fm (by omega),pk (f7 _) hin]))⟩,zy,c9,trivial⟩,⟨⟨_,rfl,(ci (by rw [fm (by omega),pk (f7 _) hin]))⟩,trivial⟩⟩)
          | (refine ⟨i + 1, ?_, ?_, ?_⟩
             · show i + 1 ≤ _;omega
             · first | omega | (dsimp only;omega)
             · exact ⟨⟨⟨_,rfl,(a64 (by rw [fm (by omega),← hfin,jk hk]))⟩,zy,c9,trivial⟩,⟨⟨_,rfl,(o4 (by rw [fm (by omega),← hfin]) (by rw [fm (by omega),← hfin,jk hk]))⟩,trivial⟩⟩)
 ·
  have h0:=of_decide_eq_false r0
  try simp only [ty] at h0
  obtain rfl:i = l.length:=by omega
  refine au ?_;refine sx7 ?_;(iterate 2 refine qy ?_);refine a6 ?_;refine dn 2 rfl rfl rfl ?_
  exact hx8 rfl rfl rfl (⟨CoC.one (CoP.of_eq (by rw [List.take_length];rfl)),trivial⟩)
end Go.Hx
end

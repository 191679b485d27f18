/- A part of the proof: V7. -/
import Derived.Test.YtaegkccfbmekbaaGreatNx17
set_option linter.all false
section
namespace Go.Hx
open Go.Proofs
set_option maxRecDepth 100000
set_option maxHeartbeats 1000000
theorem adr:ai Tryz.prog 119:=⟨Tryz.f119,Tryz.func119,by kernel_rfl,by kernel_rfl⟩
theorem aek (a b:AS):ak Tryz.prog 119 [pA a,pA b] (av [pB (bef a b)]):=by
 refine ag (nt:=18) ae Tryz.func119 rfl rfl l9 ?_;refine sx7 ?_;refine qy ?_;refine a6 ?_;refine a7 ?_;refine sx7 ?_;refine qy ?_
 refine rc rfl rfl rfl rfl rfl rfl qd (tc _) (CoL.refl _) rfl rfl ?_;refine qy ?_;refine rc rfl rfl rfl rfl rfl rfl qd (tc _) (CoL.refl _) rfl rfl ?_;refine qy ?_;refine a6 ?_
 refine a8 _ rfl (fun r0=>?_) (fun r0=>?_)
 ·
  have h0:=r0
  have h0:=of_decide_eq_false (az h0)
  try simp only [ty] at h0
  refine sx7 ?_;refine qy ?_;refine rc rfl rfl rfl rfl rfl rfl qd (tc _) (CoL.refl _) rfl rfl ?_;refine qy ?_;refine rc rfl rfl rfl rfl rfl rfl qd (tc _) (CoL.refl _) rfl rfl ?_;(iterate 2 refine qy ?_)
  refine a6 ?_
  exact hx8 rfl rfl rfl (⟨ccb (atk h0),trivial⟩)
 ·
  have h0:=r0
  have h0:=of_decide_eq_true (b4 h0)
  try simp only [ty] at h0
  refine aa ?_;refine sx7 ?_;(iterate 4 refine qy ?_);refine a6 ?_
  exact hx8 rfl rfl rfl (⟨ccb (arn h0),trivial⟩)
theorem apa:ai Tryz.prog 118:=⟨Tryz.f118,Tryz.func118,by kernel_rfl,by kernel_rfl⟩
theorem cIn (l:List AS) (s:AS):ak Tryz.prog 118 [pP (asl l),pA s] (av [pB (decide (s ∈ l))]):=by
 refine ag (nt:=18) ae Tryz.func118 rfl rfl l9 ?_;refine a7 ?_
 refine ik 0 rfl fun hn=>?_
 refine gy ?_;refine qy ?_;refine a6 ?_;refine db (ι:=Unit) ⟨[],[]⟩ ⟨trivial,trivial⟩ (fun _i=>⟨[],[]⟩) (fun _i=>decide (s ∈ l) = false) ?_ ?_
 ·
  refine sx7 ?_;refine qy ?_;refine a6 ?_;refine af ?_
  refine ap (ι:=Nat) ⟨[(0,some _),(1,some _)],[]⟩ ⟨⟨c9,c9,trivial⟩,trivial⟩ (fun i=>⟨[(5,some (vI i))],[]⟩) (fun i=>i ≤ l.length ∧ (∀ j,j < i → decide (l.getD j default = s) = false)) (fun i=>l.length - i) (0) (⟨Nat.zero_le _,df⟩) ⟨⟨zy,trivial⟩,trivial⟩ ?_
  rintro i ⟨hi,hI⟩
  refine a7 ?_;refine sx7 ?_;(iterate 4 refine qy ?_);refine a6 ?_;refine a8 _ rfl (fun r0=>?_) (fun r0=>?_)
  ·
   have h0:=of_decide_eq_true r0
   try simp only [ty] at h0
   refine aa ?_;refine a7 ?_;refine af ?_;refine sx7 ?_;(iterate 6 refine qy ?_);refine a6 ?_;refine a8 _ rfl (fun r1=>?_) (fun r1=>?_)
   ·
    have h1:=of_decide_eq_true r1
    try simp only [ty] at h1
    refine sx7 ?_;refine qy ?_;refine a6 ?_
    exact hx8 rfl rfl rfl (⟨ccb (by rw [← adk];exact (aup (p:=fun x=>decide (x = s)) (i:=i) (by omega) (decide_eq_true (fc.1 h1))).symm),trivial⟩)
   ·
    have h1:=of_decide_eq_false r1
    try simp only [ty] at h1
    refine aa ?_;refine gy ?_;(iterate 3 refine qy ?_);refine a6 ?_;refine ⟨i + 1, ?_, ?_, ?_⟩
    · exact ⟨by show i + 1 ≤ _;omega,cz hI (decide_eq_false fun e=>h1 (congrArg asI e))⟩
    · first | omega | (dsimp only;omega)
    · exact ⟨⟨zy,c9,c9,trivial⟩,trivial⟩
  ·
   have h0:=of_decide_eq_false r0
   try simp only [ty] at h0
   refine am ?_;refine ⟨(), ?_, ?_⟩
   · rw [← adk];exact auv (p:=fun x=>decide (x = s)) fun j hj=>hI j (by omega)
   · exact ⟨trivial,trivial⟩
 · rintro _ hj
   refine sx7 ?_;refine qy ?_;refine a6 ?_
   exact hx8 rfl rfl rfl (⟨ccb hj.symm,trivial⟩)
theorem ado:ai Tryz.prog 109:=⟨Tryz.f109,Tryz.func109,by kernel_rfl,by kernel_rfl⟩
theorem amh (a:Int):ak Tryz.prog 109 [pI a] (av [pB false]):=by
 refine ag (nt:=6) ae Tryz.func109 rfl rfl l9 ?_;refine sx7 ?_;refine qy ?_;refine a6 ?_;refine sx7 ?_;(iterate 4 refine qy ?_);refine a6 ?_
 exact hx8 rfl rfl rfl (⟨ccb (by simp),trivial⟩)
theorem adt:ai Tryz.prog 111:=⟨Tryz.f111,Tryz.func111,by kernel_rfl,by kernel_rfl⟩
theorem ama (a:AS):ak Tryz.prog 111 [pA a] (av [pB false]):=by
 refine ag (nt:=6) ae Tryz.func111 rfl rfl l9 ?_;refine sx7 ?_;refine qy ?_;refine a6 ?_;refine sx7 ?_;(iterate 4 refine qy ?_);refine a6 ?_
 exact hx8 rfl rfl rfl (⟨ccb (by simp),trivial⟩)
theorem a9c:ai Tryz.prog 71:=⟨Tryz.f71,Tryz.func71,by kernel_rfl,by kernel_rfl⟩
theorem af0 (a b:Int):ak Tryz.prog 71 [pI a,pI b] (av [pI (fu a b)]):=by
 refine ag (nt:=20) ae Tryz.func71 rfl rfl l9 ?_;refine sx7 ?_;refine qy ?_;refine a6 ?_;refine sx7 ?_;refine qy ?_;refine rc rfl rfl rfl rfl rfl rfl ado (amh _) (CoL.refl _) rfl rfl ?_;refine qy ?_
 refine a6 ?_;refine sx7 ?_;refine qy ?_;refine rc rfl rfl rfl rfl rfl rfl ado (amh _) (CoL.refl _) rfl rfl ?_;refine qy ?_;refine a6 ?_;refine a7 ?_;refine sx7 ?_;refine qy ?_;refine a6 ?_
 refine a8 _ rfl (fun e=>by cases e) (fun _=>?_);refine aa ?_;refine a7 ?_;refine sx7 ?_;refine qy ?_;refine a6 ?_;refine a8 _ rfl (fun e=>by cases e) (fun _=>?_);refine aa ?_
 refine a7 ?_;refine sx7 ?_;(iterate 3 refine qy ?_);refine a6 ?_;refine a8 _ rfl (fun r0=>?_) (fun r0=>?_)
 ·
  have h0:=of_decide_eq_true r0
  try simp only [ty] at h0
  refine sx7 ?_;refine qy ?_;refine a6 ?_
  exact hx8 rfl rfl rfl (⟨cci (by unfold fu;first | (rw [if_pos (by omega)]) | (rw [if_neg (by omega),if_pos (by omega)]) | (rw [if_neg (by omega),if_neg (by omega)])),trivial⟩)
 ·
  have h0:=of_decide_eq_false r0
  try simp only [ty] at h0
  refine aa ?_;refine a7 ?_;refine sx7 ?_;(iterate 3 refine qy ?_);refine a6 ?_;refine a8 _ rfl (fun r1=>?_) (fun r1=>?_)
  ·
   have h1:=of_decide_eq_true r1
   try simp only [ty] at h1
   refine sx7 ?_;refine qy ?_;refine a6 ?_
   exact hx8 rfl rfl rfl (⟨cci (by unfold fu;first | (rw [if_pos (by omega)]) | (rw [if_neg (by omega),if_pos (by omega)]) | (rw [if_neg (by omega),if_neg (by omega)])),trivial⟩)
  ·
   have h1:=of_decide_eq_false r1
   try simp only [ty] at h1
   refine aa ?_;refine sx7 ?_;refine qy ?_;refine a6 ?_
   exact hx8 rfl rfl rfl (⟨cci (by unfold fu;first | (rw [if_pos (by omega)]) | (rw [if_neg (by omega),if_pos (by omega)]) | (rw [if_neg (by omega),if_neg (by omega)])),trivial⟩)
theorem ahc:ai Tryz.prog 73:=⟨Tryz.f73,Tryz.func73,by kernel_rfl,by kernel_rfl⟩
theorem amr (a b:AS):ak Tryz.prog 73 [pA a,pA b] (av [pI (fu (asI a) (asI b))]):=by
 refine ag (nt:=20) ae Tryz.func73 rfl rfl l9 ?_;refine sx7 ?_;refine qy ?_;refine a6 ?_;refine sx7 ?_;refine qy ?_;refine rc rfl rfl rfl rfl rfl rfl adt (ama _) (CoL.refl _) rfl rfl ?_;refine qy ?_
 refine a6 ?_;refine sx7 ?_;refine qy ?_;refine rc rfl rfl rfl rfl rfl rfl adt (ama _) (CoL.refl _) rfl rfl ?_;refine qy ?_;refine a6 ?_;refine a7 ?_;refine sx7 ?_;refine qy ?_;refine a6 ?_
 refine a8 _ rfl (fun e=>by cases e) (fun _=>?_);refine aa ?_;refine a7 ?_;refine sx7 ?_;refine qy ?_;refine a6 ?_;refine a8 _ rfl (fun e=>by cases e) (fun _=>?_);refine aa ?_
 refine a7 ?_;refine sx7 ?_;(iterate 3 refine qy ?_);refine a6 ?_;refine a8 _ rfl (fun r0=>?_) (fun r0=>?_)
 ·
  have h0:=of_decide_eq_true r0
  try simp only [ty] at h0
  refine sx7 ?_;refine qy ?_;refine a6 ?_
  exact hx8 rfl rfl rfl (⟨cci (by unfold fu;first | (rw [if_pos (by omega)]) | (rw [if_neg (by omega),if_pos (by omega)]) | (rw [if_neg (by omega),if_neg (by omega)])),trivial⟩)
 ·
  have h0:=of_decide_eq_false r0
  try simp only [ty] at h0
  refine aa ?_;refine a7 ?_;refine sx7 ?_;(iterate 3 refine qy ?_);refine a6 ?_;refine a8 _ rfl (fun r1=>?_) (fun r1=>?_)
  ·
   have h1:=of_decide_eq_true r1
   try simp only [ty] at h1
   refine sx7 ?_;refine qy ?_;refine a6 ?_
   exact hx8 rfl rfl rfl (⟨cci (by unfold fu;first | (rw [if_pos (by omega)]) | (rw [if_neg (by omega),if_pos (by omega)]) | (rw [if_neg (by omega),if_neg (by omega)])),trivial⟩)
  ·
   have h1:=of_decide_eq_false r1
   try simp only [ty] at h1
   refine aa ?_;refine sx7 ?_;refine qy ?_;refine a6 ?_
   exact hx8 rfl rfl rfl (⟨cci (by unfold fu;first | (rw [if_pos (by omega)]) | (rw [if_neg (by omega),if_pos (by omega)]) | (rw [if_neg (by omega),if_neg (by omega)])),trivial⟩)
theorem abm:ai Tryz.prog 70:=⟨Tryz.f70,Tryz.func70,by kernel_rfl,by kernel_rfl⟩
theorem cOr (l:List Int):ak Tryz.prog 70 [pP (psl 1 jC l)] (av [pI (orF l)]):=by
 refine ag (nt:=18) ae Tryz.func70 rfl rfl l9 ?_;refine a7 ?_
 refine ik 0 rfl fun hn=>?_
 refine gy ?_;refine qy ?_;refine a6 ?_;refine sx7 ?_;refine qy ?_;refine a6 ?_;refine db (ι:=Unit) ⟨[(3,some _)],[]⟩ ⟨⟨c9,trivial⟩,trivial⟩ (fun _i=>⟨[],[]⟩) (fun _i=>orF l = 0) ?_ ?_
 ·
  refine sx7 ?_;(iterate 3 refine qy ?_);refine a6 ?_;refine af ?_
  refine ap (ι:=Nat) ⟨[(3,some _),(6,some _),(7,some _)],[]⟩ ⟨⟨c9,c9,c9,trivial⟩,trivial⟩ (fun i=>⟨[(8,some (vI i))],[]⟩) (fun i=>i ≤ l.length ∧ (∀ j,j < i → decide (l.getD j default = 0) = true)) (fun i=>l.length - i) (0) (⟨Nat.zero_le _,df⟩) ⟨⟨zy,trivial⟩,trivial⟩ ?_
  rintro i ⟨hi,hI⟩
  refine sx7 ?_;refine qy ?_;refine a6 ?_;refine a7 ?_;refine a8 _ rfl (fun r0=>?_) (fun r0=>?_)
  ·
   have h0:=of_decide_eq_true r0
   try simp only [ty] at h0
   refine aa ?_;refine a7 ?_;refine af ?_;refine sx7 ?_;(iterate 3 refine qy ?_);refine a6 ?_;refine sx7 ?_;(iterate 3 refine qy ?_);refine a6 ?_;refine a8 _ rfl (fun r1=>?_) (fun r1=>?_)
   ·
    have h1:=r1
    have h1:=of_decide_eq_false (az h1)
    try simp only [ty] at h1
    refine sx7 ?_;(iterate 2 refine qy ?_);refine a6 ?_
    exact hx8 rfl rfl rfl (⟨cci (auj (i:=i) (by omega) hI h1).symm,trivial⟩)
   ·
    have h1:=r1
    have h1:=of_decide_eq_true (b4 h1)
    try simp only [ty] at h1
    refine aa ?_;refine gy ?_;(iterate 2 refine qy ?_);refine a6 ?_;refine ⟨i + 1, ?_, ?_, ?_⟩
    · exact ⟨by show i + 1 ≤ _;omega,cz hI (decide_eq_true h1)⟩
    · first | omega | (dsimp only;omega)
    · exact ⟨⟨zy,c9,c9,c9,trivial⟩,trivial⟩
  ·
   have h0:=of_decide_eq_false r0
   try simp only [ty] at h0
   refine am ?_;refine ⟨(), ?_, ?_⟩
   · exact atu fun j hj=>hI j (by omega)
   · exact ⟨⟨c9,trivial⟩,trivial⟩
 · rintro _ hj
   refine sx7 ?_;(iterate 2 refine qy ?_);refine a6 ?_
   exact hx8 rfl rfl rfl (⟨cci hj.symm,trivial⟩)
theorem ajj (a b:AS):ak Tryz.prog 133 [pA a,pA b] (av [pI (qb a b)]):=by
 refine ag (nt:=15) ae Tryz.func133 rfl rfl l9 ?_;refine sx7 ?_;refine qy ?_;refine a6 ?_;refine sx7 ?_;refine qy ?_;refine rc rfl rfl rfl rfl rfl rfl a03 (a4u _) (CoL.refl _) rfl rfl ?_;refine qy ?_
 refine rc rfl rfl rfl rfl rfl rfl a03 (a4u _) (CoL.refl _) rfl rfl ?_;refine rc rfl rfl rfl rfl rfl rfl a9c (af0 _ _) (CoL.refl _) rfl rfl ?_;(iterate 2 refine qy ?_)
 refine rc rfl rfl rfl rfl rfl rfl ahc (amr _ _) (CoL.refl _) rfl rfl ?_;refine m9 0 ?_
 refine rc rfl rfl rfl rfl rfl rfl abm (cOr [fu (bsz a) (bsz b),fu (asI a) (asI b)]) (⟨CoC.one (xl (CoP.refl _) (CoP.refl _)),trivial⟩) rfl rfl ?_;refine qy ?_;refine a6 ?_
 exact hx8 rfl rfl rfl (⟨cci (aea a b),trivial⟩)
theorem ain:ai Tryz.prog 83:=⟨Tryz.f83,Tryz.func83,by kernel_rfl,by kernel_rfl⟩
theorem ady (l:List AS) (hl:l.length ≤ 8589934592):ak Tryz.prog 83 [pP (asl l)] (av [pP (asl (ord l))]):=by
 refine ag (nt:=61) ae Tryz.func83 rfl rfl l9 ?_;refine a7 ?_
 refine ik 0 rfl fun hn=>?_
 refine gy ?_;refine qy ?_;refine a6 ?_;refine sx7 ?_;refine qy ?_;refine a6 ?_;refine a7 ?_;refine sx7 ?_;refine qy ?_;refine a6 ?_;refine af ?_
 refine du 3 900 true 1 69 (lf sC []) (by decide) rfl (CoP.sl rfl (.inr rfl) (fun h=>h) (fun i j hi _=>absurd hi (Nat.not_lt_zero i))) (.inr rfl) rfl ?_
 refine ap (ι:=Nat) ⟨[(0,some _)],[]⟩ ⟨⟨c9,trivial⟩,trivial⟩ (fun i=>⟨[(3,some (.v (.one (.ref 900 (ord (l.take i)).length)))),(4,some (vI i))],[(900,some (.arr true 1 69 (ord (l.take i)).length (lf sC (ord (l.take i)))))]⟩) (fun i=>i ≤ l.length) (fun i=>l.length - i) (0) (Nat.zero_le _) ⟨⟨zy,zy,trivial⟩,⟨u9,trivial⟩⟩ ?_
 rintro i hi
 have hlen:=ta (l.take i)
 rw [List.length_take] at hlen
 refine a7 ?_;refine sx7 ?_;(iterate 4 refine qy ?_);refine a6 ?_;refine a8 _ rfl (fun r0=>?_) (fun r0=>?_)
 ·
  have h0:=of_decide_eq_true r0
  try simp only [ty] at h0
  refine aa ?_;refine a7 ?_;refine af ?_;refine a7 ?_;refine sx7 ?_;(iterate 5 refine qy ?_);refine rc rfl rfl rfl rfl rfl rfl apa (cIn (ord (l.take i)) (l.getD i default)) (CoL.refl _) rfl rfl ?_
  refine a6 ?_;refine a8 _ rfl (fun r1=>?_) (fun r1=>?_)
  ·
   have h1:=r1
   have hin:=of_decide_eq_true h1
   refine am ?_;refine gy ?_;(iterate 3 refine qy ?_);refine a6 ?_
   first | (refine ⟨i + 1, ?_, ?_, ?_⟩
            · show i + 1 ≤ _;omega
            · first | omega | (dsimp only;omega)
            · exact ⟨⟨⟨_,rfl,(cw (by rw [fq (by omega),qa (ey _) hin]))⟩,zy,c9,trivial⟩,⟨⟨_,rfl,(cg (by rw [fq (by omega),qa (ey _) hin]))⟩,trivial⟩⟩)
         | (refine ⟨i + 1, ?_, ?_, ?_⟩
            · show i + 1 ≤ _;omega
            · first | omega | (dsimp only;omega)
            · exact ⟨⟨⟨_,rfl,(a5z (by rw [fq (by omega),← hfin,jm hk]))⟩,zy,c9,trivial⟩,⟨⟨_,rfl,(og (by rw [fq (by omega),← hfin]) (by rw [fq (by omega),← hfin,jm hk]))⟩,trivial⟩⟩)
  ·
   have h1:=r1
   have hin:=of_decide_eq_false h1
   refine aa ?_;refine sx7 ?_;(iterate 5 refine qy ?_);refine m9 0 ?_;refine ra 1 true rfl rfl rfl rfl rfl rfl ?_;refine qy ?_;refine a6 ?_;refine sx7 ?_;(iterate 4 refine qy ?_);refine a6 ?_
   refine af ?_
   refine ap (ι:=Nat) ⟨[(0,some _),(3,some _),(4,some _)],[]⟩ ⟨⟨c9,c9,c9,trivial⟩,trivial⟩ (fun k=>⟨[(5,some (vI k))],[(900,some (.arr true 1 69 ((ord (l.take i)).length + 1) (lf sC (j6 (ord (l.take i)) k (l.getD i default)))))]⟩) (fun k=>k ≤ (ord (l.take i)).length ∧ ∀ j,k ≤ j → j < (ord (l.take i)).length → bef (l.getD i default) ((ord (l.take i)).getD j default) = true) (fun k=>k) ((ord (l.take i)).length) (⟨Nat.le_refl _,fun j h1 h2=>by omega⟩) ⟨⟨zy,trivial⟩,⟨⟨_,rfl,(by rw [ak9];exact anj (CoP.refl _))⟩,trivial⟩⟩ ?_
   rintro k ⟨hk,hK⟩
   (iterate 2 refine a7 ?_);refine aw (E:=b5) ae al [0,1,2,3,4,5,6,7,8,9,10,11,12,13] ?_;(iterate 3 refine qy ?_);refine b6 rfl rfl (fun r2=>?_) (fun r2=>?_)
   ·
    have h2:=of_decide_eq_true r2
    try simp only [ty] at h2
    (iterate 9 refine qy ?_ (hg:=(gtt r2)));refine rc rfl rfl rfl rfl rfl rfl adr (aek _ _) (CoL.refl _) rfl (gtt r2) ?_;refine qy ?_;refine a6 ?_;refine ⟨by kernel_rfl, ?_⟩
    refine a8 _ rfl (fun r3=>?_) (fun r3=>?_)
    ·
     have h3:=r3
     have h3:=cq r2 h3
     have hb:=agw (by omega) hk h3 (by omega) (by omega)
     refine aa ?_;refine a7 ?_;refine af ?_;refine aw (E:=b5) ae al [0,1,5,6,7,8,9,10,11,12,13,14,15,2,3,4,16,17] ?_;(iterate 12 refine qy ?_);refine s9 ?_
     (iterate 4 refine qy ?_);refine s9 ?_;refine a6 ?_;refine ⟨by kernel_rfl, ?_⟩;refine gy ?_;(iterate 3 refine qy ?_);refine a6 ?_;refine ⟨k - 1, ?_, ?_, ?_⟩
     · refine ⟨by omega,fun j h1 h2=>?_⟩
       by_cases hj:j = k - 1
       · rw [hj];exact hb
       · exact hK j (by omega) h2
     · show k - 1 < k
       omega
     · exact ⟨⟨zy,c9,c9,c9,trivial⟩,⟨⟨_,rfl,(aj4 (by omega) hk (by omega) (by omega) rfl)⟩,trivial⟩⟩
    ·
     have h3:=r3
     have h3:=cq r2 h3
     have hb:=agw (by omega) hk h3 (by omega) (by omega)
     have hfin:=a7u (ey _) hin hk hK (.inr (by rw [hb];decide))
     refine am ?_;refine gy ?_;(iterate 3 refine qy ?_);refine a6 ?_
     first | (refine ⟨i + 1, ?_, ?_, ?_⟩
              · show i + 1 ≤ _;omega
              · first | omega | (dsimp only;omega)
              · exact ⟨⟨⟨_,rfl,(cw (by rw [fq (by omega),qa (ey _) hin]))⟩,zy,c9,trivial⟩,⟨⟨_,rfl,(cg (by rw [fq (by omega),qa (ey _) hin]))⟩,trivial⟩⟩)
           | (refine ⟨i + 1, ?_, ?_, ?_⟩
              · show i + 1 ≤ _;omega
              · first | omega | (dsimp only;omega)
              · exact ⟨⟨⟨_,rfl,(a5z (by rw [fq (by omega),← hfin,jm hk]))⟩,zy,c9,trivial⟩,⟨⟨_,rfl,(og (by rw [fq (by omega),← hfin]) (by rw [fq (by omega),← hfin,jm hk]))⟩,trivial⟩⟩)
   ·
    have h2:=of_decide_eq_false r2
    try simp only [ty] at h2
    have hfin:=a7u (ey _) hin hk hK (.inl (by omega))
    (iterate 10 refine k9 (gft r2) ?_);refine rq rfl rfl rfl rfl rfl ?_ (hp:=r2);refine a6 ?_;refine ⟨by kernel_rfl, ?_⟩;refine a8 _ rfl (fun e=>by cases e) (fun _=>?_);refine am ?_;refine gy ?_
    (iterate 3 refine qy ?_);refine a6 ?_
    first | (refine ⟨i + 1, ?_, ?_, ?_⟩
             · show i + 1 ≤ _;omega
             · first | omega | (dsimp only;omega)
             · exact ⟨⟨⟨_,rfl,(cw (by rw [fq (by omega),qa (ey _) hin]))⟩,zy,c9,trivial⟩,⟨⟨_,rfl,(cg (by rw [fq (by omega),qa (ey _) hin]))⟩,trivial⟩⟩)
          | (refine ⟨i + 1, ?_, ?_, ?_⟩
             · show i + 1 ≤ _;omega
             · first | omega | (dsimp only;omega)
             · exact ⟨⟨⟨_,rfl,(a5z (by rw [fq (by omega),← hfin,jm hk]))⟩,zy,c9,trivial⟩,⟨⟨_,rfl,(og (by rw [fq (by omega),← hfin]) (by rw [fq (by omega),← hfin,jm hk]))⟩,trivial⟩⟩)
 ·
  have h0:=of_decide_eq_false r0
  try simp only [ty] at h0
  obtain rfl:i = l.length:=by omega
  refine am ?_;refine sx7 ?_;(iterate 2 refine qy ?_);refine a6 ?_;refine dh 2 rfl rfl rfl ?_
  exact hx8 rfl rfl rfl (⟨CoC.one (CoP.of_eq (by rw [List.take_length];rfl)),trivial⟩)
end Go.Hx
end

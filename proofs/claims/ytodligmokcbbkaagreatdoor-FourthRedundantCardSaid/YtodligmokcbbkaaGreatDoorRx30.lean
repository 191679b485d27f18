/- A part of the proof: Tb3 Tb4. -/
import Derived.Test.YtodligmokcbbkaaGreatDoorRx29
set_option linter.all false
section
namespace Go.Hx
open Go.Proofs
set_option maxRecDepth 100000
set_option maxHeartbeats 1000000
theorem ag3:ak Tryz.prog 83:=⟨Tryz.f83,Tryz.func83,by kernel_rfl,by kernel_rfl⟩
theorem aqn (c:Int):aj Tryz.prog 83 [pU8 c] (ao [pB (ltr c)]):=by
 refine ai (nt:=21) ae Tryz.func83 rfl rfl l9 ?_;refine sx7 ?_;refine qy ?_;refine a6 ?_;refine sx7 ?_;(iterate 3 refine qy ?_);refine bd rfl rfl (fun r0=>?_) (fun r0=>?_)
 ·
  have h0:=of_decide_eq_true r0
  try simp only [ty] at h0
  (iterate 2 refine qy ?_ (hg:=(gtt r0)));(iterate 2 refine qy ?_);refine bd rfl rfl (fun r1=>?_) (fun r1=>?_)
  ·
   have h1:=r1
   have h1:=ck r0 h1
   have h1:=of_decide_eq_true h1
   try simp only [ty] at h1
   (iterate 3 refine k9 (gtf r1) ?_);(iterate 2 refine k9 rfl ?_);refine k9 (gtf r1) ?_;refine rq rfl rfl rfl rfl rfl ?_ (hp:=r1);refine qy ?_;(iterate 2 refine k9 rfl ?_);(iterate 2 refine qy ?_);refine a6 ?_
   exact hx8 rfl rfl rfl (⟨ccb (by simp [ltr, *]),trivial⟩)
  ·
   have h1:=r1
   have h1:=ck r0 h1
   have h1:=of_decide_eq_false h1
   try simp only [ty] at h1
   (iterate 3 refine qy ?_ (hg:=(gff r1)));refine bd rfl rfl (fun r2=>?_) (fun r2=>?_)
   ·
    have h2:=of_decide_eq_true r2
    try simp only [ty] at h2
    (iterate 2 refine qy ?_ (hg:=(gtt r2)));refine qy ?_ (hg:=(gff r1));(iterate 2 refine qy ?_);refine bd rfl rfl (fun r3=>?_) (fun r3=>?_)
    ·
     have h3:=r3
     have h3:=d7 r1 h3
     have h3:=ck r2 h3
     have h3:=of_decide_eq_true h3
     try simp only [ty] at h3
     (iterate 2 refine k9 (gtf r3) ?_);refine rq rfl rfl rfl rfl rfl ?_ (hp:=r3);refine qy ?_;refine a6 ?_
     exact hx8 rfl rfl rfl (⟨ccb (by simp [ltr, *]),trivial⟩)
    ·
     have h3:=r3
     have h3:=d7 r1 h3
     have h3:=ck r2 h3
     have h3:=of_decide_eq_false h3
     try simp only [ty] at h3
     (iterate 2 refine qy ?_ (hg:=(gff r3)));(iterate 2 refine qy ?_);refine a6 ?_
     exact hx8 rfl rfl rfl (⟨ccb (by simp [ltr, *]),trivial⟩)
   ·
    have h2:=of_decide_eq_false r2
    try simp only [ty] at h2
    (iterate 2 refine k9 (gft r2) ?_);refine rq rfl rfl rfl rfl (gff r1) ?_ (hp:=r2);(iterate 2 refine qy ?_);(iterate 2 refine rq rfl rfl rfl rfl (gff (a3n r1 rfl)) ?_);(iterate 2 refine qy ?_);refine a6 ?_
    exact hx8 rfl rfl rfl (⟨ccb (by simp [ltr, *]),trivial⟩)
 ·
  have h0:=of_decide_eq_false r0
  try simp only [ty] at h0
  (iterate 2 refine k9 (gft r0) ?_);refine rq rfl rfl rfl rfl rfl ?_ (hp:=r0);(iterate 4 refine qy ?_);refine bd rfl rfl (fun r4=>?_) (fun r4=>?_)
  ·
   have h4:=of_decide_eq_true r4
   try simp only [ty] at h4
   (iterate 2 refine qy ?_ (hg:=(gtt r4)));(iterate 3 refine qy ?_);refine bd rfl rfl (fun r5=>?_) (fun r5=>?_)
   ·
    have h5:=r5
    have h5:=ck r4 h5
    have h5:=of_decide_eq_true h5
    try simp only [ty] at h5
    (iterate 2 refine k9 (gtf r5) ?_);refine rq rfl rfl rfl rfl rfl ?_ (hp:=r5);refine qy ?_;refine a6 ?_
    exact hx8 rfl rfl rfl (⟨ccb (by simp [ltr, *]),trivial⟩)
   ·
    have h5:=r5
    have h5:=ck r4 h5
    have h5:=of_decide_eq_false h5
    try simp only [ty] at h5
    (iterate 2 refine qy ?_ (hg:=(gff r5)));(iterate 2 refine qy ?_);refine a6 ?_
    exact hx8 rfl rfl rfl (⟨ccb (by simp [ltr, *]),trivial⟩)
  ·
   have h4:=of_decide_eq_false r4
   try simp only [ty] at h4
   (iterate 2 refine k9 (gft r4) ?_);refine rq rfl rfl rfl rfl rfl ?_ (hp:=r4);(iterate 2 refine qy ?_);(iterate 2 refine rq rfl rfl rfl rfl (gff (a3n rfl rfl)) ?_);(iterate 2 refine qy ?_);refine a6 ?_
   exact hx8 rfl rfl rfl (⟨ccb (by simp [ltr, *]),trivial⟩)
theorem ahc:ak Tryz.prog 60:=⟨Tryz.f60,Tryz.func60,by kernel_rfl,by kernel_rfl⟩
theorem arv (s:ByteArray):aj Tryz.prog 60 [pS s] (ao [pB (gn s)]):=by
 refine ai (nt:=45) ae Tryz.func60 rfl rfl l9 ?_;refine sx7 ?_;refine qy ?_;refine a6 ?_;refine a7 ?_;refine sx7 ?_;(iterate 4 refine qy ?_);refine bd rfl rfl (fun r0=>?_) (fun r0=>?_)
 ·
  have h0:=of_decide_eq_true r0
  try simp only [ty] at h0
  (iterate 3 refine k9 (gtf r0) ?_);refine rq rfl rfl rfl rfl rfl ?_ (hp:=r0);refine qy ?_;(iterate 4 refine k9 rfl ?_);(iterate 2 refine qy ?_);(iterate 2 refine k9 rfl ?_);refine qy ?_;refine a6 ?_
  refine a8 _ rfl (fun _=>?_) (fun e=>by cases e);refine sx7 ?_;refine qy ?_;refine a6 ?_
  exact hx8 rfl rfl rfl (⟨ccb (by first | exact (oo (by omega)).symm | exact (mr (by omega)).symm | exact (s5 (by assumption)).symm | exact (ld (by assumption)).symm),trivial⟩)
 ·
  have h0:=of_decide_eq_false r0
  try simp only [ty] at h0
  (iterate 3 refine qy ?_ (hg:=(gff r0)));(iterate 2 refine qy ?_);refine bd rfl rfl (fun r1=>?_) (fun r1=>?_)
  ·
   have h1:=r1
   have h1:=d7 r0 h1
   have h1:=of_decide_eq_true h1
   try simp only [ty] at h1
   (iterate 4 refine k9 (gtf r1) ?_);refine rq rfl rfl rfl rfl rfl ?_ (hp:=r1);refine qy ?_;(iterate 2 refine k9 rfl ?_);refine qy ?_;refine a6 ?_;refine a8 _ rfl (fun _=>?_) (fun e=>by cases e)
   refine sx7 ?_;refine qy ?_;refine a6 ?_
   exact hx8 rfl rfl rfl (⟨ccb (by first | exact (oo (by omega)).symm | exact (mr (by omega)).symm | exact (s5 (by assumption)).symm | exact (ld (by assumption)).symm),trivial⟩)
  ·
   have h1:=r1
   have h1:=d7 r0 h1
   have h1:=of_decide_eq_false h1
   try simp only [ty] at h1
   (iterate 2 refine qy ?_ (hg:=(gff r1)));refine rc rfl rfl rfl rfl rfl rfl ag3 (aqn _) (CoL.refl _) rfl (gff r1) ?_;refine qy ?_ (hg:=(gff r1));(iterate 2 refine qy ?_)
   refine bd rfl rfl (fun r2=>?_) (fun r2=>?_)
   ·
    have h2:=r2
    have h2:=d7 r1 h2
    have h2:=b7 h2
    (iterate 2 refine k9 (gtf r2) ?_);refine rq rfl rfl rfl rfl rfl ?_ (hp:=r2);refine a6 ?_;refine a8 _ rfl (fun _=>?_) (fun e=>by cases e);refine sx7 ?_;refine qy ?_;refine a6 ?_
    exact hx8 rfl rfl rfl (⟨ccb (by first | exact (oo (by omega)).symm | exact (mr (by omega)).symm | exact (s5 (by assumption)).symm | exact (ld (by assumption)).symm),trivial⟩)
   ·
    have h2:=r2
    have h2:=d7 r1 h2
    have h2:=b6 h2
    (iterate 2 refine qy ?_ (hg:=(gff r2)));refine qy ?_;refine a6 ?_;refine a8 _ rfl (fun r3=>?_) (fun r3=>?_)
    ·
     have h3:=r3
     have h3:=d7 r2 h3
     have h3:=of_decide_eq_true h3
     try simp only [ty] at h3
     refine sx7 ?_;refine qy ?_;refine a6 ?_
     exact hx8 rfl rfl rfl (⟨ccb (by first | exact (oo (by omega)).symm | exact (mr (by omega)).symm | exact (s5 (by assumption)).symm | exact (ld (by assumption)).symm),trivial⟩)
    ·
     have h3:=r3
     have h3:=d7 r2 h3
     have h3:=of_decide_eq_false h3
     try simp only [ty] at h3
     refine aa ?_;refine cr (ι:=Unit) ⟨[],[]⟩ ⟨trivial,trivial⟩ (fun _i=>⟨[],[]⟩) (fun _i=>gn s = true) ?_ ?_
     ·
      refine sx7 ?_;refine qy ?_;refine a6 ?_;refine af ?_
      refine aw (ι:=Nat) ⟨[(0,some _)],[]⟩ ⟨⟨c9,trivial⟩,trivial⟩ (fun i=>⟨[(3,some (vI i))],[]⟩) (fun i=>i ≤ s.size ∧ ∀ j,j < i → (ltr (bp s j) || dig (bp s j)) = true) (fun i=>s.size - i) (0) (⟨Nat.zero_le _,dq⟩) ⟨⟨zy,trivial⟩,trivial⟩ ?_
      rintro i ⟨hi,hI⟩
      refine a7 ?_;refine sx7 ?_;(iterate 4 refine qy ?_);refine a6 ?_;refine a8 _ rfl (fun r4=>?_) (fun r4=>?_)
      ·
       have h4:=of_decide_eq_true r4
       try simp only [ty] at h4
       refine aa ?_;refine a7 ?_;refine af ?_;refine sx7 ?_;(iterate 3 refine qy ?_);refine rc rfl rfl rfl rfl rfl rfl ag3 (aqn _) (CoL.refl _) rfl rfl ?_;(iterate 2 refine qy ?_)
       refine bd rfl rfl (fun r5=>?_) (fun r5=>?_)
       ·
        have h5:=r5
        have h5:=b7 h5
        (iterate 5 refine qy ?_ (hg:=(gtt r5)));refine bd rfl rfl (fun r6=>?_) (fun r6=>?_)
        ·
         have h6:=of_decide_eq_true r6
         try simp only [ty] at h6
         (iterate 4 refine k9 (gtf r6) ?_);refine rq rfl rfl rfl rfl (gtt r5) ?_ (hp:=r6);refine qy ?_;refine a6 ?_;refine a8 _ rfl (fun _=>?_) (fun e=>Bool.noConfusion ((wc r5 rfl).symm.trans e))
         refine sx7 ?_;refine qy ?_;refine a6 ?_
         exact hx8 rfl rfl rfl (⟨ccb (py (i:=i) (by omega) (by assumption) (by simp_all [dig] <;> omega)).symm,trivial⟩)
        ·
         have h6:=of_decide_eq_false r6
         try simp only [ty] at h6
         (iterate 4 refine qy ?_ (hg:=(gff r6)));refine qy ?_ (hg:=(gtt r5));refine qy ?_;refine a6 ?_;refine a8 _ rfl (fun r7=>?_) (fun r7=>?_)
         ·
          have h7:=r7
          have h7:=ck r5 h7
          have h7:=d7 r6 h7
          have h7:=of_decide_eq_true h7
          try simp only [ty] at h7
          refine sx7 ?_;refine qy ?_;refine a6 ?_
          exact hx8 rfl rfl rfl (⟨ccb (py (i:=i) (by omega) (by assumption) (by simp_all [dig] <;> omega)).symm,trivial⟩)
         ·
          have h7:=r7
          have h7:=ck r5 h7
          have h7:=d7 r6 h7
          have h7:=of_decide_eq_false h7
          try simp only [ty] at h7
          refine aa ?_;refine gy ?_;(iterate 3 refine qy ?_);refine a6 ?_;refine ⟨i + 1, ?_, ?_, ?_⟩
          · exact ⟨by omega,cu hI (by simp_all [dig] <;> omega)⟩
          · first | omega | (dsimp only;omega)
          · exact ⟨⟨zy,c9,trivial⟩,trivial⟩
       ·
        have h5:=r5
        have h5:=b6 h5
        (iterate 5 refine k9 (gft r5) ?_);(iterate 4 refine k9 rfl ?_);refine k9 (gft r5) ?_;refine rq rfl rfl rfl rfl rfl ?_ (hp:=r5);refine a6 ?_;refine a8 _ rfl (fun e=>by cases e) (fun _=>?_)
        refine aa ?_;refine gy ?_;(iterate 3 refine qy ?_);refine a6 ?_;refine ⟨i + 1, ?_, ?_, ?_⟩
        · exact ⟨by omega,cu hI (by simp_all [dig] <;> omega)⟩
        · first | omega | (dsimp only;omega)
        · exact ⟨⟨zy,c9,trivial⟩,trivial⟩
      ·
       have h4:=of_decide_eq_false r4
       try simp only [ty] at h4
       refine az ?_;refine ⟨(), ?_, ?_⟩
       · exact ahw (by omega) (by omega) (by assumption) (by assumption) (fun j hj=>hI j (by omega))
       · exact ⟨trivial,trivial⟩
     · rintro _ hj
       refine sx7 ?_;refine qy ?_;refine a6 ?_
       exact hx8 rfl rfl rfl (⟨ccb hj.symm,trivial⟩)
theorem aqe:ak Tryz.prog 84:=⟨Tryz.f84,Tryz.func84,by kernel_rfl,by kernel_rfl⟩
theorem av3 (l:List ByteArray) (s:ByteArray):aj Tryz.prog 84 [pP (a98 l),pS s] (ao [pI (zx l s)]):=by
 refine ai (nt:=19) ae Tryz.func84 rfl rfl l9 ?_;refine j1 0 rfl (fun hn=>?_);refine sx7 ?_;refine qy ?_;refine a6 ?_
 refine cr (ι:=Unit) ⟨[],[]⟩ ⟨trivial,trivial⟩ (fun _i=>⟨[],[]⟩) (fun _i=>zx l s = -1) ?_ ?_
 ·
  refine sx7 ?_;refine qy ?_;refine a6 ?_;refine af ?_
  refine aw (ι:=Nat) ⟨[(0,some _),(1,some _)],[]⟩ ⟨⟨c9,c9,trivial⟩,trivial⟩ (fun i=>⟨[(5,some (vI i))],[]⟩) (fun i=>i ≤ l.length ∧ ∀ j,j < i → decide (l.getD j default = s) = false) (fun i=>l.length - i) (0) (⟨Nat.zero_le _,dq⟩) ⟨⟨zy,trivial⟩,trivial⟩ ?_
  rintro i ⟨hi,hI⟩
  refine a7 ?_;refine sx7 ?_;(iterate 4 refine qy ?_);refine a6 ?_;refine a8 _ rfl (fun r0=>?_) (fun r0=>?_)
  ·
   have h0:=of_decide_eq_true r0
   try simp only [ty] at h0
   refine aa ?_;refine a7 ?_;refine af ?_;refine sx7 ?_;(iterate 6 refine qy ?_);refine a6 ?_;refine a8 _ rfl (fun r1=>?_) (fun r1=>?_)
   ·
    have h1:=of_decide_eq_true r1
    try simp only [ty] at h1
    refine sx7 ?_;(iterate 2 refine qy ?_);refine a6 ?_
    exact hx8 rfl rfl rfl (⟨cci (wh (p:=fun x=>decide (x = s)) (i:=i) (by omega) hI (decide_eq_true h1)).symm,trivial⟩)
   ·
    have h1:=of_decide_eq_false r1
    try simp only [ty] at h1
    refine aa ?_;refine gy ?_;(iterate 3 refine qy ?_);refine a6 ?_;refine ⟨i + 1, ?_, ?_, ?_⟩
    · exact ⟨by omega,cu hI (decide_eq_false h1)⟩
    · first | omega | (dsimp only;omega)
    · exact ⟨⟨zy,c9,c9,trivial⟩,trivial⟩
  ·
   have h0:=of_decide_eq_false r0
   try simp only [ty] at h0
   refine az ?_;refine ⟨(), ?_, ?_⟩
   · exact wg (p:=fun x=>decide (x = s)) fun j hj=>hI j (by omega)
   · exact ⟨trivial,trivial⟩
 · rintro _ hj
   refine sx7 ?_;refine qy ?_;refine a6 ?_
   exact hx8 rfl rfl rfl (⟨cci hj.symm,trivial⟩)
theorem asg:ak Tryz.prog 61:=⟨Tryz.f61,Tryz.func61,by kernel_rfl,by kernel_rfl⟩
theorem awb (l:List ByteArray):aj Tryz.prog 61 [pP (a98 l)] (ao [pB (xk l)]):=by
 refine ai (nt:=27) ae Tryz.func61 rfl rfl l9 ?_;refine j1 0 rfl (fun hn=>?_);refine sx7 ?_;refine qy ?_;refine a6 ?_
 refine cr (ι:=Unit) ⟨[],[]⟩ ⟨trivial,trivial⟩ (fun _i=>⟨[],[]⟩) (fun _i=>xk l = true) ?_ ?_
 ·
  refine sx7 ?_;refine qy ?_;refine a6 ?_;refine af ?_
  refine aw (ι:=Nat) ⟨[(0,some _)],[]⟩ ⟨⟨c9,trivial⟩,trivial⟩ (fun i=>⟨[(3,some (vI i))],[]⟩) (fun i=>i ≤ l.length ∧ ∀ j,j < i → lq l j = true) (fun i=>l.length - i) (0) (⟨Nat.zero_le _,dq⟩) ⟨⟨zy,trivial⟩,trivial⟩ ?_
  rintro i ⟨hi,hI⟩
  refine a7 ?_;refine sx7 ?_;(iterate 4 refine qy ?_);refine a6 ?_;refine a8 _ rfl (fun r0=>?_) (fun r0=>?_)
  ·
   have h0:=of_decide_eq_true r0
   try simp only [ty] at h0
   refine aa ?_;refine a7 ?_;refine af ?_;refine a7 ?_;refine dp (E:=ci) ae ct [0,1,2,3,4,5,6,7,8,9,10,11,12,13,14,15,16] ?_;(iterate 4 refine qy ?_)
   refine rc rfl rfl rfl rfl rfl rfl ahc (arv _) (CoL.refl _) rfl rfl ?_;(iterate 2 refine qy ?_);refine bd rfl rfl (fun r1=>?_) (fun r1=>?_)
   ·
    have h1:=r1
    have h1:=b7 h1
    (iterate 9 refine k9 (gtf r1) ?_);refine rq rfl rfl rfl rfl rfl ?_ (hp:=r1);refine a6 ?_;refine ⟨by kernel_rfl, ?_⟩;refine a8 _ rfl (fun _=>?_) (fun e=>by cases e);refine sx7 ?_;refine qy ?_
    refine a6 ?_
    exact hx8 rfl rfl rfl (⟨ccb (j3 (i:=i) (by omega) (by first | (unfold lq;simp_all;done) | (unfold lq;rw [Bool.and_eq_false_iff];right;exact decide_eq_false (by omega)))).symm,trivial⟩)
   ·
    have h1:=r1
    have h1:=b6 h1
    (iterate 7 refine qy ?_ (hg:=(gff r1)));refine rc rfl rfl rfl rfl rfl rfl aqe (av3 (l.take i) (l.getD i default)) (⟨CoC.one (adc (k:=i) (by omega)),CoC.refl _,trivial⟩) rfl (gff r1) ?_
    refine qy ?_ (hg:=(gff r1));refine qy ?_;refine a6 ?_;refine ⟨by kernel_rfl, ?_⟩;refine a8 _ rfl (fun r2=>?_) (fun r2=>?_)
    ·
     have h2:=r2
     have h2:=d7 r1 h2
     have h2:=of_decide_eq_true h2
     try simp only [ty] at h2
     refine sx7 ?_;refine qy ?_;refine a6 ?_
     exact hx8 rfl rfl rfl (⟨ccb (j3 (i:=i) (by omega) (by first | (unfold lq;simp_all;done) | (unfold lq;rw [Bool.and_eq_false_iff];right;exact decide_eq_false (by omega)))).symm,trivial⟩)
    ·
     have h2:=r2
     have h2:=d7 r1 h2
     have h2:=of_decide_eq_false h2
     try simp only [ty] at h2
     refine aa ?_;refine gy ?_;(iterate 3 refine qy ?_);refine a6 ?_;refine ⟨i + 1, ?_, ?_, ?_⟩
     · exact ⟨by omega,cu hI (by simp only [lq,Bool.and_eq_true,decide_eq_true_eq];exact ⟨by assumption,by omega⟩)⟩
     · first | omega | (dsimp only;omega)
     · exact ⟨⟨zy,c9,trivial⟩,trivial⟩
  ·
   have h0:=of_decide_eq_false r0
   try simp only [ty] at h0
   refine az ?_;refine ⟨(), ?_, ?_⟩
   · exact ly fun j hj=>hI j (by omega)
   · exact ⟨trivial,trivial⟩
 · rintro _ hj
   refine sx7 ?_;refine qy ?_;refine a6 ?_
   exact hx8 rfl rfl rfl (⟨ccb hj.symm,trivial⟩)
theorem aic:ak Tryz.prog 25:=⟨Tryz.f25,Tryz.func25,by kernel_rfl,by kernel_rfl⟩
theorem ap2 (s:ByteArray):aj Tryz.prog 25 [pS s] (ao [pB (gn s)]):=by
 refine ai (nt:=58) ae Tryz.func25 rfl rfl l9 ?_;refine sx7 ?_;refine qy ?_;refine a6 ?_;refine a7 ?_;refine sx7 ?_;(iterate 3 refine qy ?_);refine bd rfl rfl (fun r0=>?_) (fun r0=>?_)
 ·
  have h0:=of_decide_eq_true r0
  try simp only [ty] at h0
  (iterate 3 refine k9 (gtf r0) ?_);refine rq rfl rfl rfl rfl rfl ?_ (hp:=r0);refine qy ?_;(iterate 2 refine k9 rfl ?_);refine qy ?_;refine a6 ?_;refine a8 _ rfl (fun _=>?_) (fun e=>by cases e);refine sx7 ?_
  refine qy ?_;refine a6 ?_
  exact hx8 rfl rfl rfl (⟨ccb (by first | exact (oo (sj.2 (by assumption))).symm | exact (mr (by omega)).symm | exact (ld (by assumption)).symm),trivial⟩)
 ·
  have h0:=of_decide_eq_false r0
  try simp only [ty] at h0
  (iterate 3 refine qy ?_ (hg:=(gff r0)));(iterate 2 refine qy ?_);refine bd rfl rfl (fun r1=>?_) (fun r1=>?_)
  ·
   have h1:=r1
   have h1:=d7 r0 h1
   have h1:=of_decide_eq_true h1
   try simp only [ty] at h1
   (iterate 2 refine k9 (gtf r1) ?_);refine rq rfl rfl rfl rfl rfl ?_ (hp:=r1);refine a6 ?_;refine a8 _ rfl (fun _=>?_) (fun e=>by cases e);refine sx7 ?_;refine qy ?_;refine a6 ?_
   exact hx8 rfl rfl rfl (⟨ccb (by first | exact (oo (sj.2 (by assumption))).symm | exact (mr (by omega)).symm | exact (ld (by assumption)).symm),trivial⟩)
  ·
   have h1:=r1
   have h1:=d7 r0 h1
   have h1:=of_decide_eq_false h1
   try simp only [ty] at h1
   (iterate 2 refine qy ?_ (hg:=(gff r1)));refine qy ?_;refine a6 ?_;refine a8 _ rfl (fun r2=>?_) (fun r2=>?_)
   ·
    have h2:=r2
    have h2:=d7 r1 h2
    have h2:=of_decide_eq_true h2
    try simp only [ty] at h2
    refine sx7 ?_;refine qy ?_;refine a6 ?_
    exact hx8 rfl rfl rfl (⟨ccb (by first | exact (oo (sj.2 (by assumption))).symm | exact (mr (by omega)).symm | exact (ld (by assumption)).symm),trivial⟩)
   ·
    have h2:=r2
    have h2:=d7 r1 h2
    have h2:=of_decide_eq_false h2
    try simp only [ty] at h2
    refine aa ?_;refine cr (ι:=Unit) ⟨[],[]⟩ ⟨trivial,trivial⟩ (fun _i=>⟨[],[]⟩) (fun _i=>gn s = true) ?_ ?_
    ·
     refine sx7 ?_;(iterate 3 refine qy ?_);refine a6 ?_;refine af ?_
     refine aw (ι:=Nat) ⟨[(0,some _),(18,some _)],[]⟩ ⟨⟨c9,c9,trivial⟩,trivial⟩ (fun i=>⟨[(19,some (vI i))],[]⟩) (fun i=>i ≤ s.size ∧ (∀ j,j < i → (ltr (bp s j) || dig (bp s j)) = true) ∧ (0 < i → ltr (bp s 0) = true)) (fun i=>s.size - i) (0) (⟨Nat.zero_le _,dq,fun h=>by omega⟩) ⟨⟨zy,trivial⟩,trivial⟩ ?_
     rintro i ⟨hi,hI,hz⟩
     refine sx7 ?_;refine qy ?_;refine a6 ?_;refine a7 ?_;refine a8 _ rfl (fun r3=>?_) (fun r3=>?_)
     ·
      have h3:=of_decide_eq_true r3
      try simp only [ty] at h3
      refine aa ?_;refine a7 ?_;refine af ?_;refine sx7 ?_;(iterate 2 refine qy ?_);refine a6 ?_;refine sx7 ?_;(iterate 4 refine qy ?_);refine a6 ?_
      refine cr (ι:=Unit) ⟨[(0,some _),(3,some _),(4,some _),(18,some _),(19,some _)],[]⟩ ⟨⟨c9,c9,c9,c9,c9,trivial⟩,trivial⟩ (fun _i=>⟨[(5,some (vB (ltr (bp s i))))],[]⟩) (fun _i=>True) ?_ ?_
      ·
       refine gy ?_;(iterate 3 refine qy ?_);refine bd rfl rfl (fun r4=>?_) (fun r4=>?_)
       ·
        have h4:=of_decide_eq_true r4
        try simp only [ty] at h4
        (iterate 2 refine qy ?_ (hg:=(gtt r4)));(iterate 2 refine qy ?_);refine bd rfl rfl (fun r5=>?_) (fun r5=>?_)
        ·
         have h5:=r5
         have h5:=ck r4 h5
         have h5:=of_decide_eq_true h5
         try simp only [ty] at h5
         (iterate 3 refine k9 (gtf r5) ?_);(iterate 2 refine k9 rfl ?_);refine k9 (gtf r5) ?_;refine rq rfl rfl rfl rfl rfl ?_ (hp:=r5);refine qy ?_;(iterate 2 refine k9 rfl ?_);(iterate 2 refine qy ?_)
         refine a6 ?_;refine ⟨(), ?_, ?_⟩
         · trivial
         · exact ⟨⟨⟨_,rfl,(cob (by simp [ltr, *]))⟩,c9,c9,c9,c9,c9,trivial⟩,trivial⟩
        ·
         have h5:=r5
         have h5:=ck r4 h5
         have h5:=of_decide_eq_false h5
         try simp only [ty] at h5
         (iterate 3 refine qy ?_ (hg:=(gff r5)));refine bd rfl rfl (fun r6=>?_) (fun r6=>?_)
         ·
          have h6:=of_decide_eq_true r6
          try simp only [ty] at h6
          (iterate 2 refine qy ?_ (hg:=(gtt r6)));refine qy ?_ (hg:=(gff r5));(iterate 2 refine qy ?_);refine bd rfl rfl (fun r7=>?_) (fun r7=>?_)
          ·
           have h7:=r7
           have h7:=d7 r5 h7
           have h7:=ck r6 h7
           have h7:=of_decide_eq_true h7
           try simp only [ty] at h7
           (iterate 2 refine k9 (gtf r7) ?_);refine rq rfl rfl rfl rfl rfl ?_ (hp:=r7);refine qy ?_;refine a6 ?_;refine ⟨(), ?_, ?_⟩
           · trivial
           · exact ⟨⟨⟨_,rfl,(cob (by simp [ltr, *]))⟩,c9,c9,c9,c9,c9,trivial⟩,trivial⟩
          ·
           have h7:=r7
           have h7:=d7 r5 h7
           have h7:=ck r6 h7
           have h7:=of_decide_eq_false h7
           try simp only [ty] at h7
           (iterate 2 refine qy ?_ (hg:=(gff r7)));(iterate 2 refine qy ?_);refine a6 ?_;refine ⟨(), ?_, ?_⟩
           · trivial
           · exact ⟨⟨⟨_,rfl,(cob (by simp [ltr, *]))⟩,c9,c9,c9,c9,c9,trivial⟩,trivial⟩
         ·
          have h6:=of_decide_eq_false r6
          try simp only [ty] at h6
          (iterate 2 refine k9 (gft r6) ?_);refine rq rfl rfl rfl rfl (gff r5) ?_ (hp:=r6);(iterate 2 refine qy ?_);(iterate 2 refine rq rfl rfl rfl rfl (gff (a3n r5 rfl)) ?_);(iterate 2 refine qy ?_)
          refine a6 ?_;refine ⟨(), ?_, ?_⟩
          · trivial
          · exact ⟨⟨⟨_,rfl,(cob (by simp [ltr, *]))⟩,c9,c9,c9,c9,c9,trivial⟩,trivial⟩
       ·
        have h4:=of_decide_eq_false r4
        try simp only [ty] at h4
        (iterate 2 refine k9 (gft r4) ?_);refine rq rfl rfl rfl rfl rfl ?_ (hp:=r4);(iterate 4 refine qy ?_);refine bd rfl rfl (fun r8=>?_) (fun r8=>?_)
        ·
         have h8:=of_decide_eq_true r8
         try simp only [ty] at h8
         (iterate 2 refine qy ?_ (hg:=(gtt r8)));(iterate 3 refine qy ?_);refine bd rfl rfl (fun r9=>?_) (fun r9=>?_)
         ·
          have h9:=r9
          have h9:=ck r8 h9
          have h9:=of_decide_eq_true h9
          try simp only [ty] at h9
          (iterate 2 refine k9 (gtf r9) ?_);refine rq rfl rfl rfl rfl rfl ?_ (hp:=r9);refine qy ?_;refine a6 ?_;refine ⟨(), ?_, ?_⟩
          · trivial
          · exact ⟨⟨⟨_,rfl,(cob (by simp [ltr, *]))⟩,c9,c9,c9,c9,c9,trivial⟩,trivial⟩
         ·
          have h9:=r9
          have h9:=ck r8 h9
          have h9:=of_decide_eq_false h9
          try simp only [ty] at h9
          (iterate 2 refine qy ?_ (hg:=(gff r9)));(iterate 2 refine qy ?_);refine a6 ?_;refine ⟨(), ?_, ?_⟩
          · trivial
          · exact ⟨⟨⟨_,rfl,(cob (by simp [ltr, *]))⟩,c9,c9,c9,c9,c9,trivial⟩,trivial⟩
        ·
         have h8:=of_decide_eq_false r8
         try simp only [ty] at h8
         (iterate 2 refine k9 (gft r8) ?_);refine rq rfl rfl rfl rfl rfl ?_ (hp:=r8);(iterate 2 refine qy ?_);(iterate 2 refine rq rfl rfl rfl rfl (gff (a3n rfl rfl)) ?_);(iterate 2 refine qy ?_);refine a6 ?_
         refine ⟨(), ?_, ?_⟩
         · trivial
         · exact ⟨⟨⟨_,rfl,(cob (by simp [ltr, *]))⟩,c9,c9,c9,c9,c9,trivial⟩,trivial⟩
      · rintro _ _
        refine sx7 ?_;(iterate 3 refine qy ?_);refine bd rfl rfl (fun r10=>?_) (fun r10=>?_)
        ·
         have h10:=r10
         have h10:=b7 h10
         (iterate 3 refine qy ?_ (hg:=(gtt r10)));refine bd rfl rfl (fun r11=>?_) (fun r11=>?_)
         ·
          have h11:=of_decide_eq_true r11
          try simp only [ty] at h11
          (iterate 2 refine k9 (gtf r11) ?_);refine rq rfl rfl rfl rfl (gtt r10) ?_ (hp:=r11);refine qy ?_ (hg:=(gtt r10));(iterate 2 refine k9 rfl ?_);refine qy ?_ (hg:=(gtt r10));refine qy ?_;refine a6 ?_
          refine a8 _ rfl (fun _=>?_) (fun e=>Bool.noConfusion ((wc r10 rfl).symm.trans e));refine sx7 ?_;refine qy ?_;refine a6 ?_
          exact hx8 rfl rfl rfl (⟨ccb (by first | exact (zz (i:=i) (by assumption) (by assumption)).symm | exact (py (i:=i) (by omega) (by assumption) (by simp [dig, *] <;> omega)).symm),trivial⟩)
         ·
          have h11:=of_decide_eq_false r11
          try simp only [ty] at h11
          (iterate 2 refine qy ?_ (hg:=(gff r11)));(iterate 2 refine qy ?_ (hg:=(gtt r10)));refine bd rfl rfl (fun r12=>?_) (fun r12=>?_)
          ·
           have h12:=r12
           have h12:=d7 r11 h12
           have h12:=of_decide_eq_true h12
           try simp only [ty] at h12
           (iterate 2 refine k9 (gtf r12) ?_);refine rq rfl rfl rfl rfl (gtt r10) ?_ (hp:=r12);refine qy ?_;refine a6 ?_
           refine a8 _ rfl (fun _=>?_) (fun e=>Bool.noConfusion ((wc r10 rfl).symm.trans e));refine sx7 ?_;refine qy ?_;refine a6 ?_
           exact hx8 rfl rfl rfl (⟨ccb (by first | exact (zz (i:=i) (by assumption) (by assumption)).symm | exact (py (i:=i) (by omega) (by assumption) (by simp [dig, *] <;> omega)).symm),trivial⟩)
          ·
           have h12:=r12
           have h12:=d7 r11 h12
           have h12:=of_decide_eq_false h12
           try simp only [ty] at h12
           (iterate 2 refine qy ?_ (hg:=(gff r12)));refine qy ?_ (hg:=(gtt r10));refine qy ?_;refine a6 ?_;refine a8 _ rfl (fun r13=>?_) (fun r13=>?_)
           ·
            have h13:=r13
            have h13:=ck r10 h13
            have h13:=d7 r12 h13
            have h13:=of_decide_eq_true h13
            try simp only [ty] at h13
            refine sx7 ?_;refine qy ?_;refine a6 ?_
            exact hx8 rfl rfl rfl (⟨ccb (by first | exact (zz (i:=i) (by assumption) (by assumption)).symm | exact (py (i:=i) (by omega) (by assumption) (by simp [dig, *] <;> omega)).symm),trivial⟩)
           ·
            have h13:=r13
            have h13:=ck r10 h13
            have h13:=d7 r12 h13
            have h13:=of_decide_eq_false h13
            try simp only [ty] at h13
            refine aa ?_;refine gy ?_;(iterate 2 refine qy ?_);refine a6 ?_;refine ⟨i + 1, ?_, ?_, ?_⟩
            · exact ⟨by omega,cu hI (by simp_all [dig] <;> omega),fun _=>apl hz (fun e=>by first | assumption | (exfalso;omega))⟩
            · first | omega | (dsimp only;omega)
            · exact ⟨⟨zy,c9,c9,trivial⟩,trivial⟩
        ·
         have h10:=r10
         have h10:=b6 h10
         (iterate 3 refine k9 (gft r10) ?_);(iterate 2 refine k9 rfl ?_);(iterate 2 refine k9 (gft r10) ?_);(iterate 2 refine k9 rfl ?_);refine k9 (gft r10) ?_;refine rq rfl rfl rfl rfl rfl ?_ (hp:=r10)
         refine a6 ?_;refine a8 _ rfl (fun e=>by cases e) (fun _=>?_);refine aa ?_;refine gy ?_;(iterate 2 refine qy ?_);refine a6 ?_;refine ⟨i + 1, ?_, ?_, ?_⟩
         · exact ⟨by omega,cu hI (by simp_all [dig] <;> omega),fun _=>apl hz (fun e=>by first | assumption | (exfalso;omega))⟩
         · first | omega | (dsimp only;omega)
         · exact ⟨⟨zy,c9,c9,trivial⟩,trivial⟩
     ·
      have h3:=of_decide_eq_false r3
      try simp only [ty] at h3
      refine az ?_;refine ⟨(), ?_, ?_⟩
      · exact ahw (fun e=>absurd ((sj (s:=s)).1 e) (by assumption)) (by omega) (hz (Nat.pos_of_ne_zero (fun e=>absurd ((sj (s:=s)).1 (by omega)) (by assumption)))) (by assumption) (fun j hj=>hI j (by omega))
      · exact ⟨trivial,trivial⟩
    · rintro _ hj
      refine sx7 ?_;refine qy ?_;refine a6 ?_
      exact hx8 rfl rfl rfl (⟨ccb hj.symm,trivial⟩)
theorem apo:ak Tryz.prog 49:=⟨Tryz.f49,Tryz.func49,by kernel_rfl,by kernel_rfl⟩
theorem avs (l:List ByteArray) (s:ByteArray):aj Tryz.prog 49 [pP (a98 l),pS s] (ao [pI (zx l s)]):=by
 refine ai (nt:=19) ae Tryz.func49 rfl rfl l9 ?_;refine j1 0 rfl (fun hn=>?_);refine sx7 ?_;refine qy ?_;refine a6 ?_
 refine cr (ι:=Unit) ⟨[],[]⟩ ⟨trivial,trivial⟩ (fun _i=>⟨[],[]⟩) (fun _i=>zx l s = -1) ?_ ?_
 ·
  refine sx7 ?_;(iterate 3 refine qy ?_);refine a6 ?_;refine af ?_
  refine aw (ι:=Nat) ⟨[(0,some _),(1,some _),(7,some _)],[]⟩ ⟨⟨c9,c9,c9,trivial⟩,trivial⟩ (fun i=>⟨[(8,some (vI i))],[]⟩) (fun i=>i ≤ l.length ∧ ∀ j,j < i → decide (l.getD j default = s) = false) (fun i=>l.length - i) (0) (⟨Nat.zero_le _,dq⟩) ⟨⟨zy,trivial⟩,trivial⟩ ?_
  rintro i ⟨hi,hI⟩
  refine sx7 ?_;refine qy ?_;refine a6 ?_;refine a7 ?_;refine a8 _ rfl (fun r0=>?_) (fun r0=>?_)
  ·
   have h0:=of_decide_eq_true r0
   try simp only [ty] at h0
   refine aa ?_;refine a7 ?_;refine af ?_;refine sx7 ?_;(iterate 2 refine qy ?_);refine a6 ?_;refine sx7 ?_;(iterate 6 refine qy ?_);refine a6 ?_;refine a8 _ rfl (fun r1=>?_) (fun r1=>?_)
   ·
    have h1:=of_decide_eq_true r1
    try simp only [ty] at h1
    refine sx7 ?_;(iterate 2 refine qy ?_);refine a6 ?_
    exact hx8 rfl rfl rfl (⟨cci (wh (p:=fun x=>decide (x = s)) (i:=i) (by omega) hI (decide_eq_true h1.symm)).symm,trivial⟩)
   ·
    have h1:=of_decide_eq_false r1
    try simp only [ty] at h1
    refine aa ?_;refine gy ?_;(iterate 2 refine qy ?_);refine a6 ?_;refine ⟨i + 1, ?_, ?_, ?_⟩
    · exact ⟨by omega,cu hI (decide_eq_false fun e=>h1 e.symm)⟩
    · first | omega | (dsimp only;omega)
    · exact ⟨⟨zy,c9,c9,c9,trivial⟩,trivial⟩
  ·
   have h0:=of_decide_eq_false r0
   try simp only [ty] at h0
   refine az ?_;refine ⟨(), ?_, ?_⟩
   · exact wg (p:=fun x=>decide (x = s)) fun j hj=>hI j (by omega)
   · exact ⟨trivial,trivial⟩
 · rintro _ hj
   refine sx7 ?_;refine qy ?_;refine a6 ?_
   exact hx8 rfl rfl rfl (⟨cci hj.symm,trivial⟩)
theorem ar9:ak Tryz.prog 26:=⟨Tryz.f26,Tryz.func26,by kernel_rfl,by kernel_rfl⟩
theorem aux (l:List ByteArray) (s:ByteArray):aj Tryz.prog 26 [pP (a98 l),pS s] (ao [pB (decide (0 ≤ zx l s))]):=by
 refine ai (nt:=9) ae Tryz.func26 rfl rfl l9 ?_;refine sx7 ?_;refine qy ?_;refine a6 ?_;refine sx7 ?_;(iterate 2 refine qy ?_);refine rc rfl rfl rfl rfl rfl rfl apo (avs _ _) (CoL.refl _) rfl rfl ?_
 (iterate 2 refine qy ?_);refine a6 ?_
 exact hx8 rfl rfl rfl (CoL.refl _)
theorem apj:ak Tryz.prog 78:=⟨Tryz.f78,Tryz.func78,by kernel_rfl,by kernel_rfl⟩
theorem av6 (l:List Val) (g k:Nat) (caps:Nat → PV) (V:Val → Bool) (hg:ak Tryz.prog g) (hV:∀ i,i < l.length → aj Tryz.prog g ((l.getD i default).pc :: fw caps k 0) (ao [pB (V (l.getD i default))])):aj Tryz.prog 78 [pP (vals l),pP (.fn g k caps)] (ao [pI (idx V l)]):=by
 refine ai (nt:=19) ae Tryz.func78 rfl rfl l9 ?_;refine j1 0 rfl (fun hn=>?_);refine sx7 ?_;refine qy ?_;refine a6 ?_
 refine cr (ι:=Unit) ⟨[],[]⟩ ⟨trivial,trivial⟩ (fun _i=>⟨[],[]⟩) (fun _i=>idx V l = -1) ?_ ?_
 ·
  refine sx7 ?_;(iterate 3 refine qy ?_);refine a6 ?_;refine af ?_
  refine aw (ι:=Nat) ⟨[(0,some _),(1,some _),(7,some _)],[]⟩ ⟨⟨c9,c9,c9,trivial⟩,trivial⟩ (fun i=>⟨[(8,some (vI i))],[]⟩) (fun i=>i ≤ l.length ∧ ∀ j,j < i → V (l.getD j default) = false) (fun i=>l.length - i) (0) (⟨Nat.zero_le _,dq⟩) ⟨⟨zy,trivial⟩,trivial⟩ ?_
  rintro i ⟨hi,hI⟩
  refine sx7 ?_;refine qy ?_;refine a6 ?_;refine a7 ?_;refine a8 _ rfl (fun r0=>?_) (fun r0=>?_)
  ·
   have h0:=of_decide_eq_true r0
   try simp only [ty] at h0
   refine aa ?_;refine a7 ?_;refine af ?_;refine sx7 ?_;(iterate 2 refine qy ?_);refine a6 ?_;refine sx7 ?_;(iterate 5 refine qy ?_)
   refine rc rfl rfl rfl rfl rfl rfl hg (hV i (by omega)) (CoL.refl _) rfl rfl ?_;refine a6 ?_;refine a8 _ rfl (fun r1=>?_) (fun r1=>?_)
   ·
    have h1:=r1
    refine sx7 ?_;(iterate 2 refine qy ?_);refine a6 ?_
    exact hx8 rfl rfl rfl (⟨cci (wh (i:=i) (by omega) hI h1).symm,trivial⟩)
   ·
    have h1:=r1
    refine aa ?_;refine gy ?_;(iterate 2 refine qy ?_);refine a6 ?_;refine ⟨i + 1, ?_, ?_, ?_⟩
    · exact ⟨by omega,cu hI (h1)⟩
    · first | omega | (dsimp only;omega)
    · exact ⟨⟨zy,c9,c9,c9,trivial⟩,trivial⟩
  ·
   have h0:=of_decide_eq_false r0
   try simp only [ty] at h0
   refine az ?_;refine ⟨(), ?_, ?_⟩
   · exact wg fun j hj=>hI j (by omega)
   · exact ⟨trivial,trivial⟩
 · rintro _ hj
   refine sx7 ?_;refine qy ?_;refine a6 ?_
   exact hx8 rfl rfl rfl (⟨cci hj.symm,trivial⟩)
theorem aqy:ak Tryz.prog 50:=⟨Tryz.f50,Tryz.func50,by kernel_rfl,by kernel_rfl⟩
theorem aw3 (l:List Val) (g k:Nat) (caps:Nat → PV) (V:Val → Bool) (hg:ak Tryz.prog g) (hV:∀ i,i < l.length → aj Tryz.prog g ((l.getD i default).pc :: fw caps k 0) (ao [pB (V (l.getD i default))])):aj Tryz.prog 50 [pP (vals l),pP (.fn g k caps)] (ao [pB (l.any V)]):=by
 refine ai (nt:=9) ae Tryz.func50 rfl rfl l9 ?_;refine sx7 ?_;refine qy ?_;refine a6 ?_;refine sx7 ?_;(iterate 2 refine qy ?_)
 refine rc rfl rfl rfl rfl rfl rfl apj (av6 l g k caps V hg hV) (CoL.refl _) rfl rfl ?_;(iterate 2 refine qy ?_);refine a6 ?_
 exact hx8 rfl rfl rfl (⟨ccb ani,trivial⟩)
theorem as9:ak Tryz.prog 51:=⟨Tryz.f51,Tryz.func51,by kernel_rfl,by kernel_rfl⟩
theorem aw2 (v:Val):aj Tryz.prog 51 [v.pc] (ao [pB (!c6 v)]):=by
 refine ai (nt:=6) ae Tryz.func51 rfl rfl l9 ?_;refine sx7 ?_;refine m9 0 ?_;refine qy ?_;refine a6 ?_;refine sx7 ?_;refine qy ?_;refine rc rfl rfl rfl rfl rfl rfl agw (c76 _) (CoL.refl _) rfl rfl ?_
 (iterate 2 refine qy ?_);refine a6 ?_
 exact hx8 rfl rfl rfl (CoL.refl _)
theorem ar2:ak Tryz.prog 27:=⟨Tryz.f27,Tryz.func27,by kernel_rfl,by kernel_rfl⟩
theorem c93 (l:List Val):aj Tryz.prog 27 [pP (vals l)] (ao [pB (l.all c6)]):=by
 refine ai (nt:=6) ae Tryz.func27 rfl rfl l9 ?_;refine sx7 ?_;refine qy ?_;refine a6 ?_;refine sx7 ?_;refine qy ?_
 refine rc rfl rfl rfl rfl rfl rfl aqy (aw3 l 51 0 (fun _=>.any) (fun v=>!c6 v) as9 (fun i _=>aw2 _)) (CoL.refl _) rfl rfl ?_;(iterate 2 refine qy ?_);refine a6 ?_
 exact hx8 rfl rfl rfl (⟨ccb abh,trivial⟩)
end Go.Hx
end
section
namespace Go.Hx
open Go.Proofs
set_option maxRecDepth 100000
set_option maxHeartbeats 1000000
abbrev vpL (ps:List PV):PV:=.vp ps.length fun j=>ps.getD j .any
theorem rE {n:Nat} {l:List Row} {i:Nat} {b e:Int} (hi:i < l.length) (h:dx n b (l.drop i) = e):(if (l.getD i default).id ≤ b then 1 else if (l.getD i default).vals.length ≠ n then 6 else if ((l.getD i default).vals.all c6) = false then 1 else dx n (l.getD i default).id (l.drop (i + 1))) = e:=by rw [← abd hi];exact h
theorem tE {t:Tbl} {e:Int} (h0:gn t.name = true) (h1:¬ 16 < t.attrs.length) (h2:¬ 1000 < t.rows.length) (h3:xk t.attrs = true) (h:dx t.attrs.length 0 t.rows = e):cb t = e:=by
 have:¬ (16 < t.attrs.length ∨ 1000 < t.rows.length):=by omega
 simp [cb,h0,h3,h,this]
theorem tE1 {t:Tbl} (h0:gn t.name = false):cb t = 1:=by simp [cb,h0]
theorem tE3 {t:Tbl} (h0:gn t.name = true) (h1:16 < t.attrs.length ∨ 1000 < t.rows.length):cb t = 3:=by simp [cb,h0,h1]
theorem tE2 {t:Tbl} (h0:gn t.name = true) (h1:¬ 16 < t.attrs.length) (h2:¬ 1000 < t.rows.length) (h3:xk t.attrs = false):cb t = 1:=by
 have:¬ (16 < t.attrs.length ∨ 1000 < t.rows.length):=by omega
 simp [cb,h0,h3,this]
theorem a9c:ak Tryz.prog 34:=⟨Tryz.f34,Tryz.func34,by kernel_rfl,by kernel_rfl⟩
theorem c82 (t:Tbl):aj Tryz.prog 34 [t.pc] (ao [pI (cb t)]):=by
 refine ai (nt:=53) ae Tryz.func34 rfl rfl l9 ?_;refine sx7 ?_;refine m9 0 ?_;refine qy ?_;refine a6 ?_;refine a7 ?_;refine sx7 ?_;(iterate 2 refine qy ?_)
 refine rc rfl rfl rfl rfl rfl rfl ahc (arv _) (CoL.refl _) rfl rfl ?_;refine qy ?_;refine a6 ?_;refine a8 _ rfl (fun r0=>?_) (fun r0=>?_)
 ·
  have h0:=r0
  have h0:=b7 h0
  refine sx7 ?_;refine qy ?_;refine a6 ?_
  exact hx8 rfl rfl rfl (⟨cci (tE1 (by assumption)).symm,trivial⟩)
 ·
  have h0:=r0
  have h0:=b6 h0
  refine aa ?_;refine a7 ?_;refine sx7 ?_;(iterate 5 refine qy ?_);refine bd rfl rfl (fun r1=>?_) (fun r1=>?_)
  ·
   have h1:=of_decide_eq_true r1
   try simp only [ty] at h1
   (iterate 4 refine k9 (gtf r1) ?_);refine rq rfl rfl rfl rfl rfl ?_ (hp:=r1);refine a6 ?_;refine a8 _ rfl (fun _=>?_) (fun e=>by cases e);refine sx7 ?_;refine qy ?_;refine a6 ?_
   exact hx8 rfl rfl rfl (⟨cci (tE3 (by assumption) (by omega)).symm,trivial⟩)
  ·
   have h1:=of_decide_eq_false r1
   try simp only [ty] at h1
   (iterate 4 refine qy ?_ (hg:=(gff r1)));refine qy ?_;refine a6 ?_;refine a8 _ rfl (fun r2=>?_) (fun r2=>?_)
   ·
    have h2:=r2
    have h2:=d7 r1 h2
    have h2:=of_decide_eq_true h2
    try simp only [ty] at h2
    refine sx7 ?_;refine qy ?_;refine a6 ?_
    exact hx8 rfl rfl rfl (⟨cci (tE3 (by assumption) (by omega)).symm,trivial⟩)
   ·
    have h2:=r2
    have h2:=d7 r1 h2
    have h2:=of_decide_eq_false h2
    try simp only [ty] at h2
    refine aa ?_;refine a7 ?_;refine sx7 ?_;(iterate 2 refine qy ?_);refine rc rfl rfl rfl rfl rfl rfl asg (awb _) (CoL.refl _) rfl rfl ?_;refine qy ?_;refine a6 ?_
    refine a8 _ rfl (fun r3=>?_) (fun r3=>?_)
    ·
     have h3:=r3
     have h3:=b7 h3
     refine sx7 ?_;refine qy ?_;refine a6 ?_
     exact hx8 rfl rfl rfl (⟨cci (tE2 (by assumption) (by omega) (by omega) (by assumption)).symm,trivial⟩)
    ·
     have h3:=r3
     have h3:=b6 h3
     refine aa ?_;refine sx7 ?_;refine qy ?_;refine a6 ?_;refine cr (ι:=Unit) ⟨[],[]⟩ ⟨trivial,trivial⟩ (fun _i=>⟨[],[]⟩) (fun _i=>dx t.attrs.length 0 t.rows = 0) ?_ ?_
     ·
      refine sx7 ?_;refine qy ?_;refine a6 ?_;refine af ?_
      refine aw (ι:=(Nat × Int)) ⟨[(1,some _)],[(0,some _)]⟩ ⟨⟨c9,trivial⟩,⟨u9,trivial⟩⟩ (fun x=>⟨[(3,some (vI x.2)),(4,some (vI x.1))],[]⟩) (fun x=>x.1 ≤ t.rows.length ∧ dx t.attrs.length x.2 (t.rows.drop x.1) = dx t.attrs.length 0 t.rows) (fun x=>t.rows.length - x.1) ((0,0)) (⟨Nat.zero_le _,rfl⟩) ⟨⟨zy,zy,trivial⟩,trivial⟩ ?_
      rintro ⟨i,b⟩ ⟨hi,hI⟩
      dsimp only at hi hI ⊢
      refine a7 ?_;refine sx7 ?_;(iterate 5 refine qy ?_);refine a6 ?_;refine a8 _ rfl (fun r4=>?_) (fun r4=>?_)
      ·
       have h4:=of_decide_eq_true r4
       try simp only [ty] at h4
       refine aa ?_;refine a7 ?_;refine af ?_;refine sx7 ?_;(iterate 5 refine qy ?_);refine m9 1 ?_;refine s9 ?_;refine a6 ?_;refine a7 ?_;refine sx7 ?_;(iterate 4 refine qy ?_)
       refine a6 ?_;refine a8 _ rfl (fun r5=>?_) (fun r5=>?_)
       ·
        have h5:=of_decide_eq_true r5
        try simp only [ty] at h5
        refine sx7 ?_;refine qy ?_;refine a6 ?_;refine df ?_;refine ⟨.inr rfl, ?_⟩
        have hs:=rE (by omega) hI
        rw [if_pos (by omega)] at hs
        exact f9 rfl rfl (⟨cci (tE (by assumption) (by omega) (by omega) (by assumption) hs.symm).symm,trivial⟩)
       ·
        have h5:=of_decide_eq_false r5
        try simp only [ty] at h5
        refine aa ?_;refine sx7 ?_;(iterate 3 refine qy ?_);refine a6 ?_;refine a7 ?_;refine sx7 ?_;(iterate 7 refine qy ?_);refine a6 ?_;refine a8 _ rfl (fun r6=>?_) (fun r6=>?_)
        ·
         have h6:=r6
         have h6:=of_decide_eq_false (b7 h6)
         try simp only [ty] at h6
         refine sx7 ?_;refine qy ?_;refine a6 ?_;refine df ?_;refine ⟨.inr rfl, ?_⟩
         have hs:=rE (by omega) hI
         rw [if_neg (by omega),if_pos (by omega)] at hs
         exact f9 rfl rfl (⟨cci (tE (by assumption) (by omega) (by omega) (by assumption) hs.symm).symm,trivial⟩)
        ·
         have h6:=r6
         have h6:=of_decide_eq_true (b6 h6)
         try simp only [ty] at h6
         refine aa ?_;refine sx7 ?_;(iterate 2 refine qy ?_);refine rc rfl rfl rfl rfl rfl rfl ard (c83 _) (CoL.refl _) rfl rfl ?_;refine qy ?_;refine a6 ?_
         refine a8 _ rfl (fun r7=>?_) (fun r7=>?_)
         ·
          have h7:=r7
          have h7:=b7 h7
          refine sx7 ?_;refine qy ?_;refine a6 ?_;refine df ?_;refine ⟨.inr rfl, ?_⟩
          have hs:=rE (by omega) hI
          rw [if_neg (by omega),if_neg (by omega),if_pos (by assumption)] at hs
          exact f9 rfl rfl (⟨cci (tE (by assumption) (by omega) (by omega) (by assumption) hs.symm).symm,trivial⟩)
         ·
          have h7:=r7
          have h7:=b6 h7
          refine aa ?_;refine gy ?_;(iterate 3 refine qy ?_);refine a6 ?_;refine ⟨(i + 1,(t.rows.getD i default).id), ?_, ?_, ?_⟩
          · refine ⟨by dsimp only;omega, ?_⟩
            have hs:=rE (by omega) hI
            rw [if_neg (by omega),if_neg (by omega),if_neg (fun e=>Bool.noConfusion (e.symm.trans (show _ = true by assumption)))] at hs
            exact hs
          · first | omega | (dsimp only;omega)
          · exact ⟨⟨zy,zy,c9,trivial⟩,⟨u9,trivial⟩⟩
      ·
       have h4:=of_decide_eq_false r4
       try simp only [ty] at h4
       refine az ?_;refine ⟨(), ?_, ?_⟩
       · rw [← hI,List.drop_eq_nil_of_le (by omega)];rfl
       · exact ⟨trivial,trivial⟩
     · rintro _ hj
       refine sx7 ?_;refine qy ?_;refine a6 ?_
       exact hx8 rfl rfl rfl (⟨cci (tE (by assumption) (by omega) (by omega) (by assumption) hj).symm,trivial⟩)
theorem zr:ak Tryz.prog 11:=⟨Tryz.f11,Tryz.func11,by kernel_rfl,by kernel_rfl⟩
theorem c88 (t:Tbl):aj Tryz.prog 11 [t.pc] (ao [pI (cb t)]):=by
 refine ai (nt:=70) ae Tryz.func11 rfl rfl l9 ?_;refine sx7 ?_;refine m9 0 ?_;refine qy ?_;refine a6 ?_;refine a7 ?_;refine sx7 ?_;(iterate 2 refine qy ?_)
 refine rc rfl rfl rfl rfl rfl rfl aic (ap2 _) (CoL.refl _) rfl rfl ?_;refine qy ?_;refine a6 ?_;refine a8 _ rfl (fun r0=>?_) (fun r0=>?_)
 ·
  have h0:=r0
  have h0:=b7 h0
  refine sx7 ?_;refine qy ?_;refine a6 ?_
  exact hx8 rfl rfl rfl (⟨cci (tE1 (by assumption)).symm,trivial⟩)
 ·
  have h0:=r0
  have h0:=b6 h0
  refine aa ?_;refine a7 ?_;refine sx7 ?_;(iterate 5 refine qy ?_);refine bd rfl rfl (fun r1=>?_) (fun r1=>?_)
  ·
   have h1:=of_decide_eq_true r1
   try simp only [ty] at h1
   (iterate 4 refine k9 (gtf r1) ?_);refine rq rfl rfl rfl rfl rfl ?_ (hp:=r1);refine a6 ?_;refine a8 _ rfl (fun _=>?_) (fun e=>by cases e);refine sx7 ?_;refine qy ?_;refine a6 ?_
   exact hx8 rfl rfl rfl (⟨cci (tE3 (by assumption) (by omega)).symm,trivial⟩)
  ·
   have h1:=of_decide_eq_false r1
   try simp only [ty] at h1
   (iterate 4 refine qy ?_ (hg:=(gff r1)));refine qy ?_;refine a6 ?_;refine a8 _ rfl (fun r2=>?_) (fun r2=>?_)
   ·
    have h2:=r2
    have h2:=d7 r1 h2
    have h2:=of_decide_eq_true h2
    try simp only [ty] at h2
    refine sx7 ?_;refine qy ?_;refine a6 ?_
    exact hx8 rfl rfl rfl (⟨cci (tE3 (by assumption) (by omega)).symm,trivial⟩)
   ·
    have h2:=r2
    have h2:=d7 r1 h2
    have h2:=of_decide_eq_false h2
    try simp only [ty] at h2
    refine aa ?_;refine cr (ι:=Unit) ⟨[(1,some _)],[(0,some _)]⟩ ⟨⟨c9,trivial⟩,⟨u9,trivial⟩⟩ (fun _i=>⟨[],[]⟩) (fun _i=>xk t.attrs = true) ?_ ?_
    ·
     refine sx7 ?_;(iterate 4 refine qy ?_);refine a6 ?_;refine af ?_
     refine aw (ι:=Nat) ⟨[(1,some _),(23,some _),(24,some _)],[(0,some _)]⟩ ⟨⟨c9,c9,c9,trivial⟩,⟨u9,trivial⟩⟩ (fun i=>⟨[(25,some (vI i))],[]⟩) (fun i=>i ≤ t.attrs.length ∧ ∀ j,j < i → lq t.attrs j = true) (fun i=>t.attrs.length - i) (0) (⟨Nat.zero_le _,dq⟩) ⟨⟨zy,trivial⟩,trivial⟩ ?_
     rintro i ⟨hi,hI⟩
     refine sx7 ?_;refine qy ?_;refine a6 ?_;refine a7 ?_;refine a8 _ rfl (fun r3=>?_) (fun r3=>?_)
     ·
      have h3:=of_decide_eq_true r3
      try simp only [ty] at h3
      refine aa ?_;refine a7 ?_;refine af ?_;refine sx7 ?_;(iterate 5 refine qy ?_);refine a6 ?_;refine sx7 ?_;refine qy ?_;refine rc rfl rfl rfl rfl rfl rfl aic (ap2 _) (CoL.refl _) rfl rfl ?_
      (iterate 2 refine qy ?_);refine bd rfl rfl (fun r4=>?_) (fun r4=>?_)
      ·
       have h4:=r4
       have h4:=b7 h4
       (iterate 6 refine k9 (gtf r4) ?_);refine rq rfl rfl rfl rfl rfl ?_ (hp:=r4);refine a6 ?_;refine a8 _ rfl (fun _=>?_) (fun e=>by cases e);refine sx7 ?_;refine qy ?_;refine a6 ?_
       exact hx8 rfl rfl rfl (⟨cci (tE2 (by assumption) (by omega) (by omega) (j3 (i:=i) (by omega) (by first | (unfold lq;simp_all;done) | (unfold lq;rw [Bool.and_eq_false_iff];right;exact decide_eq_false (by omega))))).symm,trivial⟩)
      ·
       have h4:=r4
       have h4:=b6 h4
       (iterate 5 refine qy ?_ (hg:=(gff r4)));refine rc rfl rfl rfl rfl rfl rfl ar9 (aux (t.attrs.take i) (t.attrs.getD i default)) (⟨CoC.one (adc (k:=i) (by omega)),CoC.refl _,trivial⟩) rfl (gff r4) ?_
       refine qy ?_;refine a6 ?_;refine a8 _ rfl (fun r5=>?_) (fun r5=>?_)
       ·
        have h5:=r5
        have h5:=d7 r4 h5
        refine sx7 ?_;refine qy ?_;refine a6 ?_
        exact hx8 rfl rfl rfl (⟨cci (tE2 (by assumption) (by omega) (by omega) (j3 (i:=i) (by omega) (by first | (unfold lq;simp_all;done) | (unfold lq;rw [Bool.and_eq_false_iff];right;exact decide_eq_false (by omega))))).symm,trivial⟩)
       ·
        have h5:=r5
        have h5:=d7 r4 h5
        have hM:=of_decide_eq_false h5
        refine aa ?_;refine gy ?_;(iterate 2 refine qy ?_);refine a6 ?_;refine ⟨i + 1, ?_, ?_, ?_⟩
        · exact ⟨by omega,cu hI (by simp only [lq,Bool.and_eq_true,decide_eq_true_eq];exact ⟨by assumption,by simp_all⟩)⟩
        · first | omega | (dsimp only;omega)
        · exact ⟨⟨zy,c9,c9,c9,trivial⟩,⟨u9,trivial⟩⟩
     ·
      have h3:=of_decide_eq_false r3
      try simp only [ty] at h3
      refine az ?_;refine ⟨(), ?_, ?_⟩
      · exact ly fun j hj=>hI j (by omega)
      · exact ⟨⟨c9,trivial⟩,⟨u9,trivial⟩⟩
    · rintro _ hnm
      refine sx7 ?_;refine qy ?_;refine a6 ?_;refine cr (ι:=Unit) ⟨[],[]⟩ ⟨trivial,trivial⟩ (fun _i=>⟨[],[]⟩) (fun _i=>dx t.attrs.length 0 t.rows = 0) ?_ ?_
      ·
       refine sx7 ?_;(iterate 4 refine qy ?_);refine a6 ?_;refine af ?_
       refine aw (ι:=(Nat × Int)) ⟨[(1,some _),(43,some _),(44,some _)],[(0,some _)]⟩ ⟨⟨c9,c9,c9,trivial⟩,⟨u9,trivial⟩⟩ (fun x=>⟨[(5,some (vI x.2)),(45,some (vI x.1))],[]⟩) (fun x=>x.1 ≤ t.rows.length ∧ dx t.attrs.length x.2 (t.rows.drop x.1) = dx t.attrs.length 0 t.rows) (fun x=>t.rows.length - x.1) ((0,0)) (⟨Nat.zero_le _,rfl⟩) ⟨⟨zy,zy,trivial⟩,trivial⟩ ?_
       rintro ⟨i,b⟩ ⟨hi,hI⟩
       dsimp only at hi hI ⊢
       refine sx7 ?_;refine qy ?_;refine a6 ?_;refine a7 ?_;refine a8 _ rfl (fun r6=>?_) (fun r6=>?_)
       ·
        have h6:=of_decide_eq_true r6
        try simp only [ty] at h6
        refine aa ?_;refine a7 ?_;refine af ?_;refine sx7 ?_;(iterate 2 refine qy ?_);refine m9 1 ?_;refine s9 ?_;refine a6 ?_;refine a7 ?_;refine af ?_;refine sx7 ?_
        (iterate 5 refine qy ?_);refine a6 ?_;refine a8 _ rfl (fun r7=>?_) (fun r7=>?_)
        ·
         have h7:=of_decide_eq_true r7
         try simp only [ty] at h7
         refine sx7 ?_;refine qy ?_;refine a6 ?_;refine df ?_;refine ⟨.inr rfl, ?_⟩
         have hs:=rE (by omega) hI
         rw [if_pos (by omega)] at hs
         exact f9 rfl rfl (⟨cci (tE (by assumption) (by omega) (by omega) (by assumption) hs.symm).symm,trivial⟩)
        ·
         have h7:=of_decide_eq_false r7
         try simp only [ty] at h7
         refine sx7 ?_;(iterate 8 refine qy ?_);refine a6 ?_;refine a8 _ rfl (fun r8=>?_) (fun r8=>?_)
         ·
          have h8:=r8
          have h8:=of_decide_eq_false (b7 h8)
          try simp only [ty] at h8
          refine sx7 ?_;refine qy ?_;refine a6 ?_;refine df ?_;refine ⟨.inr rfl, ?_⟩
          have hs:=rE (by omega) hI
          rw [if_neg (by omega),if_pos (by omega)] at hs
          exact f9 rfl rfl (⟨cci (tE (by assumption) (by omega) (by omega) (by assumption) hs.symm).symm,trivial⟩)
         ·
          have h8:=r8
          have h8:=of_decide_eq_true (b6 h8)
          try simp only [ty] at h8
          refine sx7 ?_;(iterate 2 refine qy ?_);refine rc rfl rfl rfl rfl rfl rfl ar2 (c93 _) (CoL.refl _) rfl rfl ?_;(iterate 2 refine qy ?_);refine a6 ?_;refine a8 _ rfl (fun r9=>?_) (fun r9=>?_)
          ·
           have h9:=r9
           have h9:=b7 h9
           refine sx7 ?_;refine qy ?_;refine a6 ?_;refine df ?_;refine ⟨.inr rfl, ?_⟩
           have hs:=rE (by omega) hI
           rw [if_neg (by omega),if_neg (by omega),if_pos (by assumption)] at hs
           exact f9 rfl rfl (⟨cci (tE (by assumption) (by omega) (by omega) (by assumption) hs.symm).symm,trivial⟩)
          ·
           have h9:=r9
           have h9:=b6 h9
           refine aa ?_;refine gy ?_;(iterate 3 refine qy ?_);refine a6 ?_;refine gy ?_;(iterate 2 refine qy ?_);refine a6 ?_;refine ⟨(i + 1,(t.rows.getD i default).id), ?_, ?_, ?_⟩
           · refine ⟨by dsimp only;omega, ?_⟩
             have hs:=rE (by omega) hI
             rw [if_neg (by omega),if_neg (by omega),if_neg (fun e=>Bool.noConfusion (e.symm.trans (show _ = true by assumption)))] at hs
             exact hs
           · first | omega | (dsimp only;omega)
           · exact ⟨⟨zy,zy,c9,c9,c9,trivial⟩,⟨u9,trivial⟩⟩
       ·
        have h6:=of_decide_eq_false r6
        try simp only [ty] at h6
        refine az ?_;refine ⟨(), ?_, ?_⟩
        · rw [← hI,List.drop_eq_nil_of_le (by omega)];rfl
        · exact ⟨trivial,trivial⟩
      · rintro _ hj
        refine sx7 ?_;refine qy ?_;refine a6 ?_
        exact hx8 rfl rfl rfl (⟨cci (tE (by assumption) (by omega) (by omega) (by assumption) hj).symm,trivial⟩)
end Go.Hx
end

/- A part of the proof: W3. -/
import Derived.Test.YtaegkccfbmekbaaGreatNq27
set_option linter.all false
section
namespace Go.Hx
open Go.Proofs
set_option maxRecDepth 100000
set_option maxHeartbeats 1000000
theorem adc:aj Tryz.prog 115:=⟨Tryz.f115,Tryz.func115,by kernel_rfl,by kernel_rfl⟩
theorem aqk (c:Int):ap Tryz.prog 115 [pU8 c] (b4 [pB (ltr c)]):=by
 refine ah (nt:=21) ae Tryz.func115 rfl rfl l9 ?_;refine sx7 ?_;refine qy ?_;refine a6 ?_;refine sx7 ?_;(iterate 3 refine qy ?_);refine b5 rfl rfl (fun r0=>?_) (fun r0=>?_)
 ·
  have h0:=of_decide_eq_true r0
  try simp only [ty] at h0
  (iterate 2 refine qy ?_ (hg:=(gtt r0)));(iterate 2 refine qy ?_);refine b5 rfl rfl (fun r1=>?_) (fun r1=>?_)
  ·
   have h1:=r1
   have h1:=d4 r0 h1
   have h1:=of_decide_eq_true h1
   try simp only [ty] at h1
   (iterate 3 refine k9 (gtf r1) ?_);(iterate 2 refine k9 rfl ?_);refine k9 (gtf r1) ?_;refine rq rfl rfl rfl rfl rfl ?_ (hp:=r1);refine qy ?_;(iterate 2 refine k9 rfl ?_);(iterate 2 refine qy ?_);refine a6 ?_
   exact hx8 rfl rfl rfl (⟨ccb (by simp [ltr, *]),trivial⟩)
  ·
   have h1:=r1
   have h1:=d4 r0 h1
   have h1:=of_decide_eq_false h1
   try simp only [ty] at h1
   (iterate 3 refine qy ?_ (hg:=(gff r1)));refine b5 rfl rfl (fun r2=>?_) (fun r2=>?_)
   ·
    have h2:=of_decide_eq_true r2
    try simp only [ty] at h2
    (iterate 2 refine qy ?_ (hg:=(gtt r2)));refine qy ?_ (hg:=(gff r1));(iterate 2 refine qy ?_);refine b5 rfl rfl (fun r3=>?_) (fun r3=>?_)
    ·
     have h3:=r3
     have h3:=bv r1 h3
     have h3:=d4 r2 h3
     have h3:=of_decide_eq_true h3
     try simp only [ty] at h3
     (iterate 2 refine k9 (gtf r3) ?_);refine rq rfl rfl rfl rfl rfl ?_ (hp:=r3);refine qy ?_;refine a6 ?_
     exact hx8 rfl rfl rfl (⟨ccb (by simp [ltr, *]),trivial⟩)
    ·
     have h3:=r3
     have h3:=bv r1 h3
     have h3:=d4 r2 h3
     have h3:=of_decide_eq_false h3
     try simp only [ty] at h3
     (iterate 2 refine qy ?_ (hg:=(gff r3)));(iterate 2 refine qy ?_);refine a6 ?_
     exact hx8 rfl rfl rfl (⟨ccb (by simp [ltr, *]),trivial⟩)
   ·
    have h2:=of_decide_eq_false r2
    try simp only [ty] at h2
    (iterate 2 refine k9 (gft r2) ?_);refine rq rfl rfl rfl rfl (gff r1) ?_ (hp:=r2);(iterate 2 refine qy ?_);(iterate 2 refine rq rfl rfl rfl rfl (gff (a49 r1 rfl)) ?_);(iterate 2 refine qy ?_);refine a6 ?_
    exact hx8 rfl rfl rfl (⟨ccb (by simp [ltr, *]),trivial⟩)
 ·
  have h0:=of_decide_eq_false r0
  try simp only [ty] at h0
  (iterate 2 refine k9 (gft r0) ?_);refine rq rfl rfl rfl rfl rfl ?_ (hp:=r0);(iterate 4 refine qy ?_);refine b5 rfl rfl (fun r4=>?_) (fun r4=>?_)
  ·
   have h4:=of_decide_eq_true r4
   try simp only [ty] at h4
   (iterate 2 refine qy ?_ (hg:=(gtt r4)));(iterate 3 refine qy ?_);refine b5 rfl rfl (fun r5=>?_) (fun r5=>?_)
   ·
    have h5:=r5
    have h5:=d4 r4 h5
    have h5:=of_decide_eq_true h5
    try simp only [ty] at h5
    (iterate 2 refine k9 (gtf r5) ?_);refine rq rfl rfl rfl rfl rfl ?_ (hp:=r5);refine qy ?_;refine a6 ?_
    exact hx8 rfl rfl rfl (⟨ccb (by simp [ltr, *]),trivial⟩)
   ·
    have h5:=r5
    have h5:=d4 r4 h5
    have h5:=of_decide_eq_false h5
    try simp only [ty] at h5
    (iterate 2 refine qy ?_ (hg:=(gff r5)));(iterate 2 refine qy ?_);refine a6 ?_
    exact hx8 rfl rfl rfl (⟨ccb (by simp [ltr, *]),trivial⟩)
  ·
   have h4:=of_decide_eq_false r4
   try simp only [ty] at h4
   (iterate 2 refine k9 (gft r4) ?_);refine rq rfl rfl rfl rfl rfl ?_ (hp:=r4);(iterate 2 refine qy ?_);(iterate 2 refine rq rfl rfl rfl rfl (gff (a49 rfl rfl)) ?_);(iterate 2 refine qy ?_);refine a6 ?_
   exact hx8 rfl rfl rfl (⟨ccb (by simp [ltr, *]),trivial⟩)
theorem aib:aj Tryz.prog 78:=⟨Tryz.f78,Tryz.func78,by kernel_rfl,by kernel_rfl⟩
theorem aqw (s:ByteArray):ap Tryz.prog 78 [pS s] (b4 [pB (ib s)]):=by
 refine ah (nt:=45) ae Tryz.func78 rfl rfl l9 ?_;refine sx7 ?_;refine qy ?_;refine a6 ?_;refine a7 ?_;refine sx7 ?_;(iterate 4 refine qy ?_);refine b5 rfl rfl (fun r0=>?_) (fun r0=>?_)
 ·
  have h0:=of_decide_eq_true r0
  try simp only [ty] at h0
  (iterate 3 refine k9 (gtf r0) ?_);refine rq rfl rfl rfl rfl rfl ?_ (hp:=r0);refine qy ?_;(iterate 4 refine k9 rfl ?_);(iterate 2 refine qy ?_);(iterate 2 refine k9 rfl ?_);refine qy ?_;refine a6 ?_
  refine a8 _ rfl (fun _=>?_) (fun e=>by cases e);refine sx7 ?_;refine qy ?_;refine a6 ?_
  exact hx8 rfl rfl rfl (⟨ccb (by first | exact (pf (by omega)).symm | exact (nj (by omega)).symm | exact (u5 (by assumption)).symm | exact (ly (by assumption)).symm),trivial⟩)
 ·
  have h0:=of_decide_eq_false r0
  try simp only [ty] at h0
  (iterate 3 refine qy ?_ (hg:=(gff r0)));(iterate 2 refine qy ?_);refine b5 rfl rfl (fun r1=>?_) (fun r1=>?_)
  ·
   have h1:=r1
   have h1:=bv r0 h1
   have h1:=of_decide_eq_true h1
   try simp only [ty] at h1
   (iterate 4 refine k9 (gtf r1) ?_);refine rq rfl rfl rfl rfl rfl ?_ (hp:=r1);refine qy ?_;(iterate 2 refine k9 rfl ?_);refine qy ?_;refine a6 ?_;refine a8 _ rfl (fun _=>?_) (fun e=>by cases e)
   refine sx7 ?_;refine qy ?_;refine a6 ?_
   exact hx8 rfl rfl rfl (⟨ccb (by first | exact (pf (by omega)).symm | exact (nj (by omega)).symm | exact (u5 (by assumption)).symm | exact (ly (by assumption)).symm),trivial⟩)
  ·
   have h1:=r1
   have h1:=bv r0 h1
   have h1:=of_decide_eq_false h1
   try simp only [ty] at h1
   (iterate 2 refine qy ?_ (hg:=(gff r1)));refine rc rfl rfl rfl rfl rfl rfl adc (aqk _) (CoL.refl _) rfl (gff r1) ?_;refine qy ?_ (hg:=(gff r1));(iterate 2 refine qy ?_)
   refine b5 rfl rfl (fun r2=>?_) (fun r2=>?_)
   ·
    have h2:=r2
    have h2:=bv r1 h2
    have h2:=be h2
    (iterate 2 refine k9 (gtf r2) ?_);refine rq rfl rfl rfl rfl rfl ?_ (hp:=r2);refine a6 ?_;refine a8 _ rfl (fun _=>?_) (fun e=>by cases e);refine sx7 ?_;refine qy ?_;refine a6 ?_
    exact hx8 rfl rfl rfl (⟨ccb (by first | exact (pf (by omega)).symm | exact (nj (by omega)).symm | exact (u5 (by assumption)).symm | exact (ly (by assumption)).symm),trivial⟩)
   ·
    have h2:=r2
    have h2:=bv r1 h2
    have h2:=bf h2
    (iterate 2 refine qy ?_ (hg:=(gff r2)));refine qy ?_;refine a6 ?_;refine a8 _ rfl (fun r3=>?_) (fun r3=>?_)
    ·
     have h3:=r3
     have h3:=bv r2 h3
     have h3:=of_decide_eq_true h3
     try simp only [ty] at h3
     refine sx7 ?_;refine qy ?_;refine a6 ?_
     exact hx8 rfl rfl rfl (⟨ccb (by first | exact (pf (by omega)).symm | exact (nj (by omega)).symm | exact (u5 (by assumption)).symm | exact (ly (by assumption)).symm),trivial⟩)
    ·
     have h3:=r3
     have h3:=bv r2 h3
     have h3:=of_decide_eq_false h3
     try simp only [ty] at h3
     refine aa ?_;refine db (ι:=Unit) ⟨[],[]⟩ ⟨trivial,trivial⟩ (fun _i=>⟨[],[]⟩) (fun _i=>ib s = true) ?_ ?_
     ·
      refine sx7 ?_;refine qy ?_;refine a6 ?_;refine af ?_
      refine av (ι:=Nat) ⟨[(0,some _)],[]⟩ ⟨⟨c9,trivial⟩,trivial⟩ (fun i=>⟨[(3,some (vI i))],[]⟩) (fun i=>i ≤ s.size ∧ ∀ j,j < i → (ltr (cu s j) || dig (cu s j)) = true) (fun i=>s.size - i) (0) (⟨Nat.zero_le _,dl⟩) ⟨⟨zy,trivial⟩,trivial⟩ ?_
      rintro i ⟨hi,hI⟩
      refine a7 ?_;refine sx7 ?_;(iterate 4 refine qy ?_);refine a6 ?_;refine a8 _ rfl (fun r4=>?_) (fun r4=>?_)
      ·
       have h4:=of_decide_eq_true r4
       try simp only [ty] at h4
       refine aa ?_;refine a7 ?_;refine af ?_;refine sx7 ?_;(iterate 3 refine qy ?_);refine rc rfl rfl rfl rfl rfl rfl adc (aqk _) (CoL.refl _) rfl rfl ?_;(iterate 2 refine qy ?_)
       refine b5 rfl rfl (fun r5=>?_) (fun r5=>?_)
       ·
        have h5:=r5
        have h5:=be h5
        (iterate 5 refine qy ?_ (hg:=(gtt r5)));refine b5 rfl rfl (fun r6=>?_) (fun r6=>?_)
        ·
         have h6:=of_decide_eq_true r6
         try simp only [ty] at h6
         (iterate 4 refine k9 (gtf r6) ?_);refine rq rfl rfl rfl rfl (gtt r5) ?_ (hp:=r6);refine qy ?_;refine a6 ?_;refine a8 _ rfl (fun _=>?_) (fun e=>Bool.noConfusion ((x4 r5 rfl).symm.trans e))
         refine sx7 ?_;refine qy ?_;refine a6 ?_
         exact hx8 rfl rfl rfl (⟨ccb (qp (i:=i) (by omega) (by assumption) (by simp_all [dig] <;> omega)).symm,trivial⟩)
        ·
         have h6:=of_decide_eq_false r6
         try simp only [ty] at h6
         (iterate 4 refine qy ?_ (hg:=(gff r6)));refine qy ?_ (hg:=(gtt r5));refine qy ?_;refine a6 ?_;refine a8 _ rfl (fun r7=>?_) (fun r7=>?_)
         ·
          have h7:=r7
          have h7:=d4 r5 h7
          have h7:=bv r6 h7
          have h7:=of_decide_eq_true h7
          try simp only [ty] at h7
          refine sx7 ?_;refine qy ?_;refine a6 ?_
          exact hx8 rfl rfl rfl (⟨ccb (qp (i:=i) (by omega) (by assumption) (by simp_all [dig] <;> omega)).symm,trivial⟩)
         ·
          have h7:=r7
          have h7:=d4 r5 h7
          have h7:=bv r6 h7
          have h7:=of_decide_eq_false h7
          try simp only [ty] at h7
          refine aa ?_;refine gy ?_;(iterate 3 refine qy ?_);refine a6 ?_;refine ⟨i + 1, ?_, ?_, ?_⟩
          · exact ⟨by omega,da hI (by simp_all [dig] <;> omega)⟩
          · first | omega | (dsimp only;omega)
          · exact ⟨⟨zy,c9,trivial⟩,trivial⟩
       ·
        have h5:=r5
        have h5:=bf h5
        (iterate 5 refine k9 (gft r5) ?_);(iterate 4 refine k9 rfl ?_);refine k9 (gft r5) ?_;refine rq rfl rfl rfl rfl rfl ?_ (hp:=r5);refine a6 ?_;refine a8 _ rfl (fun e=>by cases e) (fun _=>?_)
        refine aa ?_;refine gy ?_;(iterate 3 refine qy ?_);refine a6 ?_;refine ⟨i + 1, ?_, ?_, ?_⟩
        · exact ⟨by omega,da hI (by simp_all [dig] <;> omega)⟩
        · first | omega | (dsimp only;omega)
        · exact ⟨⟨zy,c9,trivial⟩,trivial⟩
      ·
       have h4:=of_decide_eq_false r4
       try simp only [ty] at h4
       refine au ?_;refine ⟨(), ?_, ?_⟩
       · exact ag8 (by omega) (by omega) (by assumption) (by assumption) (fun j hj=>hI j (by omega))
       · exact ⟨trivial,trivial⟩
     · rintro _ hj
       refine sx7 ?_;refine qy ?_;refine a6 ?_
       exact hx8 rfl rfl rfl (⟨ccb hj.symm,trivial⟩)
theorem apn:aj Tryz.prog 116:=⟨Tryz.f116,Tryz.func116,by kernel_rfl,by kernel_rfl⟩
theorem avp (l:List ByteArray) (s:ByteArray):ap Tryz.prog 116 [pP (i7 l),pS s] (b4 [pI (a6w l s)]):=by
 refine ah (nt:=19) ae Tryz.func116 rfl rfl l9 ?_;refine j0 0 rfl (fun hn=>?_);refine sx7 ?_;refine qy ?_;refine a6 ?_
 refine db (ι:=Unit) ⟨[],[]⟩ ⟨trivial,trivial⟩ (fun _i=>⟨[],[]⟩) (fun _i=>a6w l s = -1) ?_ ?_
 ·
  refine sx7 ?_;refine qy ?_;refine a6 ?_;refine af ?_
  refine av (ι:=Nat) ⟨[(0,some _),(1,some _)],[]⟩ ⟨⟨c9,c9,trivial⟩,trivial⟩ (fun i=>⟨[(5,some (vI i))],[]⟩) (fun i=>i ≤ l.length ∧ ∀ j,j < i → decide (l.getD j default = s) = false) (fun i=>l.length - i) (0) (⟨Nat.zero_le _,dl⟩) ⟨⟨zy,trivial⟩,trivial⟩ ?_
  rintro i ⟨hi,hI⟩
  refine a7 ?_;refine sx7 ?_;(iterate 4 refine qy ?_);refine a6 ?_;refine a8 _ rfl (fun r0=>?_) (fun r0=>?_)
  ·
   have h0:=of_decide_eq_true r0
   try simp only [ty] at h0
   refine aa ?_;refine a7 ?_;refine af ?_;refine sx7 ?_;(iterate 6 refine qy ?_);refine a6 ?_;refine a8 _ rfl (fun r1=>?_) (fun r1=>?_)
   ·
    have h1:=of_decide_eq_true r1
    try simp only [ty] at h1
    refine sx7 ?_;(iterate 2 refine qy ?_);refine a6 ?_
    exact hx8 rfl rfl rfl (⟨cci (ya (p:=fun x=>decide (x = s)) (i:=i) (by omega) hI (decide_eq_true h1)).symm,trivial⟩)
   ·
    have h1:=of_decide_eq_false r1
    try simp only [ty] at h1
    refine aa ?_;refine gy ?_;(iterate 3 refine qy ?_);refine a6 ?_;refine ⟨i + 1, ?_, ?_, ?_⟩
    · exact ⟨by omega,da hI (decide_eq_false h1)⟩
    · first | omega | (dsimp only;omega)
    · exact ⟨⟨zy,c9,c9,trivial⟩,trivial⟩
  ·
   have h0:=of_decide_eq_false r0
   try simp only [ty] at h0
   refine au ?_;refine ⟨(), ?_, ?_⟩
   · exact xu (p:=fun x=>decide (x = s)) fun j hj=>hI j (by omega)
   · exact ⟨trivial,trivial⟩
 · rintro _ hj
   refine sx7 ?_;refine qy ?_;refine a6 ?_
   exact hx8 rfl rfl rfl (⟨cci hj.symm,trivial⟩)
theorem atc:aj Tryz.prog 79:=⟨Tryz.f79,Tryz.func79,by kernel_rfl,by kernel_rfl⟩
theorem aw6 (l:List ByteArray):ap Tryz.prog 79 [pP (i7 l)] (b4 [pB (xy l)]):=by
 refine ah (nt:=27) ae Tryz.func79 rfl rfl l9 ?_;refine j0 0 rfl (fun hn=>?_);refine sx7 ?_;refine qy ?_;refine a6 ?_
 refine db (ι:=Unit) ⟨[],[]⟩ ⟨trivial,trivial⟩ (fun _i=>⟨[],[]⟩) (fun _i=>xy l = true) ?_ ?_
 ·
  refine sx7 ?_;refine qy ?_;refine a6 ?_;refine af ?_
  refine av (ι:=Nat) ⟨[(0,some _)],[]⟩ ⟨⟨c9,trivial⟩,trivial⟩ (fun i=>⟨[(3,some (vI i))],[]⟩) (fun i=>i ≤ l.length ∧ ∀ j,j < i → mi l j = true) (fun i=>l.length - i) (0) (⟨Nat.zero_le _,dl⟩) ⟨⟨zy,trivial⟩,trivial⟩ ?_
  rintro i ⟨hi,hI⟩
  refine a7 ?_;refine sx7 ?_;(iterate 4 refine qy ?_);refine a6 ?_;refine a8 _ rfl (fun r0=>?_) (fun r0=>?_)
  ·
   have h0:=of_decide_eq_true r0
   try simp only [ty] at h0
   refine aa ?_;refine a7 ?_;refine af ?_;refine a7 ?_;refine ax (E:=aq) ae ak [0,1,2,3,4,5,6,7,8,9,10,11,12,13,14,15,16] ?_;(iterate 4 refine qy ?_)
   refine rc rfl rfl rfl rfl rfl rfl aib (aqw _) (CoL.refl _) rfl rfl ?_;(iterate 2 refine qy ?_);refine b5 rfl rfl (fun r1=>?_) (fun r1=>?_)
   ·
    have h1:=r1
    have h1:=be h1
    (iterate 9 refine k9 (gtf r1) ?_);refine rq rfl rfl rfl rfl rfl ?_ (hp:=r1);refine a6 ?_;refine ⟨by kernel_rfl, ?_⟩;refine a8 _ rfl (fun _=>?_) (fun e=>by cases e);refine sx7 ?_;refine qy ?_
    refine a6 ?_
    exact hx8 rfl rfl rfl (⟨ccb (go (i:=i) (by omega) (by first | (unfold mi;simp_all;done) | (unfold mi;rw [Bool.and_eq_false_iff];right;exact decide_eq_false (by omega)))).symm,trivial⟩)
   ·
    have h1:=r1
    have h1:=bf h1
    (iterate 7 refine qy ?_ (hg:=(gff r1)));refine rc rfl rfl rfl rfl rfl rfl apn (avp (l.take i) (l.getD i default)) (⟨CoC.one (a6v (k:=i) (by omega)),CoC.refl _,trivial⟩) rfl (gff r1) ?_
    refine qy ?_ (hg:=(gff r1));refine qy ?_;refine a6 ?_;refine ⟨by kernel_rfl, ?_⟩;refine a8 _ rfl (fun r2=>?_) (fun r2=>?_)
    ·
     have h2:=r2
     have h2:=bv r1 h2
     have h2:=of_decide_eq_true h2
     try simp only [ty] at h2
     refine sx7 ?_;refine qy ?_;refine a6 ?_
     exact hx8 rfl rfl rfl (⟨ccb (go (i:=i) (by omega) (by first | (unfold mi;simp_all;done) | (unfold mi;rw [Bool.and_eq_false_iff];right;exact decide_eq_false (by omega)))).symm,trivial⟩)
    ·
     have h2:=r2
     have h2:=bv r1 h2
     have h2:=of_decide_eq_false h2
     try simp only [ty] at h2
     refine aa ?_;refine gy ?_;(iterate 3 refine qy ?_);refine a6 ?_;refine ⟨i + 1, ?_, ?_, ?_⟩
     · exact ⟨by omega,da hI (by simp only [mi,Bool.and_eq_true,decide_eq_true_eq];exact ⟨by assumption,by omega⟩)⟩
     · first | omega | (dsimp only;omega)
     · exact ⟨⟨zy,c9,trivial⟩,trivial⟩
  ·
   have h0:=of_decide_eq_false r0
   try simp only [ty] at h0
   refine au ?_;refine ⟨(), ?_, ?_⟩
   · exact jf fun j hj=>hI j (by omega)
   · exact ⟨trivial,trivial⟩
 · rintro _ hj
   refine sx7 ?_;refine qy ?_;refine a6 ?_
   exact hx8 rfl rfl rfl (⟨ccb hj.symm,trivial⟩)
theorem agf:aj Tryz.prog 74:=⟨Tryz.f74,Tryz.func74,by kernel_rfl,by kernel_rfl⟩
theorem atd (s:ByteArray):ap Tryz.prog 74 [pS s] (b4 [pB (ib s)]):=by
 refine ah (nt:=58) ae Tryz.func74 rfl rfl l9 ?_;refine sx7 ?_;refine qy ?_;refine a6 ?_;refine a7 ?_;refine sx7 ?_;(iterate 3 refine qy ?_);refine b5 rfl rfl (fun r0=>?_) (fun r0=>?_)
 ·
  have h0:=of_decide_eq_true r0
  try simp only [ty] at h0
  (iterate 3 refine k9 (gtf r0) ?_);refine rq rfl rfl rfl rfl rfl ?_ (hp:=r0);refine qy ?_;(iterate 2 refine k9 rfl ?_);refine qy ?_;refine a6 ?_;refine a8 _ rfl (fun _=>?_) (fun e=>by cases e);refine sx7 ?_
  refine qy ?_;refine a6 ?_
  exact hx8 rfl rfl rfl (⟨ccb (by first | exact (pf (u6.2 (by assumption))).symm | exact (nj (by omega)).symm | exact (ly (by assumption)).symm),trivial⟩)
 ·
  have h0:=of_decide_eq_false r0
  try simp only [ty] at h0
  (iterate 3 refine qy ?_ (hg:=(gff r0)));(iterate 2 refine qy ?_);refine b5 rfl rfl (fun r1=>?_) (fun r1=>?_)
  ·
   have h1:=r1
   have h1:=bv r0 h1
   have h1:=of_decide_eq_true h1
   try simp only [ty] at h1
   (iterate 2 refine k9 (gtf r1) ?_);refine rq rfl rfl rfl rfl rfl ?_ (hp:=r1);refine a6 ?_;refine a8 _ rfl (fun _=>?_) (fun e=>by cases e);refine sx7 ?_;refine qy ?_;refine a6 ?_
   exact hx8 rfl rfl rfl (⟨ccb (by first | exact (pf (u6.2 (by assumption))).symm | exact (nj (by omega)).symm | exact (ly (by assumption)).symm),trivial⟩)
  ·
   have h1:=r1
   have h1:=bv r0 h1
   have h1:=of_decide_eq_false h1
   try simp only [ty] at h1
   (iterate 2 refine qy ?_ (hg:=(gff r1)));refine qy ?_;refine a6 ?_;refine a8 _ rfl (fun r2=>?_) (fun r2=>?_)
   ·
    have h2:=r2
    have h2:=bv r1 h2
    have h2:=of_decide_eq_true h2
    try simp only [ty] at h2
    refine sx7 ?_;refine qy ?_;refine a6 ?_
    exact hx8 rfl rfl rfl (⟨ccb (by first | exact (pf (u6.2 (by assumption))).symm | exact (nj (by omega)).symm | exact (ly (by assumption)).symm),trivial⟩)
   ·
    have h2:=r2
    have h2:=bv r1 h2
    have h2:=of_decide_eq_false h2
    try simp only [ty] at h2
    refine aa ?_;refine db (ι:=Unit) ⟨[],[]⟩ ⟨trivial,trivial⟩ (fun _i=>⟨[],[]⟩) (fun _i=>ib s = true) ?_ ?_
    ·
     refine sx7 ?_;(iterate 3 refine qy ?_);refine a6 ?_;refine af ?_
     refine av (ι:=Nat) ⟨[(0,some _),(18,some _)],[]⟩ ⟨⟨c9,c9,trivial⟩,trivial⟩ (fun i=>⟨[(19,some (vI i))],[]⟩) (fun i=>i ≤ s.size ∧ (∀ j,j < i → (ltr (cu s j) || dig (cu s j)) = true) ∧ (0 < i → ltr (cu s 0) = true)) (fun i=>s.size - i) (0) (⟨Nat.zero_le _,dl,fun h=>by omega⟩) ⟨⟨zy,trivial⟩,trivial⟩ ?_
     rintro i ⟨hi,hI,hz⟩
     refine sx7 ?_;refine qy ?_;refine a6 ?_;refine a7 ?_;refine a8 _ rfl (fun r3=>?_) (fun r3=>?_)
     ·
      have h3:=of_decide_eq_true r3
      try simp only [ty] at h3
      refine aa ?_;refine a7 ?_;refine af ?_;refine sx7 ?_;(iterate 2 refine qy ?_);refine a6 ?_;refine sx7 ?_;(iterate 4 refine qy ?_);refine a6 ?_
      refine db (ι:=Unit) ⟨[(0,some _),(3,some _),(4,some _),(18,some _),(19,some _)],[]⟩ ⟨⟨c9,c9,c9,c9,c9,trivial⟩,trivial⟩ (fun _i=>⟨[(5,some (vB (ltr (cu s i))))],[]⟩) (fun _i=>True) ?_ ?_
      ·
       refine gy ?_;(iterate 3 refine qy ?_);refine b5 rfl rfl (fun r4=>?_) (fun r4=>?_)
       ·
        have h4:=of_decide_eq_true r4
        try simp only [ty] at h4
        (iterate 2 refine qy ?_ (hg:=(gtt r4)));(iterate 2 refine qy ?_);refine b5 rfl rfl (fun r5=>?_) (fun r5=>?_)
        ·
         have h5:=r5
         have h5:=d4 r4 h5
         have h5:=of_decide_eq_true h5
         try simp only [ty] at h5
         (iterate 3 refine k9 (gtf r5) ?_);(iterate 2 refine k9 rfl ?_);refine k9 (gtf r5) ?_;refine rq rfl rfl rfl rfl rfl ?_ (hp:=r5);refine qy ?_;(iterate 2 refine k9 rfl ?_);(iterate 2 refine qy ?_)
         refine a6 ?_;refine ⟨(), ?_, ?_⟩
         · trivial
         · exact ⟨⟨⟨_,rfl,(cob (by simp [ltr, *]))⟩,c9,c9,c9,c9,c9,trivial⟩,trivial⟩
        ·
         have h5:=r5
         have h5:=d4 r4 h5
         have h5:=of_decide_eq_false h5
         try simp only [ty] at h5
         (iterate 3 refine qy ?_ (hg:=(gff r5)));refine b5 rfl rfl (fun r6=>?_) (fun r6=>?_)
         ·
          have h6:=of_decide_eq_true r6
          try simp only [ty] at h6
          (iterate 2 refine qy ?_ (hg:=(gtt r6)));refine qy ?_ (hg:=(gff r5));(iterate 2 refine qy ?_);refine b5 rfl rfl (fun r7=>?_) (fun r7=>?_)
          ·
           have h7:=r7
           have h7:=bv r5 h7
           have h7:=d4 r6 h7
           have h7:=of_decide_eq_true h7
           try simp only [ty] at h7
           (iterate 2 refine k9 (gtf r7) ?_);refine rq rfl rfl rfl rfl rfl ?_ (hp:=r7);refine qy ?_;refine a6 ?_;refine ⟨(), ?_, ?_⟩
           · trivial
           · exact ⟨⟨⟨_,rfl,(cob (by simp [ltr, *]))⟩,c9,c9,c9,c9,c9,trivial⟩,trivial⟩
          ·
           have h7:=r7
           have h7:=bv r5 h7
           have h7:=d4 r6 h7
           have h7:=of_decide_eq_false h7
           try simp only [ty] at h7
           (iterate 2 refine qy ?_ (hg:=(gff r7)));(iterate 2 refine qy ?_);refine a6 ?_;refine ⟨(), ?_, ?_⟩
           · trivial
           · exact ⟨⟨⟨_,rfl,(cob (by simp [ltr, *]))⟩,c9,c9,c9,c9,c9,trivial⟩,trivial⟩
         ·
          have h6:=of_decide_eq_false r6
          try simp only [ty] at h6
          (iterate 2 refine k9 (gft r6) ?_);refine rq rfl rfl rfl rfl (gff r5) ?_ (hp:=r6);(iterate 2 refine qy ?_);(iterate 2 refine rq rfl rfl rfl rfl (gff (a49 r5 rfl)) ?_);(iterate 2 refine qy ?_)
          refine a6 ?_;refine ⟨(), ?_, ?_⟩
          · trivial
          · exact ⟨⟨⟨_,rfl,(cob (by simp [ltr, *]))⟩,c9,c9,c9,c9,c9,trivial⟩,trivial⟩
       ·
        have h4:=of_decide_eq_false r4
        try simp only [ty] at h4
        (iterate 2 refine k9 (gft r4) ?_);refine rq rfl rfl rfl rfl rfl ?_ (hp:=r4);(iterate 4 refine qy ?_);refine b5 rfl rfl (fun r8=>?_) (fun r8=>?_)
        ·
         have h8:=of_decide_eq_true r8
         try simp only [ty] at h8
         (iterate 2 refine qy ?_ (hg:=(gtt r8)));(iterate 3 refine qy ?_);refine b5 rfl rfl (fun r9=>?_) (fun r9=>?_)
         ·
          have h9:=r9
          have h9:=d4 r8 h9
          have h9:=of_decide_eq_true h9
          try simp only [ty] at h9
          (iterate 2 refine k9 (gtf r9) ?_);refine rq rfl rfl rfl rfl rfl ?_ (hp:=r9);refine qy ?_;refine a6 ?_;refine ⟨(), ?_, ?_⟩
          · trivial
          · exact ⟨⟨⟨_,rfl,(cob (by simp [ltr, *]))⟩,c9,c9,c9,c9,c9,trivial⟩,trivial⟩
         ·
          have h9:=r9
          have h9:=d4 r8 h9
          have h9:=of_decide_eq_false h9
          try simp only [ty] at h9
          (iterate 2 refine qy ?_ (hg:=(gff r9)));(iterate 2 refine qy ?_);refine a6 ?_;refine ⟨(), ?_, ?_⟩
          · trivial
          · exact ⟨⟨⟨_,rfl,(cob (by simp [ltr, *]))⟩,c9,c9,c9,c9,c9,trivial⟩,trivial⟩
        ·
         have h8:=of_decide_eq_false r8
         try simp only [ty] at h8
         (iterate 2 refine k9 (gft r8) ?_);refine rq rfl rfl rfl rfl rfl ?_ (hp:=r8);(iterate 2 refine qy ?_);(iterate 2 refine rq rfl rfl rfl rfl (gff (a49 rfl rfl)) ?_);(iterate 2 refine qy ?_);refine a6 ?_
         refine ⟨(), ?_, ?_⟩
         · trivial
         · exact ⟨⟨⟨_,rfl,(cob (by simp [ltr, *]))⟩,c9,c9,c9,c9,c9,trivial⟩,trivial⟩
      · rintro _ _
        refine sx7 ?_;(iterate 3 refine qy ?_);refine b5 rfl rfl (fun r10=>?_) (fun r10=>?_)
        ·
         have h10:=r10
         have h10:=be h10
         (iterate 3 refine qy ?_ (hg:=(gtt r10)));refine b5 rfl rfl (fun r11=>?_) (fun r11=>?_)
         ·
          have h11:=of_decide_eq_true r11
          try simp only [ty] at h11
          (iterate 2 refine k9 (gtf r11) ?_);refine rq rfl rfl rfl rfl (gtt r10) ?_ (hp:=r11);refine qy ?_ (hg:=(gtt r10));(iterate 2 refine k9 rfl ?_);refine qy ?_ (hg:=(gtt r10));refine qy ?_;refine a6 ?_
          refine a8 _ rfl (fun _=>?_) (fun e=>Bool.noConfusion ((x4 r10 rfl).symm.trans e));refine sx7 ?_;refine qy ?_;refine a6 ?_
          exact hx8 rfl rfl rfl (⟨ccb (by first | exact (zm (i:=i) (by assumption) (by assumption)).symm | exact (qp (i:=i) (by omega) (by assumption) (by simp [dig, *] <;> omega)).symm),trivial⟩)
         ·
          have h11:=of_decide_eq_false r11
          try simp only [ty] at h11
          (iterate 2 refine qy ?_ (hg:=(gff r11)));(iterate 2 refine qy ?_ (hg:=(gtt r10)));refine b5 rfl rfl (fun r12=>?_) (fun r12=>?_)
          ·
           have h12:=r12
           have h12:=bv r11 h12
           have h12:=of_decide_eq_true h12
           try simp only [ty] at h12
           (iterate 2 refine k9 (gtf r12) ?_);refine rq rfl rfl rfl rfl (gtt r10) ?_ (hp:=r12);refine qy ?_;refine a6 ?_
           refine a8 _ rfl (fun _=>?_) (fun e=>Bool.noConfusion ((x4 r10 rfl).symm.trans e));refine sx7 ?_;refine qy ?_;refine a6 ?_
           exact hx8 rfl rfl rfl (⟨ccb (by first | exact (zm (i:=i) (by assumption) (by assumption)).symm | exact (qp (i:=i) (by omega) (by assumption) (by simp [dig, *] <;> omega)).symm),trivial⟩)
          ·
           have h12:=r12
           have h12:=bv r11 h12
           have h12:=of_decide_eq_false h12
           try simp only [ty] at h12
           (iterate 2 refine qy ?_ (hg:=(gff r12)));refine qy ?_ (hg:=(gtt r10));refine qy ?_;refine a6 ?_;refine a8 _ rfl (fun r13=>?_) (fun r13=>?_)
           ·
            have h13:=r13
            have h13:=d4 r10 h13
            have h13:=bv r12 h13
            have h13:=of_decide_eq_true h13
            try simp only [ty] at h13
            refine sx7 ?_;refine qy ?_;refine a6 ?_
            exact hx8 rfl rfl rfl (⟨ccb (by first | exact (zm (i:=i) (by assumption) (by assumption)).symm | exact (qp (i:=i) (by omega) (by assumption) (by simp [dig, *] <;> omega)).symm),trivial⟩)
           ·
            have h13:=r13
            have h13:=d4 r10 h13
            have h13:=bv r12 h13
            have h13:=of_decide_eq_false h13
            try simp only [ty] at h13
            refine aa ?_;refine gy ?_;(iterate 2 refine qy ?_);refine a6 ?_;refine ⟨i + 1, ?_, ?_, ?_⟩
            · exact ⟨by omega,da hI (by simp_all [dig] <;> omega),fun _=>aqf hz (fun e=>by first | assumption | (exfalso;omega))⟩
            · first | omega | (dsimp only;omega)
            · exact ⟨⟨zy,c9,c9,trivial⟩,trivial⟩
        ·
         have h10:=r10
         have h10:=bf h10
         (iterate 3 refine k9 (gft r10) ?_);(iterate 2 refine k9 rfl ?_);(iterate 2 refine k9 (gft r10) ?_);(iterate 2 refine k9 rfl ?_);refine k9 (gft r10) ?_;refine rq rfl rfl rfl rfl rfl ?_ (hp:=r10)
         refine a6 ?_;refine a8 _ rfl (fun e=>by cases e) (fun _=>?_);refine aa ?_;refine gy ?_;(iterate 2 refine qy ?_);refine a6 ?_;refine ⟨i + 1, ?_, ?_, ?_⟩
         · exact ⟨by omega,da hI (by simp_all [dig] <;> omega),fun _=>aqf hz (fun e=>by first | assumption | (exfalso;omega))⟩
         · first | omega | (dsimp only;omega)
         · exact ⟨⟨zy,c9,c9,trivial⟩,trivial⟩
     ·
      have h3:=of_decide_eq_false r3
      try simp only [ty] at h3
      refine au ?_;refine ⟨(), ?_, ?_⟩
      · exact ag8 (fun e=>absurd ((u6 (s:=s)).1 e) (by assumption)) (by omega) (hz (Nat.pos_of_ne_zero (fun e=>absurd ((u6 (s:=s)).1 (by omega)) (by assumption)))) (by assumption) (fun j hj=>hI j (by omega))
      · exact ⟨trivial,trivial⟩
    · rintro _ hj
      refine sx7 ?_;refine qy ?_;refine a6 ?_
      exact hx8 rfl rfl rfl (⟨ccb hj.symm,trivial⟩)
theorem ann:aj Tryz.prog 112:=⟨Tryz.f112,Tryz.func112,by kernel_rfl,by kernel_rfl⟩
theorem aw4 (l:List ByteArray) (s:ByteArray):ap Tryz.prog 112 [pP (i7 l),pS s] (b4 [pI (a6w l s)]):=by
 refine ah (nt:=19) ae Tryz.func112 rfl rfl l9 ?_;refine j0 0 rfl (fun hn=>?_);refine sx7 ?_;refine qy ?_;refine a6 ?_
 refine db (ι:=Unit) ⟨[],[]⟩ ⟨trivial,trivial⟩ (fun _i=>⟨[],[]⟩) (fun _i=>a6w l s = -1) ?_ ?_
 ·
  refine sx7 ?_;(iterate 3 refine qy ?_);refine a6 ?_;refine af ?_
  refine av (ι:=Nat) ⟨[(0,some _),(1,some _),(7,some _)],[]⟩ ⟨⟨c9,c9,c9,trivial⟩,trivial⟩ (fun i=>⟨[(8,some (vI i))],[]⟩) (fun i=>i ≤ l.length ∧ ∀ j,j < i → decide (l.getD j default = s) = false) (fun i=>l.length - i) (0) (⟨Nat.zero_le _,dl⟩) ⟨⟨zy,trivial⟩,trivial⟩ ?_
  rintro i ⟨hi,hI⟩
  refine sx7 ?_;refine qy ?_;refine a6 ?_;refine a7 ?_;refine a8 _ rfl (fun r0=>?_) (fun r0=>?_)
  ·
   have h0:=of_decide_eq_true r0
   try simp only [ty] at h0
   refine aa ?_;refine a7 ?_;refine af ?_;refine sx7 ?_;(iterate 2 refine qy ?_);refine a6 ?_;refine sx7 ?_;(iterate 6 refine qy ?_);refine a6 ?_;refine a8 _ rfl (fun r1=>?_) (fun r1=>?_)
   ·
    have h1:=of_decide_eq_true r1
    try simp only [ty] at h1
    refine sx7 ?_;(iterate 2 refine qy ?_);refine a6 ?_
    exact hx8 rfl rfl rfl (⟨cci (ya (p:=fun x=>decide (x = s)) (i:=i) (by omega) hI (decide_eq_true h1.symm)).symm,trivial⟩)
   ·
    have h1:=of_decide_eq_false r1
    try simp only [ty] at h1
    refine aa ?_;refine gy ?_;(iterate 2 refine qy ?_);refine a6 ?_;refine ⟨i + 1, ?_, ?_, ?_⟩
    · exact ⟨by omega,da hI (decide_eq_false fun e=>h1 e.symm)⟩
    · first | omega | (dsimp only;omega)
    · exact ⟨⟨zy,c9,c9,c9,trivial⟩,trivial⟩
  ·
   have h0:=of_decide_eq_false r0
   try simp only [ty] at h0
   refine au ?_;refine ⟨(), ?_, ?_⟩
   · exact xu (p:=fun x=>decide (x = s)) fun j hj=>hI j (by omega)
   · exact ⟨trivial,trivial⟩
 · rintro _ hj
   refine sx7 ?_;refine qy ?_;refine a6 ?_
   exact hx8 rfl rfl rfl (⟨cci hj.symm,trivial⟩)
theorem asn:aj Tryz.prog 75:=⟨Tryz.f75,Tryz.func75,by kernel_rfl,by kernel_rfl⟩
theorem av5 (l:List ByteArray) (s:ByteArray):ap Tryz.prog 75 [pP (i7 l),pS s] (b4 [pB (decide (0 ≤ a6w l s))]):=by
 refine ah (nt:=9) ae Tryz.func75 rfl rfl l9 ?_;refine sx7 ?_;refine qy ?_;refine a6 ?_;refine sx7 ?_;(iterate 2 refine qy ?_);refine rc rfl rfl rfl rfl rfl rfl ann (aw4 _ _) (CoL.refl _) rfl rfl ?_
 (iterate 2 refine qy ?_);refine a6 ?_
 exact hx8 rfl rfl rfl (CoL.refl _)
theorem aoo:aj Tryz.prog 146:=⟨Tryz.f146,Tryz.func146,by kernel_rfl,by kernel_rfl⟩
theorem aw1 (l:List Val) (g k:Nat) (caps:Nat → PV) (V:Val → Bool) (hg:aj Tryz.prog g) (hV:∀ i,i < l.length → ap Tryz.prog g ((l.getD i default).pc :: oi caps k 0) (b4 [pB (V (l.getD i default))])):ap Tryz.prog 146 [pP (vals l),pP (.fn g k caps)] (b4 [pI (idx V l)]):=by
 refine ah (nt:=19) ae Tryz.func146 rfl rfl l9 ?_;refine j0 0 rfl (fun hn=>?_);refine sx7 ?_;refine qy ?_;refine a6 ?_
 refine db (ι:=Unit) ⟨[],[]⟩ ⟨trivial,trivial⟩ (fun _i=>⟨[],[]⟩) (fun _i=>idx V l = -1) ?_ ?_
 ·
  refine sx7 ?_;(iterate 3 refine qy ?_);refine a6 ?_;refine af ?_
  refine av (ι:=Nat) ⟨[(0,some _),(1,some _),(7,some _)],[]⟩ ⟨⟨c9,c9,c9,trivial⟩,trivial⟩ (fun i=>⟨[(8,some (vI i))],[]⟩) (fun i=>i ≤ l.length ∧ ∀ j,j < i → V (l.getD j default) = false) (fun i=>l.length - i) (0) (⟨Nat.zero_le _,dl⟩) ⟨⟨zy,trivial⟩,trivial⟩ ?_
  rintro i ⟨hi,hI⟩
  refine sx7 ?_;refine qy ?_;refine a6 ?_;refine a7 ?_;refine a8 _ rfl (fun r0=>?_) (fun r0=>?_)
  ·
   have h0:=of_decide_eq_true r0
   try simp only [ty] at h0
   refine aa ?_;refine a7 ?_;refine af ?_;refine sx7 ?_;(iterate 2 refine qy ?_);refine a6 ?_;refine sx7 ?_;(iterate 5 refine qy ?_)
   refine rc rfl rfl rfl rfl rfl rfl hg (hV i (by omega)) (CoL.refl _) rfl rfl ?_;refine a6 ?_;refine a8 _ rfl (fun r1=>?_) (fun r1=>?_)
   ·
    have h1:=r1
    refine sx7 ?_;(iterate 2 refine qy ?_);refine a6 ?_
    exact hx8 rfl rfl rfl (⟨cci (ya (i:=i) (by omega) hI h1).symm,trivial⟩)
   ·
    have h1:=r1
    refine aa ?_;refine gy ?_;(iterate 2 refine qy ?_);refine a6 ?_;refine ⟨i + 1, ?_, ?_, ?_⟩
    · exact ⟨by omega,da hI (h1)⟩
    · first | omega | (dsimp only;omega)
    · exact ⟨⟨zy,c9,c9,c9,trivial⟩,trivial⟩
  ·
   have h0:=of_decide_eq_false r0
   try simp only [ty] at h0
   refine au ?_;refine ⟨(), ?_, ?_⟩
   · exact xu fun j hj=>hI j (by omega)
   · exact ⟨trivial,trivial⟩
 · rintro _ hj
   refine sx7 ?_;refine qy ?_;refine a6 ?_
   exact hx8 rfl rfl rfl (⟨cci hj.symm,trivial⟩)
theorem aou:aj Tryz.prog 104:=⟨Tryz.f104,Tryz.func104,by kernel_rfl,by kernel_rfl⟩
theorem c91 (l:List Row) (g k:Nat) (caps:Nat → PV) (V:Row → Bool) (hg:aj Tryz.prog g) (hV:∀ i,i < l.length → ap Tryz.prog g ((l.getD i default).pc :: oi caps k 0) (b4 [pB (V (l.getD i default))])):ap Tryz.prog 104 [pP (rows l),pP (.fn g k caps)] (b4 [pI (idx V l)]):=by
 refine ah (nt:=19) ae Tryz.func104 rfl rfl l9 ?_;refine j0 0 rfl (fun hn=>?_);refine sx7 ?_;refine qy ?_;refine a6 ?_
 refine db (ι:=Unit) ⟨[],[]⟩ ⟨trivial,trivial⟩ (fun _i=>⟨[],[]⟩) (fun _i=>idx V l = -1) ?_ ?_
 ·
  refine sx7 ?_;(iterate 3 refine qy ?_);refine a6 ?_;refine af ?_
  refine av (ι:=Nat) ⟨[(0,some _),(1,some _),(7,some _)],[]⟩ ⟨⟨c9,c9,c9,trivial⟩,trivial⟩ (fun i=>⟨[(8,some (vI i))],[]⟩) (fun i=>i ≤ l.length ∧ ∀ j,j < i → V (l.getD j default) = false) (fun i=>l.length - i) (0) (⟨Nat.zero_le _,dl⟩) ⟨⟨zy,trivial⟩,trivial⟩ ?_
  rintro i ⟨hi,hI⟩
  refine sx7 ?_;refine qy ?_;refine a6 ?_;refine a7 ?_;refine a8 _ rfl (fun r0=>?_) (fun r0=>?_)
  ·
   have h0:=of_decide_eq_true r0
   try simp only [ty] at h0
   refine aa ?_;refine a7 ?_;refine af ?_;refine sx7 ?_;(iterate 2 refine qy ?_);refine a6 ?_;refine sx7 ?_;(iterate 5 refine qy ?_)
   refine rc rfl rfl rfl rfl rfl rfl hg (hV i (by omega)) (CoL.refl _) rfl rfl ?_;refine a6 ?_;refine a8 _ rfl (fun r1=>?_) (fun r1=>?_)
   ·
    have h1:=r1
    refine sx7 ?_;(iterate 2 refine qy ?_);refine a6 ?_
    exact hx8 rfl rfl rfl (⟨cci (ya (i:=i) (by omega) hI h1).symm,trivial⟩)
   ·
    have h1:=r1
    refine aa ?_;refine gy ?_;(iterate 2 refine qy ?_);refine a6 ?_;refine ⟨i + 1, ?_, ?_, ?_⟩
    · exact ⟨by omega,da hI (h1)⟩
    · first | omega | (dsimp only;omega)
    · exact ⟨⟨zy,c9,c9,c9,trivial⟩,trivial⟩
  ·
   have h0:=of_decide_eq_false r0
   try simp only [ty] at h0
   refine au ?_;refine ⟨(), ?_, ?_⟩
   · exact xu fun j hj=>hI j (by omega)
   · exact ⟨trivial,trivial⟩
 · rintro _ hj
   refine sx7 ?_;refine qy ?_;refine a6 ?_
   exact hx8 rfl rfl rfl (⟨cci hj.symm,trivial⟩)
theorem ana:aj Tryz.prog 113:=⟨Tryz.f113,Tryz.func113,by kernel_rfl,by kernel_rfl⟩
theorem aw0 (l:List Val) (g k:Nat) (caps:Nat → PV) (V:Val → Bool) (hg:aj Tryz.prog g) (hV:∀ i,i < l.length → ap Tryz.prog g ((l.getD i default).pc :: oi caps k 0) (b4 [pB (V (l.getD i default))])):ap Tryz.prog 113 [pP (vals l),pP (.fn g k caps)] (b4 [pB (l.any V)]):=by
 refine ah (nt:=9) ae Tryz.func113 rfl rfl l9 ?_;refine sx7 ?_;refine qy ?_;refine a6 ?_;refine sx7 ?_;(iterate 2 refine qy ?_)
 refine rc rfl rfl rfl rfl rfl rfl aoo (aw1 l g k caps V hg hV) (CoL.refl _) rfl rfl ?_;(iterate 2 refine qy ?_);refine a6 ?_
 exact hx8 rfl rfl rfl (⟨ccb adt,trivial⟩)
theorem apw:aj Tryz.prog 114:=⟨Tryz.f114,Tryz.func114,by kernel_rfl,by kernel_rfl⟩
theorem avu (v:Val):ap Tryz.prog 114 [v.pc] (b4 [pB (!dg v)]):=by
 refine ah (nt:=6) ae Tryz.func114 rfl rfl l9 ?_;refine sx7 ?_;refine m9 0 ?_;refine qy ?_;refine a6 ?_;refine sx7 ?_;refine qy ?_;refine rc rfl rfl rfl rfl rfl rfl aed (c76 _) (CoL.refl _) rfl rfl ?_
 (iterate 2 refine qy ?_);refine a6 ?_
 exact hx8 rfl rfl rfl (CoL.refl _)
theorem aja:aj Tryz.prog 76:=⟨Tryz.f76,Tryz.func76,by kernel_rfl,by kernel_rfl⟩
theorem c93 (l:List Val):ap Tryz.prog 76 [pP (vals l)] (b4 [pB (l.all dg)]):=by
 refine ah (nt:=6) ae Tryz.func76 rfl rfl l9 ?_;refine sx7 ?_;refine qy ?_;refine a6 ?_;refine sx7 ?_;refine qy ?_
 refine rc rfl rfl rfl rfl rfl rfl ana (aw0 l 114 0 (fun _=>.any) (fun v=>!dg v) apw (fun i _=>avu _)) (CoL.refl _) rfl rfl ?_;(iterate 2 refine qy ?_);refine a6 ?_
 exact hx8 rfl rfl rfl (⟨ccb acz,trivial⟩)
end Go.Hx
end

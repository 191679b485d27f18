/- A part of the proof: W3 W4. -/
import Derived.Test.YtdcdbghdgjlhhaaGreatOx16
set_option linter.all false
set_option maxRecDepth 100000
set_option maxHeartbeats 1000000
namespace Go.Hx
section
open Go.Proofs
theorem a7h:am Tryz.prog 113:=wgx Tryz.func113
theorem ag1 (c:Int):ay Tryz.prog 113 [pU c] (bu [pB (ltr c)]):=by
 refine av (nt:=21) a8 Tryz.func113 rfl rfl l9 ?_;refine w_9 ?_;refine bo rfl rfl (fun r0=>?_) (fun r0=>?_)
 ·
  have h0:=ae r0
  try simp only [ty] at h0
  (iterate 2 refine qy ?_ (hg:=(gtt r0)));refine w_2 ?_;refine bo rfl rfl (fun r1=>?_) (fun r1=>?_)
  ·
   have h1:=r1
   have h1:=dm r0 h1
   have h1:=ae h1
   try simp only [ty] at h1
   (iterate 3 refine k9 (gtf r1) ?_);(iterate 2 refine k9 rfl ?_);refine k9 (gtf r1) ?_;refine rq rfl rfl rfl rfl rfl ?_ (hp:=r1);refine qy ?_;(iterate 2 refine k9 rfl ?_);refine w_3 ?_
   exact hx8 rfl rfl rfl (⟨ccb (by simp [ltr, *]),trivial⟩)
  have h1:=r1
  have h1:=dm r0 h1
  have h1:=aa h1
  try simp only [ty] at h1
  (iterate 3 refine qy ?_ (hg:=(gff r1)));refine bo rfl rfl (fun r2=>?_) (fun r2=>?_)
  ·
   have h2:=ae r2
   try simp only [ty] at h2
   (iterate 2 refine qy ?_ (hg:=(gtt r2)));refine qy ?_ (hg:=(gff r1));refine w_2 ?_;refine bo rfl rfl (fun r3=>?_) (fun r3=>?_)
   ·
    have h3:=r3
    have h3:=bw r1 h3
    have h3:=dm r2 h3
    have h3:=ae h3
    try simp only [ty] at h3
    (iterate 2 refine k9 (gtf r3) ?_);refine rq rfl rfl rfl rfl rfl ?_ (hp:=r3);refine w_2 ?_
    exact hx8 rfl rfl rfl (⟨ccb (by simp [ltr, *]),trivial⟩)
   have h3:=r3
   have h3:=bw r1 h3
   have h3:=dm r2 h3
   have h3:=aa h3
   try simp only [ty] at h3
   (iterate 2 refine qy ?_ (hg:=(gff r3)));refine w_3 ?_
   exact hx8 rfl rfl rfl (⟨ccb (by simp [ltr, *]),trivial⟩)
  have h2:=aa r2
  try simp only [ty] at h2
  (iterate 2 refine k9 (gft r2) ?_);refine rq rfl rfl rfl rfl (gff r1) ?_ (hp:=r2);refine w_2 ?_;(iterate 2 refine rq rfl rfl rfl rfl (gff (b9 r1 rfl)) ?_);refine w_3 ?_
  exact hx8 rfl rfl rfl (⟨ccb (by simp [ltr, *]),trivial⟩)
 have h0:=aa r0
 try simp only [ty] at h0
 (iterate 2 refine k9 (gft r0) ?_);refine rq rfl rfl rfl rfl rfl ?_ (hp:=r0);refine w_4 ?_;refine bo rfl rfl (fun r4=>?_) (fun r4=>?_)
 ·
  have h4:=ae r4
  try simp only [ty] at h4
  (iterate 2 refine qy ?_ (hg:=(gtt r4)));refine w_3 ?_;refine bo rfl rfl (fun r5=>?_) (fun r5=>?_)
  ·
   have h5:=r5
   have h5:=dm r4 h5
   have h5:=ae h5
   try simp only [ty] at h5
   (iterate 2 refine k9 (gtf r5) ?_);refine rq rfl rfl rfl rfl rfl ?_ (hp:=r5);refine w_2 ?_
   exact hx8 rfl rfl rfl (⟨ccb (by simp [ltr, *]),trivial⟩)
  have h5:=r5
  have h5:=dm r4 h5
  have h5:=aa h5
  try simp only [ty] at h5
  (iterate 2 refine qy ?_ (hg:=(gff r5)));refine w_3 ?_
  exact hx8 rfl rfl rfl (⟨ccb (by simp [ltr, *]),trivial⟩)
 have h4:=aa r4
 try simp only [ty] at h4
 (iterate 2 refine k9 (gft r4) ?_);refine rq rfl rfl rfl rfl rfl ?_ (hp:=r4);refine w_2 ?_;(iterate 2 refine rq rfl rfl rfl rfl (gff (b9 rfl rfl)) ?_);refine w_3 ?_
 exact hx8 rfl rfl rfl (⟨ccb (by simp [ltr, *]),trivial⟩)
theorem a7j:am Tryz.prog 102:=wgx Tryz.func102
theorem aft (s:ByteArray):ay Tryz.prog 102 [pS s] (bu [pB (ib s)]):=by
 refine av (nt:=45) a8 Tryz.func102 rfl rfl l9 ?_;refine qc ?_;refine bo rfl rfl (fun r0=>?_) (fun r0=>?_)
 ·
  have h0:=ae r0
  try simp only [ty] at h0
  (iterate 3 refine k9 (gtf r0) ?_);refine rq rfl rfl rfl rfl rfl ?_ (hp:=r0);refine qy ?_;(iterate 4 refine k9 rfl ?_);refine w_2 ?_;(iterate 2 refine k9 rfl ?_);refine w_2 ?_
  refine a7 _ rfl (fun _=>?_) (fun e=>by cases e);refine w_4 ?_
  exact hx8 rfl rfl rfl (⟨ccb (by first | exact (oj (by omega)).symm | exact (ml (by omega)).symm | exact (so (by assumption)).symm | exact (kx (by assumption)).symm),trivial⟩)
 have h0:=aa r0
 try simp only [ty] at h0
 (iterate 3 refine qy ?_ (hg:=(gff r0)));refine w_2 ?_;refine bo rfl rfl (fun r1=>?_) (fun r1=>?_)
 ·
  have h1:=r1
  have h1:=bw r0 h1
  have h1:=ae h1
  try simp only [ty] at h1
  (iterate 4 refine k9 (gtf r1) ?_);refine rq rfl rfl rfl rfl rfl ?_ (hp:=r1);refine qy ?_;(iterate 2 refine k9 rfl ?_);refine w_2 ?_;refine a7 _ rfl (fun _=>?_) (fun e=>by cases e);refine w_4 ?_
  exact hx8 rfl rfl rfl (⟨ccb (by first | exact (oj (by omega)).symm | exact (ml (by omega)).symm | exact (so (by assumption)).symm | exact (kx (by assumption)).symm),trivial⟩)
 have h1:=r1
 have h1:=bw r0 h1
 have h1:=aa h1
 try simp only [ty] at h1
 (iterate 2 refine qy ?_ (hg:=(gff r1)));refine qcx a7h (ag1 _) ?_ (hg:=(gff r1));refine qy ?_ (hg:=(gff r1));refine w_2 ?_;refine bo rfl rfl (fun r2=>?_) (fun r2=>?_)
 ·
  have h2:=r2
  have h2:=bw r1 h2
  have h2:=b7 h2
  (iterate 2 refine k9 (gtf r2) ?_);refine rq rfl rfl rfl rfl rfl ?_ (hp:=r2);refine ca ?_;refine a7 _ rfl (fun _=>?_) (fun e=>by cases e);refine w_4 ?_
  exact hx8 rfl rfl rfl (⟨ccb (by first | exact (oj (by omega)).symm | exact (ml (by omega)).symm | exact (so (by assumption)).symm | exact (kx (by assumption)).symm),trivial⟩)
 have h2:=r2
 have h2:=bw r1 h2
 have h2:=b8 h2
 (iterate 2 refine qy ?_ (hg:=(gff r2)));refine w_2 ?_;refine a7 _ rfl (fun r3=>?_) (fun r3=>?_)
 ·
  have h3:=r3
  have h3:=bw r2 h3
  have h3:=ae h3
  try simp only [ty] at h3
  refine w_4 ?_
  exact hx8 rfl rfl rfl (⟨ccb (by first | exact (oj (by omega)).symm | exact (ml (by omega)).symm | exact (so (by assumption)).symm | exact (kx (by assumption)).symm),trivial⟩)
 have h3:=r3
 have h3:=bw r2 h3
 have h3:=aa h3
 try simp only [ty] at h3
 refine ew ?_;refine df (ι:=Unit) ⟨[],[]⟩ ⟨trivial,trivial⟩ (fun _i=>⟨[],[]⟩) (fun _i=>ib s = true) ?_ ?_
 ·
  refine w_5 ?_
  refine az (ι:=Nat) ⟨[(0,some _)],[]⟩ ⟨⟨c9,trivial⟩,trivial⟩ (fun i=>⟨[(3,some (vI i))],[]⟩) (fun i=>i ≤ s.size ∧ ∀ j,j < i → (ltr (da s j) || dig (da s j)) = true) (fun i=>s.size - i) (0) (⟨Nat.zero_le _,dy⟩) ⟨⟨zy,trivial⟩,trivial⟩ ?_
  rintro i ⟨hi,hI⟩
  refine w_8 ?_;refine a7 _ rfl (fun r4=>?_) (fun r4=>?_)
  ·
   have h4:=ae r4
   try simp only [ty] at h4
   refine w_8 ?_;refine qcx a7h (ag1 _) ?_;refine w_2 ?_;refine bo rfl rfl (fun r5=>?_) (fun r5=>?_)
   ·
    have h5:=r5
    have h5:=b7 h5
    (iterate 5 refine qy ?_ (hg:=(gtt r5)));refine bo rfl rfl (fun r6=>?_) (fun r6=>?_)
    ·
     have h6:=ae r6
     try simp only [ty] at h6
     (iterate 4 refine k9 (gtf r6) ?_);refine rq rfl rfl rfl rfl (gtt r5) ?_ (hp:=r6);refine w_2 ?_;refine a7 _ rfl (fun _=>?_) (fun e=>Bool.noConfusion ((lz r5 rfl).symm.trans e));refine w_4 ?_
     exact hx8 rfl rfl rfl (⟨ccb (p9 (i:=i) (by omega) (by assumption) (by simp_all [dig] <;> omega)).symm,trivial⟩)
    have h6:=aa r6
    try simp only [ty] at h6
    (iterate 4 refine qy ?_ (hg:=(gff r6)));refine qy ?_ (hg:=(gtt r5));refine w_2 ?_;refine a7 _ rfl (fun r7=>?_) (fun r7=>?_)
    ·
     have h7:=r7
     have h7:=dm r5 h7
     have h7:=bw r6 h7
     have h7:=ae h7
     try simp only [ty] at h7
     refine w_4 ?_
     exact hx8 rfl rfl rfl (⟨ccb (p9 (i:=i) (by omega) (by assumption) (by simp_all [dig] <;> omega)).symm,trivial⟩)
    have h7:=r7
    have h7:=dm r5 h7
    have h7:=bw r6 h7
    have h7:=aa h7
    try simp only [ty] at h7
    refine w_6 ?_;refine ⟨i + 1, ?_, ?_, ?_⟩
    · exact ⟨by omega,dr hI (by simp_all [dig] <;> omega)⟩
    · first | omega | (dsimp only;omega)
    exact ⟨⟨zy,c9,trivial⟩,trivial⟩
   have h5:=r5
   have h5:=b8 h5
   (iterate 5 refine k9 (gft r5) ?_);(iterate 4 refine k9 rfl ?_);refine k9 (gft r5) ?_;refine rq rfl rfl rfl rfl rfl ?_ (hp:=r5);refine ca ?_;refine a7 _ rfl (fun e=>by cases e) (fun _=>?_);refine w_6 ?_
   refine ⟨i + 1, ?_, ?_, ?_⟩
   · exact ⟨by omega,dr hI (by simp_all [dig] <;> omega)⟩
   · first | omega | (dsimp only;omega)
   exact ⟨⟨zy,c9,trivial⟩,trivial⟩
  have h4:=aa r4
  try simp only [ty] at h4
  refine cw ?_;refine ⟨(), ?_, ?_⟩
  · exact abc (by omega) (by omega) (by assumption) (by assumption) (fun j hj=>hI j (by omega))
  exact ⟨trivial,trivial⟩
 rintro _ hj
 refine w_4 ?_
 exact hx8 rfl rfl rfl (⟨ccb hj.symm,trivial⟩)
theorem ae2:am Tryz.prog 114:=wgx Tryz.func114
theorem aid (l:List ByteArray) (s:ByteArray):ay Tryz.prog 114 [pP (it l),pS s] (bu [pI (a37 l s)]):=by
 refine av (nt:=19) a8 Tryz.func114 rfl rfl l9 ?_;refine jw 0 rfl (fun hn=>?_);refine w_4 ?_;refine df (ι:=Unit) ⟨[],[]⟩ ⟨trivial,trivial⟩ (fun _i=>⟨[],[]⟩) (fun _i=>a37 l s = -1) ?_ ?_
 ·
  refine w_5 ?_
  refine az (ι:=Nat) ⟨[(0,some _),(1,some _)],[]⟩ ⟨⟨c9,c9,trivial⟩,trivial⟩ (fun i=>⟨[(5,some (vI i))],[]⟩) (fun i=>i ≤ l.length ∧ ∀ j,j < i → decide (l.getD j default = s) = false) (fun i=>l.length - i) (0) (⟨Nat.zero_le _,dy⟩) ⟨⟨zy,trivial⟩,trivial⟩ ?_
  rintro i ⟨hi,hI⟩
  refine w_8 ?_;refine a7 _ rfl (fun r0=>?_) (fun r0=>?_)
  ·
   have h0:=ae r0
   try simp only [ty] at h0
   refine gk ?_;refine a7 _ rfl (fun r1=>?_) (fun r1=>?_)
   ·
    have h1:=ae r1
    try simp only [ty] at h1
    refine w_5 ?_
    exact hx8 rfl rfl rfl (⟨cci (vu (p:=fun x=>decide (x = s)) (i:=i) (by omega) hI (decide_eq_true h1)).symm,trivial⟩)
   have h1:=aa r1
   try simp only [ty] at h1
   refine w_6 ?_;refine ⟨i + 1, ?_, ?_, ?_⟩
   · exact ⟨by omega,dr hI (decide_eq_false h1)⟩
   · first | omega | (dsimp only;omega)
   exact ⟨⟨zy,c9,c9,trivial⟩,trivial⟩
  have h0:=aa r0
  try simp only [ty] at h0
  refine cw ?_;refine ⟨(), ?_, ?_⟩
  · exact tf (p:=fun x=>decide (x = s)) fun j hj=>hI j (by omega)
  exact ⟨trivial,trivial⟩
 rintro _ hj
 refine w_4 ?_
 exact hx8 rfl rfl rfl (⟨cci hj.symm,trivial⟩)
theorem aev:am Tryz.prog 103:=wgx Tryz.func103
theorem aj0 (l:List ByteArray):ay Tryz.prog 103 [pP (it l)] (bu [pB (wd l)]):=by
 refine av (nt:=27) a8 Tryz.func103 rfl rfl l9 ?_;refine jw 0 rfl (fun hn=>?_);refine w_4 ?_;refine df (ι:=Unit) ⟨[],[]⟩ ⟨trivial,trivial⟩ (fun _i=>⟨[],[]⟩) (fun _i=>wd l = true) ?_ ?_
 ·
  refine w_5 ?_
  refine az (ι:=Nat) ⟨[(0,some _)],[]⟩ ⟨⟨c9,trivial⟩,trivial⟩ (fun i=>⟨[(3,some (vI i))],[]⟩) (fun i=>i ≤ l.length ∧ ∀ j,j < i → ll l j = true) (fun i=>l.length - i) (0) (⟨Nat.zero_le _,dy⟩) ⟨⟨zy,trivial⟩,trivial⟩ ?_
  rintro i ⟨hi,hI⟩
  refine w_8 ?_;refine a7 _ rfl (fun r0=>?_) (fun r0=>?_)
  ·
   have h0:=ae r0
   try simp only [ty] at h0
   refine w_4 ?_;refine ap (E:=au) a8 ag [0,1,2,3,4,5,6,7,8,9,10,11,12,13,14,15,16] ?_;refine w_4 ?_;refine qcx a7j (aft _) ?_;refine w_2 ?_
   refine bo rfl rfl (fun r1=>?_) (fun r1=>?_)
   ·
    have h1:=r1
    have h1:=b7 h1
    (iterate 9 refine k9 (gtf r1) ?_);refine rq rfl rfl rfl rfl rfl ?_ (hp:=r1);refine ca ?_;refine ⟨by kernel_rfl, ?_⟩;refine a7 _ rfl (fun _=>?_) (fun e=>by cases e);refine w_4 ?_
    exact hx8 rfl rfl rfl (⟨ccb (mc (i:=i) (by omega) (by first | (unfold ll;simp_all;done) | (unfold ll;rw [Bool.and_eq_false_iff];right;exact decide_eq_false (by omega)))).symm,trivial⟩)
   have h1:=r1
   have h1:=b8 h1
   (iterate 7 refine qy ?_ (hg:=(gff r1)));refine rc rfl rfl rfl rfl rfl rfl ae2 (aid (l.take i) (l.getD i default)) (⟨CoC.one (a2w (k:=i) (by omega)),CoC.refl _,trivial⟩) rfl (gff r1) ?_
   refine qy ?_ (hg:=(gff r1));refine w_2 ?_;refine ⟨by kernel_rfl, ?_⟩;refine a7 _ rfl (fun r2=>?_) (fun r2=>?_)
   ·
    have h2:=r2
    have h2:=bw r1 h2
    have h2:=ae h2
    try simp only [ty] at h2
    refine w_4 ?_
    exact hx8 rfl rfl rfl (⟨ccb (mc (i:=i) (by omega) (by first | (unfold ll;simp_all;done) | (unfold ll;rw [Bool.and_eq_false_iff];right;exact decide_eq_false (by omega)))).symm,trivial⟩)
   have h2:=r2
   have h2:=bw r1 h2
   have h2:=aa h2
   try simp only [ty] at h2
   refine w_6 ?_;refine ⟨i + 1, ?_, ?_, ?_⟩
   · exact ⟨by omega,dr hI (by simp only [ll,Bool.and_eq_true,decide_eq_true_eq];exact ⟨by assumption,by omega⟩)⟩
   · first | omega | (dsimp only;omega)
   exact ⟨⟨zy,c9,trivial⟩,trivial⟩
  have h0:=aa r0
  try simp only [ty] at h0
  refine cw ?_;refine ⟨(), ?_, ?_⟩
  · exact uf fun j hj=>hI j (by omega)
  exact ⟨trivial,trivial⟩
 rintro _ hj
 refine w_4 ?_
 exact hx8 rfl rfl rfl (⟨ccb hj.symm,trivial⟩)
theorem a7n:am Tryz.prog 104:=wgx Tryz.func104
theorem afy (s:ByteArray):ay Tryz.prog 104 [pS s] (bu [pB (ib s)]):=by
 refine av (nt:=58) a8 Tryz.func104 rfl rfl l9 ?_;refine dz ?_;refine bo rfl rfl (fun r0=>?_) (fun r0=>?_)
 ·
  have h0:=ae r0
  try simp only [ty] at h0
  (iterate 3 refine k9 (gtf r0) ?_);refine rq rfl rfl rfl rfl rfl ?_ (hp:=r0);refine qy ?_;(iterate 2 refine k9 rfl ?_);refine w_2 ?_;refine a7 _ rfl (fun _=>?_) (fun e=>by cases e);refine w_4 ?_
  exact hx8 rfl rfl rfl (⟨ccb (by first | exact (oj (rj.2 (by assumption))).symm | exact (ml (by omega)).symm | exact (kx (by assumption)).symm),trivial⟩)
 have h0:=aa r0
 try simp only [ty] at h0
 (iterate 3 refine qy ?_ (hg:=(gff r0)));refine w_2 ?_;refine bo rfl rfl (fun r1=>?_) (fun r1=>?_)
 ·
  have h1:=r1
  have h1:=bw r0 h1
  have h1:=ae h1
  try simp only [ty] at h1
  (iterate 2 refine k9 (gtf r1) ?_);refine rq rfl rfl rfl rfl rfl ?_ (hp:=r1);refine ca ?_;refine a7 _ rfl (fun _=>?_) (fun e=>by cases e);refine w_4 ?_
  exact hx8 rfl rfl rfl (⟨ccb (by first | exact (oj (rj.2 (by assumption))).symm | exact (ml (by omega)).symm | exact (kx (by assumption)).symm),trivial⟩)
 have h1:=r1
 have h1:=bw r0 h1
 have h1:=aa h1
 try simp only [ty] at h1
 (iterate 2 refine qy ?_ (hg:=(gff r1)));refine w_2 ?_;refine a7 _ rfl (fun r2=>?_) (fun r2=>?_)
 ·
  have h2:=r2
  have h2:=bw r1 h2
  have h2:=ae h2
  try simp only [ty] at h2
  refine w_4 ?_
  exact hx8 rfl rfl rfl (⟨ccb (by first | exact (oj (rj.2 (by assumption))).symm | exact (ml (by omega)).symm | exact (kx (by assumption)).symm),trivial⟩)
 have h2:=r2
 have h2:=bw r1 h2
 have h2:=aa h2
 try simp only [ty] at h2
 refine ew ?_;refine df (ι:=Unit) ⟨[],[]⟩ ⟨trivial,trivial⟩ (fun _i=>⟨[],[]⟩) (fun _i=>ib s = true) ?_ ?_
 ·
  refine w_7 ?_
  refine az (ι:=Nat) ⟨[(0,some _),(18,some _)],[]⟩ ⟨⟨c9,c9,trivial⟩,trivial⟩ (fun i=>⟨[(19,some (vI i))],[]⟩) (fun i=>i ≤ s.size ∧ (∀ j,j < i → (ltr (da s j) || dig (da s j)) = true) ∧ (0 < i → ltr (da s 0) = true)) (fun i=>s.size - i) (0) (⟨Nat.zero_le _,dy,fun h=>by omega⟩) ⟨⟨zy,trivial⟩,trivial⟩ ?_
  rintro i ⟨hi,hI,hz⟩
  refine w_5 ?_;refine a7 _ rfl (fun r3=>?_) (fun r3=>?_)
  ·
   have h3:=ae r3
   try simp only [ty] at h3
   refine wk ?_
   refine df (ι:=Unit) ⟨[(0,some _),(3,some _),(4,some _),(18,some _),(19,some _)],[]⟩ ⟨⟨c9,c9,c9,c9,c9,trivial⟩,trivial⟩ (fun _i=>⟨[(5,some (vB (ltr (da s i))))],[]⟩) (fun _i=>True) ?_ ?_
   ·
    refine w_4 ?_;refine bo rfl rfl (fun r4=>?_) (fun r4=>?_)
    ·
     have h4:=ae r4
     try simp only [ty] at h4
     (iterate 2 refine qy ?_ (hg:=(gtt r4)));refine w_2 ?_;refine bo rfl rfl (fun r5=>?_) (fun r5=>?_)
     ·
      have h5:=r5
      have h5:=dm r4 h5
      have h5:=ae h5
      try simp only [ty] at h5
      (iterate 3 refine k9 (gtf r5) ?_);(iterate 2 refine k9 rfl ?_);refine k9 (gtf r5) ?_;refine rq rfl rfl rfl rfl rfl ?_ (hp:=r5);refine qy ?_;(iterate 2 refine k9 rfl ?_);refine w_3 ?_;refine ⟨(), ?_, ?_⟩
      · trivial
      exact ⟨⟨⟨_,rfl,(cob (by simp [ltr, *]))⟩,c9,c9,c9,c9,c9,trivial⟩,trivial⟩
     have h5:=r5
     have h5:=dm r4 h5
     have h5:=aa h5
     try simp only [ty] at h5
     (iterate 3 refine qy ?_ (hg:=(gff r5)));refine bo rfl rfl (fun r6=>?_) (fun r6=>?_)
     ·
      have h6:=ae r6
      try simp only [ty] at h6
      (iterate 2 refine qy ?_ (hg:=(gtt r6)));refine qy ?_ (hg:=(gff r5));refine w_2 ?_;refine bo rfl rfl (fun r7=>?_) (fun r7=>?_)
      ·
       have h7:=r7
       have h7:=bw r5 h7
       have h7:=dm r6 h7
       have h7:=ae h7
       try simp only [ty] at h7
       (iterate 2 refine k9 (gtf r7) ?_);refine rq rfl rfl rfl rfl rfl ?_ (hp:=r7);refine w_2 ?_;refine ⟨(), ?_, ?_⟩
       · trivial
       exact ⟨⟨⟨_,rfl,(cob (by simp [ltr, *]))⟩,c9,c9,c9,c9,c9,trivial⟩,trivial⟩
      have h7:=r7
      have h7:=bw r5 h7
      have h7:=dm r6 h7
      have h7:=aa h7
      try simp only [ty] at h7
      (iterate 2 refine qy ?_ (hg:=(gff r7)));refine w_3 ?_;refine ⟨(), ?_, ?_⟩
      · trivial
      exact ⟨⟨⟨_,rfl,(cob (by simp [ltr, *]))⟩,c9,c9,c9,c9,c9,trivial⟩,trivial⟩
     have h6:=aa r6
     try simp only [ty] at h6
     (iterate 2 refine k9 (gft r6) ?_);refine rq rfl rfl rfl rfl (gff r5) ?_ (hp:=r6);refine w_2 ?_;(iterate 2 refine rq rfl rfl rfl rfl (gff (b9 r5 rfl)) ?_);refine w_3 ?_;refine ⟨(), ?_, ?_⟩
     · trivial
     exact ⟨⟨⟨_,rfl,(cob (by simp [ltr, *]))⟩,c9,c9,c9,c9,c9,trivial⟩,trivial⟩
    have h4:=aa r4
    try simp only [ty] at h4
    (iterate 2 refine k9 (gft r4) ?_);refine rq rfl rfl rfl rfl rfl ?_ (hp:=r4);refine w_4 ?_;refine bo rfl rfl (fun r8=>?_) (fun r8=>?_)
    ·
     have h8:=ae r8
     try simp only [ty] at h8
     (iterate 2 refine qy ?_ (hg:=(gtt r8)));refine w_3 ?_;refine bo rfl rfl (fun r9=>?_) (fun r9=>?_)
     ·
      have h9:=r9
      have h9:=dm r8 h9
      have h9:=ae h9
      try simp only [ty] at h9
      (iterate 2 refine k9 (gtf r9) ?_);refine rq rfl rfl rfl rfl rfl ?_ (hp:=r9);refine w_2 ?_;refine ⟨(), ?_, ?_⟩
      · trivial
      exact ⟨⟨⟨_,rfl,(cob (by simp [ltr, *]))⟩,c9,c9,c9,c9,c9,trivial⟩,trivial⟩
     have h9:=r9
     have h9:=dm r8 h9
     have h9:=aa h9
     try simp only [ty] at h9
     (iterate 2 refine qy ?_ (hg:=(gff r9)));refine w_3 ?_;refine ⟨(), ?_, ?_⟩
     · trivial
     exact ⟨⟨⟨_,rfl,(cob (by simp [ltr, *]))⟩,c9,c9,c9,c9,c9,trivial⟩,trivial⟩
    have h8:=aa r8
    try simp only [ty] at h8
    (iterate 2 refine k9 (gft r8) ?_);refine rq rfl rfl rfl rfl rfl ?_ (hp:=r8);refine w_2 ?_;(iterate 2 refine rq rfl rfl rfl rfl (gff (b9 rfl rfl)) ?_);refine w_3 ?_;refine ⟨(), ?_, ?_⟩
    · trivial
    exact ⟨⟨⟨_,rfl,(cob (by simp [ltr, *]))⟩,c9,c9,c9,c9,c9,trivial⟩,trivial⟩
   rintro _ _
   refine w_5 ?_;refine bo rfl rfl (fun r10=>?_) (fun r10=>?_)
   ·
    have h10:=r10
    have h10:=b7 h10
    (iterate 3 refine qy ?_ (hg:=(gtt r10)));refine bo rfl rfl (fun r11=>?_) (fun r11=>?_)
    ·
     have h11:=ae r11
     try simp only [ty] at h11
     (iterate 2 refine k9 (gtf r11) ?_);refine rq rfl rfl rfl rfl (gtt r10) ?_ (hp:=r11);refine qy ?_ (hg:=(gtt r10));(iterate 2 refine k9 rfl ?_);refine qy ?_ (hg:=(gtt r10));refine w_2 ?_
     refine a7 _ rfl (fun _=>?_) (fun e=>Bool.noConfusion ((lz r10 rfl).symm.trans e));refine w_4 ?_
     exact hx8 rfl rfl rfl (⟨ccb (by first | exact (yn (i:=i) (by assumption) (by assumption)).symm | exact (p9 (i:=i) (by omega) (by assumption) (by simp [dig, *] <;> omega)).symm),trivial⟩)
    have h11:=aa r11
    try simp only [ty] at h11
    (iterate 2 refine qy ?_ (hg:=(gff r11)));(iterate 2 refine qy ?_ (hg:=(gtt r10)));refine bo rfl rfl (fun r12=>?_) (fun r12=>?_)
    ·
     have h12:=r12
     have h12:=bw r11 h12
     have h12:=ae h12
     try simp only [ty] at h12
     (iterate 2 refine k9 (gtf r12) ?_);refine rq rfl rfl rfl rfl (gtt r10) ?_ (hp:=r12);refine w_2 ?_;refine a7 _ rfl (fun _=>?_) (fun e=>Bool.noConfusion ((lz r10 rfl).symm.trans e));refine w_4 ?_
     exact hx8 rfl rfl rfl (⟨ccb (by first | exact (yn (i:=i) (by assumption) (by assumption)).symm | exact (p9 (i:=i) (by omega) (by assumption) (by simp [dig, *] <;> omega)).symm),trivial⟩)
    have h12:=r12
    have h12:=bw r11 h12
    have h12:=aa h12
    try simp only [ty] at h12
    (iterate 2 refine qy ?_ (hg:=(gff r12)));refine qy ?_ (hg:=(gtt r10));refine w_2 ?_;refine a7 _ rfl (fun r13=>?_) (fun r13=>?_)
    ·
     have h13:=r13
     have h13:=dm r10 h13
     have h13:=bw r12 h13
     have h13:=ae h13
     try simp only [ty] at h13
     refine w_4 ?_
     exact hx8 rfl rfl rfl (⟨ccb (by first | exact (yn (i:=i) (by assumption) (by assumption)).symm | exact (p9 (i:=i) (by omega) (by assumption) (by simp [dig, *] <;> omega)).symm),trivial⟩)
    have h13:=r13
    have h13:=dm r10 h13
    have h13:=bw r12 h13
    have h13:=aa h13
    try simp only [ty] at h13
    refine w_5 ?_;refine ⟨i + 1, ?_, ?_, ?_⟩
    · exact ⟨by omega,dr hI (by simp_all [dig] <;> omega),fun _=>afu hz (fun e=>by first | assumption | (exfalso;omega))⟩
    · first | omega | (dsimp only;omega)
    exact ⟨⟨zy,c9,c9,trivial⟩,trivial⟩
   have h10:=r10
   have h10:=b8 h10
   (iterate 3 refine k9 (gft r10) ?_);(iterate 2 refine k9 rfl ?_);(iterate 2 refine k9 (gft r10) ?_);(iterate 2 refine k9 rfl ?_);refine k9 (gft r10) ?_;refine rq rfl rfl rfl rfl rfl ?_ (hp:=r10);refine ca ?_
   refine a7 _ rfl (fun e=>by cases e) (fun _=>?_);refine w_5 ?_;refine ⟨i + 1, ?_, ?_, ?_⟩
   · exact ⟨by omega,dr hI (by simp_all [dig] <;> omega),fun _=>afu hz (fun e=>by first | assumption | (exfalso;omega))⟩
   · first | omega | (dsimp only;omega)
   exact ⟨⟨zy,c9,c9,trivial⟩,trivial⟩
  have h3:=aa r3
  try simp only [ty] at h3
  refine cw ?_;refine ⟨(), ?_, ?_⟩
  · exact abc (fun e=>absurd ((rj (s:=s)).1 e) (by assumption)) (by omega) (hz (Nat.pos_of_ne_zero (fun e=>absurd ((rj (s:=s)).1 (by omega)) (by assumption)))) (by assumption) (fun j hj=>hI j (by omega))
  exact ⟨trivial,trivial⟩
 rintro _ hj
 refine w_4 ?_
 exact hx8 rfl rfl rfl (⟨ccb hj.symm,trivial⟩)
theorem af1:am Tryz.prog 115:=wgx Tryz.func115
theorem aip (l:List ByteArray) (s:ByteArray):ay Tryz.prog 115 [pP (it l),pS s] (bu [pI (a37 l s)]):=by
 refine av (nt:=19) a8 Tryz.func115 rfl rfl l9 ?_;refine jw 0 rfl (fun hn=>?_);refine w_4 ?_;refine df (ι:=Unit) ⟨[],[]⟩ ⟨trivial,trivial⟩ (fun _i=>⟨[],[]⟩) (fun _i=>a37 l s = -1) ?_ ?_
 ·
  refine w_7 ?_
  refine az (ι:=Nat) ⟨[(0,some _),(1,some _),(7,some _)],[]⟩ ⟨⟨c9,c9,c9,trivial⟩,trivial⟩ (fun i=>⟨[(8,some (vI i))],[]⟩) (fun i=>i ≤ l.length ∧ ∀ j,j < i → decide (l.getD j default = s) = false) (fun i=>l.length - i) (0) (⟨Nat.zero_le _,dy⟩) ⟨⟨zy,trivial⟩,trivial⟩ ?_
  rintro i ⟨hi,hI⟩
  refine w_5 ?_;refine a7 _ rfl (fun r0=>?_) (fun r0=>?_)
  ·
   have h0:=ae r0
   try simp only [ty] at h0
   refine a3f ?_;refine a7 _ rfl (fun r1=>?_) (fun r1=>?_)
   ·
    have h1:=ae r1
    try simp only [ty] at h1
    refine w_5 ?_
    exact hx8 rfl rfl rfl (⟨cci (vu (p:=fun x=>decide (x = s)) (i:=i) (by omega) hI (decide_eq_true h1.symm)).symm,trivial⟩)
   have h1:=aa r1
   try simp only [ty] at h1
   refine w_5 ?_;refine ⟨i + 1, ?_, ?_, ?_⟩
   · exact ⟨by omega,dr hI (decide_eq_false fun e=>h1 e.symm)⟩
   · first | omega | (dsimp only;omega)
   exact ⟨⟨zy,c9,c9,c9,trivial⟩,trivial⟩
  have h0:=aa r0
  try simp only [ty] at h0
  refine cw ?_;refine ⟨(), ?_, ?_⟩
  · exact tf (p:=fun x=>decide (x = s)) fun j hj=>hI j (by omega)
  exact ⟨trivial,trivial⟩
 rintro _ hj
 refine w_4 ?_
 exact hx8 rfl rfl rfl (⟨cci hj.symm,trivial⟩)
theorem af0:am Tryz.prog 105:=wgx Tryz.func105
theorem aio (l:List ByteArray) (s:ByteArray):ay Tryz.prog 105 [pP (it l),pS s] (bu [pB (decide (0 ≤ a37 l s))]):=by
 refine av (nt:=9) a8 Tryz.func105 rfl rfl l9 ?_;refine w_8 ?_;refine qcx af1 (aip _ _) ?_;refine w_3 ?_
 exact hx8 rfl rfl rfl (CoL.refl _)
theorem aef:am Tryz.prog 116:=wgx Tryz.func116
theorem aj6 (l:List Val) (g k:Nat) (caps:Nat → PV) (V:Val → Bool) (hg:am Tryz.prog g) (hV:∀ i,i < l.length → ay Tryz.prog g ((l.getD i default).pc :: mb caps k 0) (bu [pB (V (l.getD i default))])):ay Tryz.prog 116 [pP (vals l),pP (.fn g k caps)] (bu [pI (idx V l)]):=by
 refine av (nt:=19) a8 Tryz.func116 rfl rfl l9 ?_;refine jw 0 rfl (fun hn=>?_);refine w_4 ?_;refine df (ι:=Unit) ⟨[],[]⟩ ⟨trivial,trivial⟩ (fun _i=>⟨[],[]⟩) (fun _i=>idx V l = -1) ?_ ?_
 ·
  refine w_7 ?_
  refine az (ι:=Nat) ⟨[(0,some _),(1,some _),(7,some _)],[]⟩ ⟨⟨c9,c9,c9,trivial⟩,trivial⟩ (fun i=>⟨[(8,some (vI i))],[]⟩) (fun i=>i ≤ l.length ∧ ∀ j,j < i → V (l.getD j default) = false) (fun i=>l.length - i) (0) (⟨Nat.zero_le _,dy⟩) ⟨⟨zy,trivial⟩,trivial⟩ ?_
  rintro i ⟨hi,hI⟩
  refine w_5 ?_;refine a7 _ rfl (fun r0=>?_) (fun r0=>?_)
  ·
   have h0:=ae r0
   try simp only [ty] at h0
   refine wk ?_;refine rc rfl rfl rfl rfl rfl rfl hg (hV i (by omega)) (CoL.refl _) rfl rfl ?_;refine ca ?_;refine a7 _ rfl (fun r1=>?_) (fun r1=>?_)
   ·
    have h1:=r1
    refine w_5 ?_
    exact hx8 rfl rfl rfl (⟨cci (vu (i:=i) (by omega) hI h1).symm,trivial⟩)
   have h1:=r1
   refine w_5 ?_;refine ⟨i + 1, ?_, ?_, ?_⟩
   · exact ⟨by omega,dr hI (h1)⟩
   · first | omega | (dsimp only;omega)
   exact ⟨⟨zy,c9,c9,c9,trivial⟩,trivial⟩
  have h0:=aa r0
  try simp only [ty] at h0
  refine cw ?_;refine ⟨(), ?_, ?_⟩
  · exact tf fun j hj=>hI j (by omega)
  exact ⟨trivial,trivial⟩
 rintro _ hj
 refine w_4 ?_
 exact hx8 rfl rfl rfl (⟨cci hj.symm,trivial⟩)
theorem afo:am Tryz.prog 91:=wgx Tryz.func91
theorem c91 (l:List Row) (g k:Nat) (caps:Nat → PV) (V:Row → Bool) (hg:am Tryz.prog g) (hV:∀ i,i < l.length → ay Tryz.prog g ((l.getD i default).pc :: mb caps k 0) (bu [pB (V (l.getD i default))])):ay Tryz.prog 91 [pP (rows l),pP (.fn g k caps)] (bu [pI (idx V l)]):=by
 refine av (nt:=19) a8 Tryz.func91 rfl rfl l9 ?_;refine jw 0 rfl (fun hn=>?_);refine w_4 ?_;refine df (ι:=Unit) ⟨[],[]⟩ ⟨trivial,trivial⟩ (fun _i=>⟨[],[]⟩) (fun _i=>idx V l = -1) ?_ ?_
 ·
  refine w_7 ?_
  refine az (ι:=Nat) ⟨[(0,some _),(1,some _),(7,some _)],[]⟩ ⟨⟨c9,c9,c9,trivial⟩,trivial⟩ (fun i=>⟨[(8,some (vI i))],[]⟩) (fun i=>i ≤ l.length ∧ ∀ j,j < i → V (l.getD j default) = false) (fun i=>l.length - i) (0) (⟨Nat.zero_le _,dy⟩) ⟨⟨zy,trivial⟩,trivial⟩ ?_
  rintro i ⟨hi,hI⟩
  refine w_5 ?_;refine a7 _ rfl (fun r0=>?_) (fun r0=>?_)
  ·
   have h0:=ae r0
   try simp only [ty] at h0
   refine wk ?_;refine rc rfl rfl rfl rfl rfl rfl hg (hV i (by omega)) (CoL.refl _) rfl rfl ?_;refine ca ?_;refine a7 _ rfl (fun r1=>?_) (fun r1=>?_)
   ·
    have h1:=r1
    refine w_5 ?_
    exact hx8 rfl rfl rfl (⟨cci (vu (i:=i) (by omega) hI h1).symm,trivial⟩)
   have h1:=r1
   refine w_5 ?_;refine ⟨i + 1, ?_, ?_, ?_⟩
   · exact ⟨by omega,dr hI (h1)⟩
   · first | omega | (dsimp only;omega)
   exact ⟨⟨zy,c9,c9,c9,trivial⟩,trivial⟩
  have h0:=aa r0
  try simp only [ty] at h0
  refine cw ?_;refine ⟨(), ?_, ?_⟩
  · exact tf fun j hj=>hI j (by omega)
  exact ⟨trivial,trivial⟩
 rintro _ hj
 refine w_4 ?_
 exact hx8 rfl rfl rfl (⟨cci hj.symm,trivial⟩)
theorem agl:am Tryz.prog 89:=wgx Tryz.func89
theorem c89 (l:List Tbl) (g k:Nat) (caps:Nat → PV) (V:Tbl → Bool) (hg:am Tryz.prog g) (hV:∀ i,i < l.length → ay Tryz.prog g ((l.getD i default).pc :: mb caps k 0) (bu [pB (V (l.getD i default))])):ay Tryz.prog 89 [pP (pw l),pP (.fn g k caps)] (bu [pI (idx V l)]):=by
 refine av (nt:=19) a8 Tryz.func89 rfl rfl l9 ?_;refine jw 0 rfl (fun hn=>?_);refine w_4 ?_;refine df (ι:=Unit) ⟨[],[]⟩ ⟨trivial,trivial⟩ (fun _i=>⟨[],[]⟩) (fun _i=>idx V l = -1) ?_ ?_
 ·
  refine w_7 ?_
  refine az (ι:=Nat) ⟨[(0,some _),(1,some _),(7,some _)],[]⟩ ⟨⟨c9,c9,c9,trivial⟩,trivial⟩ (fun i=>⟨[(8,some (vI i))],[]⟩) (fun i=>i ≤ l.length ∧ ∀ j,j < i → V (l.getD j default) = false) (fun i=>l.length - i) (0) (⟨Nat.zero_le _,dy⟩) ⟨⟨zy,trivial⟩,trivial⟩ ?_
  rintro i ⟨hi,hI⟩
  refine w_5 ?_;refine a7 _ rfl (fun r0=>?_) (fun r0=>?_)
  ·
   have h0:=ae r0
   try simp only [ty] at h0
   refine wk ?_;refine rc rfl rfl rfl rfl rfl rfl hg (hV i (by omega)) (CoL.refl _) rfl rfl ?_;refine ca ?_;refine a7 _ rfl (fun r1=>?_) (fun r1=>?_)
   ·
    have h1:=r1
    refine w_5 ?_
    exact hx8 rfl rfl rfl (⟨cci (vu (i:=i) (by omega) hI h1).symm,trivial⟩)
   have h1:=r1
   refine w_5 ?_;refine ⟨i + 1, ?_, ?_, ?_⟩
   · exact ⟨by omega,dr hI (h1)⟩
   · first | omega | (dsimp only;omega)
   exact ⟨⟨zy,c9,c9,c9,trivial⟩,trivial⟩
  have h0:=aa r0
  try simp only [ty] at h0
  refine cw ?_;refine ⟨(), ?_, ?_⟩
  · exact tf fun j hj=>hI j (by omega)
  exact ⟨trivial,trivial⟩
 rintro _ hj
 refine w_4 ?_
 exact hx8 rfl rfl rfl (⟨cci hj.symm,trivial⟩)
theorem aen:am Tryz.prog 106:=wgx Tryz.func106
theorem ain (l:List Val) (g k:Nat) (caps:Nat → PV) (V:Val → Bool) (hg:am Tryz.prog g) (hV:∀ i,i < l.length → ay Tryz.prog g ((l.getD i default).pc :: mb caps k 0) (bu [pB (V (l.getD i default))])):ay Tryz.prog 106 [pP (vals l),pP (.fn g k caps)] (bu [pB (l.any V)]):=by
 refine av (nt:=9) a8 Tryz.func106 rfl rfl l9 ?_;refine w_8 ?_;refine qcx aef (aj6 l g k caps V hg hV) ?_;refine w_3 ?_
 exact hx8 rfl rfl rfl (⟨ccb a7x,trivial⟩)
theorem aei:am Tryz.prog 107:=wgx Tryz.func107
theorem ai6 (v:Val):ay Tryz.prog 107 [v.pc] (bu [pB (!d5 v)]):=by
 refine av (nt:=6) a8 Tryz.func107 rfl rfl l9 ?_;refine sx7 ?_;refine m9 0 ?_;refine w_5 ?_;refine qcx a5k (c76 _) ?_;refine w_3 ?_
 exact hx8 rfl rfl rfl (CoL.refl _)
theorem abl:am Tryz.prog 93:=wgx Tryz.func93
theorem c93 (l:List Val):ay Tryz.prog 93 [pP (vals l)] (bu [pB (l.all d5)]):=by
 refine av (nt:=6) a8 Tryz.func93 rfl rfl l9 ?_;refine w_7 ?_;refine qcx aen (ain l 107 0 (fun _=>.any) (fun v=>!d5 v) aei (fun i _=>ai6 _)) ?_;refine w_3 ?_
 exact hx8 rfl rfl rfl (⟨ccb a6p,trivial⟩)
end
section
open Go.Proofs
abbrev vpL (ps:List PV):PV:=.vp ps.length fun j=>ps.getD j .any
theorem rE {n:Nat} {l:List Row} {i:Nat} {b e:Int} (hi:i < l.length) (h:ek n b (l.drop i) = e):(if (l.getD i default).id ≤ b then 1 else if (l.getD i default).vals.length ≠ n then 6 else if ((l.getD i default).vals.all d5) = false then 1 else ek n (l.getD i default).id (l.drop (i + 1))) = e:=by rw [← a4i hi];exact h
theorem tE {t:Tbl} {e:Int} (h0:ib t.name = true) (h1:¬ 16 < t.attrs.length) (h2:¬ 1000 < t.rows.length) (h3:wd t.attrs = true) (h:ek t.attrs.length 0 t.rows = e):cz t = e:=by
 have:¬ (16 < t.attrs.length ∨ 1000 < t.rows.length):=by omega
 simp [cz,h0,h3,h,this]
theorem tE1 {t:Tbl} (h0:ib t.name = false):cz t = 1:=by simp [cz,h0]
theorem tE3 {t:Tbl} (h0:ib t.name = true) (h1:16 < t.attrs.length ∨ 1000 < t.rows.length):cz t = 3:=by simp [cz,h0,h1]
theorem tE2 {t:Tbl} (h0:ib t.name = true) (h1:¬ 16 < t.attrs.length) (h2:¬ 1000 < t.rows.length) (h3:wd t.attrs = false):cz t = 1:=by
 have:¬ (16 < t.attrs.length ∨ 1000 < t.rows.length):=by omega
 simp [cz,h0,h3,this]
theorem afk:am Tryz.prog 92:=wgx Tryz.func92
theorem c92 (r:Row) (id:Int):ay Tryz.prog 92 [r.pc,pP (vpL [.raw (.int .i64 id)])] (bu [pB (decide (r.id = id))]):=by
 refine av (nt:=8) a8 Tryz.func92 rfl rfl l9 ?_;refine sx7 ?_;refine m9 0 ?_;refine dz ?_
 exact hx8 rfl rfl rfl (CoL.refl _)
theorem xx:am Tryz.prog 68:=wgx Tryz.func68
theorem c68 (t:Tbl) (id:Int):ay Tryz.prog 68 [t.pc,pI id] (bu [pI (max (aj t.rows id) 0),pB (decide (0 ≤ aj t.rows id))]):=by
 refine av (nt:=15) a8 Tryz.func68 rfl rfl l9 ?_;refine sx7 ?_;refine m9 0 ?_;refine m9 1 ?_;refine w_4 ?_;refine qa 3 rfl rfl rfl ?_;refine w_4 ?_
 refine qcx afo (c91 t.rows 92 1 (fun j=>[vpL [PV.raw (.int .i64 id)]].getD j .any) (fun r=>decide (r.id = id)) afk (fun i _=>c92 _ _)) ?_;refine qc ?_
 exact hx8 rfl rfl rfl (⟨cci (by show (if idx _ _ < 0 then _ else _) = _;unfold aj;split <;> omega),CoC.refl _,trivial⟩)
theorem aga:am Tryz.prog 90:=wgx Tryz.func90
theorem c90 (t:Tbl) (s:ByteArray):ay Tryz.prog 90 [t.pc,pP (vpL [.raw (.string s)])] (bu [pB (decide (t.name = s))]):=by
 refine av (nt:=8) a8 Tryz.func90 rfl rfl l9 ?_;refine sx7 ?_;refine m9 0 ?_;refine dz ?_
 exact hx8 rfl rfl rfl (CoL.refl _)
theorem a5r:am Tryz.prog 67:=wgx Tryz.func67
theorem c67 (d:DB) (s:ByteArray):ay Tryz.prog 67 [lq d,pS s] (bu [pI (bv d s)]):=by
 refine av (nt:=9) a8 Tryz.func67 rfl rfl l9 ?_;refine sx7 ?_;refine m9 0 ?_;refine m9 1 ?_;refine w_3 ?_;refine qa 3 rfl rfl rfl ?_;refine w_4 ?_
 refine qcx agl (c89 d 90 1 (fun j=>[vpL [PV.raw (.string s)]].getD j .any) (fun t=>decide (t.name = s)) aga (fun i _=>c90 _ _)) ?_;refine w_2 ?_
 exact hx8 rfl rfl rfl (CoL.refl _)
theorem sb:am Tryz.prog 62:=wgx Tryz.func62
theorem c62 (t:Tbl) (id:Int):ay Tryz.prog 62 [t.pc,pI id] (bu [pI (max (aj t.rows id) 0),pB (decide (0 ≤ aj t.rows id))]):=by
 refine av (nt:=23) a8 Tryz.func62 rfl rfl l9 ?_;refine sx7 ?_;refine m9 0 ?_;refine w_3 ?_;refine df (ι:=Unit) ⟨[],[]⟩ ⟨trivial,trivial⟩ (fun _i=>⟨[],[]⟩) (fun _i=>aj t.rows id = -1) ?_ ?_
 ·
  refine i5 ?_;refine wv 0 2 rfl rfl (fun hn=>?_);refine w_4 ?_
  refine az (ι:=Nat) ⟨[(1,some _),(2,some _)],[(0,some _)]⟩ ⟨⟨c9,c9,trivial⟩,⟨u9,trivial⟩⟩ (fun i=>⟨[(6,some (vI i))],[]⟩) (fun i=>i ≤ t.rows.length ∧ ∀ j,j < i → decide ((t.rows.getD j default).id = id) = false) (fun i=>t.rows.length - i) (0) (⟨Nat.zero_le _,dy⟩) ⟨⟨zy,trivial⟩,trivial⟩ ?_
  rintro i ⟨hi,hI⟩
  refine w_9 ?_;refine a7 _ rfl (fun r0=>?_) (fun r0=>?_)
  ·
   have h0:=ae r0
   try simp only [ty] at h0
   refine qb ?_;refine a7 _ rfl (fun r1=>?_) (fun r1=>?_)
   ·
    have h1:=ae r1
    try simp only [ty] at h1
    refine w_7 ?_;refine ⟨.inr rfl, ?_⟩
    have hx:aj t.rows id = i:=vu (p:=fun r:Row=>decide (r.id = id)) (i:=i) (by omega) hI (decide_eq_true h1)
    exact f9 rfl rfl (⟨cci (by omega),ccb (by simp [hx]),trivial⟩)
   have h1:=aa r1
   try simp only [ty] at h1
   refine w_6 ?_;refine ⟨i + 1, ?_, ?_, ?_⟩
   · exact ⟨by omega,dr hI (decide_eq_false h1)⟩
   · first | omega | (dsimp only;omega)
   exact ⟨⟨zy,c9,c9,trivial⟩,⟨u9,trivial⟩⟩
  have h0:=aa r0
  try simp only [ty] at h0
  refine cw ?_;refine ⟨(), ?_, ?_⟩
  · exact tf (p:=fun r:Row=>decide (r.id = id)) fun j hj=>hI j (by omega)
  exact ⟨trivial,trivial⟩
 rintro _ hj
 refine w_5 ?_
 exact hx8 rfl rfl rfl (⟨cci (by omega),ccb (by simp [hj]),trivial⟩)
theorem xq:am Tryz.prog 60:=wgx Tryz.func60
theorem c60 (d:DB) (s:ByteArray):ay Tryz.prog 60 [lq d,pS s] (bu [pI (bv d s)]):=by
 refine av (nt:=22) a8 Tryz.func60 rfl rfl l9 ?_;refine sx7 ?_;refine m9 0 ?_;refine w_2 ?_;refine df (ι:=Unit) ⟨[],[]⟩ ⟨trivial,trivial⟩ (fun _i=>⟨[],[]⟩) (fun _i=>bv d s = -1) ?_ ?_
 ·
  refine i5 ?_;refine wv 0 0 rfl rfl (fun hn=>?_);refine w_4 ?_
  refine az (ι:=Nat) ⟨[(1,some _),(2,some _)],[(0,some _)]⟩ ⟨⟨c9,c9,trivial⟩,⟨u9,trivial⟩⟩ (fun i=>⟨[(5,some (vI i))],[]⟩) (fun i=>i ≤ d.length ∧ ∀ j,j < i → decide ((d.getD j default).name = s) = false) (fun i=>d.length - i) (0) (⟨Nat.zero_le _,dy⟩) ⟨⟨zy,trivial⟩,trivial⟩ ?_
  rintro i ⟨hi,hI⟩
  refine w_9 ?_;refine a7 _ rfl (fun r0=>?_) (fun r0=>?_)
  ·
   have h0:=ae r0
   try simp only [ty] at h0
   refine qb ?_;refine a7 _ rfl (fun r1=>?_) (fun r1=>?_)
   ·
    have h1:=ae r1
    try simp only [ty] at h1
    refine w_5 ?_
    exact hx8 rfl rfl rfl (⟨cci (vu (p:=fun t:Tbl=>decide (t.name = s)) (i:=i) (by omega) hI (decide_eq_true h1)).symm,trivial⟩)
   have h1:=aa r1
   try simp only [ty] at h1
   refine w_6 ?_;refine ⟨i + 1, ?_, ?_, ?_⟩
   · exact ⟨by omega,dr hI (decide_eq_false h1)⟩
   · first | omega | (dsimp only;omega)
   exact ⟨⟨zy,c9,c9,trivial⟩,⟨u9,trivial⟩⟩
  have h0:=aa r0
  try simp only [ty] at h0
  refine cw ?_;refine ⟨(), ?_, ?_⟩
  · exact tf (p:=fun t:Tbl=>decide (t.name = s)) fun j hj=>hI j (by omega)
  exact ⟨trivial,trivial⟩
 rintro _ hj
 refine w_4 ?_
 exact hx8 rfl rfl rfl (⟨cci hj.symm,trivial⟩)
theorem a1s:am Tryz.prog 82:=wgx Tryz.func82
theorem c82 (t:Tbl):ay Tryz.prog 82 [t.pc] (bu [pI (cz t)]):=by
 refine av (nt:=53) a8 Tryz.func82 rfl rfl l9 ?_;refine sx7 ?_;refine m9 0 ?_;refine w_7 ?_;refine qcx a7j (aft _) ?_;refine w_2 ?_;refine a7 _ rfl (fun r0=>?_) (fun r0=>?_)
 ·
  have h0:=r0
  have h0:=b7 h0
  refine w_4 ?_
  exact hx8 rfl rfl rfl (⟨cci (tE1 (by assumption)).symm,trivial⟩)
 have h0:=r0
 have h0:=b8 h0
 refine w_9 ?_;refine bo rfl rfl (fun r1=>?_) (fun r1=>?_)
 ·
  have h1:=ae r1
  try simp only [ty] at h1
  (iterate 4 refine k9 (gtf r1) ?_);refine rq rfl rfl rfl rfl rfl ?_ (hp:=r1);refine ca ?_;refine a7 _ rfl (fun _=>?_) (fun e=>by cases e);refine w_4 ?_
  exact hx8 rfl rfl rfl (⟨cci (tE3 (by assumption) (by omega)).symm,trivial⟩)
 have h1:=aa r1
 try simp only [ty] at h1
 (iterate 4 refine qy ?_ (hg:=(gff r1)));refine w_2 ?_;refine a7 _ rfl (fun r2=>?_) (fun r2=>?_)
 ·
  have h2:=r2
  have h2:=bw r1 h2
  have h2:=ae h2
  try simp only [ty] at h2
  refine w_4 ?_
  exact hx8 rfl rfl rfl (⟨cci (tE3 (by assumption) (by omega)).symm,trivial⟩)
 have h2:=r2
 have h2:=bw r1 h2
 have h2:=aa h2
 try simp only [ty] at h2
 refine w_6 ?_;refine qcx aev (aj0 _) ?_;refine w_2 ?_;refine a7 _ rfl (fun r3=>?_) (fun r3=>?_)
 ·
  have h3:=r3
  have h3:=b7 h3
  refine w_4 ?_
  exact hx8 rfl rfl rfl (⟨cci (tE2 (by assumption) (by omega) (by omega) (by assumption)).symm,trivial⟩)
 have h3:=r3
 have h3:=b8 h3
 refine w_5 ?_;refine df (ι:=Unit) ⟨[],[]⟩ ⟨trivial,trivial⟩ (fun _i=>⟨[],[]⟩) (fun _i=>ek t.attrs.length 0 t.rows = 0) ?_ ?_
 ·
  refine w_5 ?_
  refine az (ι:=(Nat × Int)) ⟨[(1,some _)],[(0,some _)]⟩ ⟨⟨c9,trivial⟩,⟨u9,trivial⟩⟩ (fun x=>⟨[(3,some (vI x.2)),(4,some (vI x.1))],[]⟩) (fun x=>x.1 ≤ t.rows.length ∧ ek t.attrs.length x.2 (t.rows.drop x.1) = ek t.attrs.length 0 t.rows) (fun x=>t.rows.length - x.1) ((0,0)) (⟨Nat.zero_le _,rfl⟩) ⟨⟨zy,zy,trivial⟩,trivial⟩ ?_
  rintro ⟨i,b⟩ ⟨hi,hI⟩
  dsimp only at hi hI ⊢
  refine w_9 ?_;refine a7 _ rfl (fun r4=>?_) (fun r4=>?_)
  ·
   have h4:=ae r4
   try simp only [ty] at h4
   refine dz ?_;refine m9 1 ?_;refine dz ?_;refine a7 _ rfl (fun r5=>?_) (fun r5=>?_)
   ·
    have h5:=ae r5
    try simp only [ty] at h5
    refine w_5 ?_;refine ⟨.inr rfl, ?_⟩
    have hs:=rE (by omega) hI
    rw [if_pos (by omega)] at hs
    exact f9 rfl rfl (⟨cci (tE (by assumption) (by omega) (by omega) (by assumption) hs.symm).symm,trivial⟩)
   have h5:=aa r5
   try simp only [ty] at h5
   refine wt ?_;refine a7 _ rfl (fun r6=>?_) (fun r6=>?_)
   ·
    have h6:=r6
    have h6:=aa (b7 h6)
    try simp only [ty] at h6
    refine w_5 ?_;refine ⟨.inr rfl, ?_⟩
    have hs:=rE (by omega) hI
    rw [if_neg (by omega),if_pos (by omega)] at hs
    exact f9 rfl rfl (⟨cci (tE (by assumption) (by omega) (by omega) (by assumption) hs.symm).symm,trivial⟩)
   have h6:=r6
   have h6:=ae (b8 h6)
   try simp only [ty] at h6
   refine w_5 ?_;refine qcx a9u (c83 _) ?_;refine w_2 ?_;refine a7 _ rfl (fun r7=>?_) (fun r7=>?_)
   ·
    have h7:=r7
    have h7:=b7 h7
    refine w_5 ?_;refine ⟨.inr rfl, ?_⟩
    have hs:=rE (by omega) hI
    rw [if_neg (by omega),if_neg (by omega),if_pos (by assumption)] at hs
    exact f9 rfl rfl (⟨cci (tE (by assumption) (by omega) (by omega) (by assumption) hs.symm).symm,trivial⟩)
   have h7:=r7
   have h7:=b8 h7
   refine w_6 ?_;refine ⟨(i + 1,(t.rows.getD i default).id), ?_, ?_, ?_⟩
   · refine ⟨by dsimp only;omega, ?_⟩
     have hs:=rE (by omega) hI
     rw [if_neg (by omega),if_neg (by omega),if_neg (fun e=>Bool.noConfusion (e.symm.trans (show _ = true by assumption)))] at hs
     exact hs
   · first | omega | (dsimp only;omega)
   exact ⟨⟨zy,zy,c9,trivial⟩,⟨u9,trivial⟩⟩
  have h4:=aa r4
  try simp only [ty] at h4
  refine cw ?_;refine ⟨(), ?_, ?_⟩
  · rw [← hI,List.drop_eq_nil_of_le (by omega)];rfl
  exact ⟨trivial,trivial⟩
 rintro _ hj
 refine w_4 ?_
 exact hx8 rfl rfl rfl (⟨cci (tE (by assumption) (by omega) (by omega) (by assumption) hj).symm,trivial⟩)
theorem a2d:am Tryz.prog 88:=wgx Tryz.func88
theorem c88 (t:Tbl):ay Tryz.prog 88 [t.pc] (bu [pI (cz t)]):=by
 refine av (nt:=70) a8 Tryz.func88 rfl rfl l9 ?_;refine sx7 ?_;refine m9 0 ?_;refine w_7 ?_;refine qcx a7n (afy _) ?_;refine w_2 ?_;refine a7 _ rfl (fun r0=>?_) (fun r0=>?_)
 ·
  have h0:=r0
  have h0:=b7 h0
  refine w_4 ?_
  exact hx8 rfl rfl rfl (⟨cci (tE1 (by assumption)).symm,trivial⟩)
 have h0:=r0
 have h0:=b8 h0
 refine w_9 ?_;refine bo rfl rfl (fun r1=>?_) (fun r1=>?_)
 ·
  have h1:=ae r1
  try simp only [ty] at h1
  (iterate 4 refine k9 (gtf r1) ?_);refine rq rfl rfl rfl rfl rfl ?_ (hp:=r1);refine ca ?_;refine a7 _ rfl (fun _=>?_) (fun e=>by cases e);refine w_4 ?_
  exact hx8 rfl rfl rfl (⟨cci (tE3 (by assumption) (by omega)).symm,trivial⟩)
 have h1:=aa r1
 try simp only [ty] at h1
 (iterate 4 refine qy ?_ (hg:=(gff r1)));refine w_2 ?_;refine a7 _ rfl (fun r2=>?_) (fun r2=>?_)
 ·
  have h2:=r2
  have h2:=bw r1 h2
  have h2:=ae h2
  try simp only [ty] at h2
  refine w_4 ?_
  exact hx8 rfl rfl rfl (⟨cci (tE3 (by assumption) (by omega)).symm,trivial⟩)
 have h2:=r2
 have h2:=bw r1 h2
 have h2:=aa h2
 try simp only [ty] at h2
 refine ew ?_;refine df (ι:=Unit) ⟨[(1,some _)],[(0,some _)]⟩ ⟨⟨c9,trivial⟩,⟨u9,trivial⟩⟩ (fun _i=>⟨[],[]⟩) (fun _i=>wd t.attrs = true) ?_ ?_
 ·
  refine w_8 ?_
  refine az (ι:=Nat) ⟨[(1,some _),(23,some _),(24,some _)],[(0,some _)]⟩ ⟨⟨c9,c9,c9,trivial⟩,⟨u9,trivial⟩⟩ (fun i=>⟨[(25,some (vI i))],[]⟩) (fun i=>i ≤ t.attrs.length ∧ ∀ j,j < i → ll t.attrs j = true) (fun i=>t.attrs.length - i) (0) (⟨Nat.zero_le _,dy⟩) ⟨⟨zy,trivial⟩,trivial⟩ ?_
  rintro i ⟨hi,hI⟩
  refine w_5 ?_;refine a7 _ rfl (fun r3=>?_) (fun r3=>?_)
  ·
   have h3:=ae r3
   try simp only [ty] at h3
   refine qb ?_;refine qcx a7n (afy _) ?_;refine w_2 ?_;refine bo rfl rfl (fun r4=>?_) (fun r4=>?_)
   ·
    have h4:=r4
    have h4:=b7 h4
    (iterate 6 refine k9 (gtf r4) ?_);refine rq rfl rfl rfl rfl rfl ?_ (hp:=r4);refine ca ?_;refine a7 _ rfl (fun _=>?_) (fun e=>by cases e);refine w_4 ?_
    exact hx8 rfl rfl rfl (⟨cci (tE2 (by assumption) (by omega) (by omega) (mc (i:=i) (by omega) (by first | (unfold ll;simp_all;done) | (unfold ll;rw [Bool.and_eq_false_iff];right;exact decide_eq_false (by omega))))).symm,trivial⟩)
   have h4:=r4
   have h4:=b8 h4
   (iterate 5 refine qy ?_ (hg:=(gff r4)));refine rc rfl rfl rfl rfl rfl rfl af0 (aio (t.attrs.take i) (t.attrs.getD i default)) (⟨CoC.one (a2w (k:=i) (by omega)),CoC.refl _,trivial⟩) rfl (gff r4) ?_
   refine w_2 ?_;refine a7 _ rfl (fun r5=>?_) (fun r5=>?_)
   ·
    have h5:=r5
    have h5:=bw r4 h5
    refine w_4 ?_
    exact hx8 rfl rfl rfl (⟨cci (tE2 (by assumption) (by omega) (by omega) (mc (i:=i) (by omega) (by first | (unfold ll;simp_all;done) | (unfold ll;rw [Bool.and_eq_false_iff];right;exact decide_eq_false (by omega))))).symm,trivial⟩)
   have h5:=r5
   have h5:=bw r4 h5
   have hM:=aa h5
   refine w_5 ?_;refine ⟨i + 1, ?_, ?_, ?_⟩
   · exact ⟨by omega,dr hI (by simp only [ll,Bool.and_eq_true,decide_eq_true_eq];exact ⟨by assumption,by simp_all⟩)⟩
   · first | omega | (dsimp only;omega)
   exact ⟨⟨zy,c9,c9,c9,trivial⟩,⟨u9,trivial⟩⟩
  have h3:=aa r3
  try simp only [ty] at h3
  refine cw ?_;refine ⟨(), ?_, ?_⟩
  · exact uf fun j hj=>hI j (by omega)
  exact ⟨⟨c9,trivial⟩,⟨u9,trivial⟩⟩
 rintro _ hnm
 refine w_4 ?_;refine df (ι:=Unit) ⟨[],[]⟩ ⟨trivial,trivial⟩ (fun _i=>⟨[],[]⟩) (fun _i=>ek t.attrs.length 0 t.rows = 0) ?_ ?_
 ·
  refine w_8 ?_
  refine az (ι:=(Nat × Int)) ⟨[(1,some _),(43,some _),(44,some _)],[(0,some _)]⟩ ⟨⟨c9,c9,c9,trivial⟩,⟨u9,trivial⟩⟩ (fun x=>⟨[(5,some (vI x.2)),(45,some (vI x.1))],[]⟩) (fun x=>x.1 ≤ t.rows.length ∧ ek t.attrs.length x.2 (t.rows.drop x.1) = ek t.attrs.length 0 t.rows) (fun x=>t.rows.length - x.1) ((0,0)) (⟨Nat.zero_le _,rfl⟩) ⟨⟨zy,zy,trivial⟩,trivial⟩ ?_
  rintro ⟨i,b⟩ ⟨hi,hI⟩
  dsimp only at hi hI ⊢
  refine w_5 ?_;refine a7 _ rfl (fun r6=>?_) (fun r6=>?_)
  ·
   have h6:=ae r6
   try simp only [ty] at h6
   refine w_7 ?_;refine m9 1 ?_;refine gk ?_;refine a7 _ rfl (fun r7=>?_) (fun r7=>?_)
   ·
    have h7:=ae r7
    try simp only [ty] at h7
    refine w_5 ?_;refine ⟨.inr rfl, ?_⟩
    have hs:=rE (by omega) hI
    rw [if_pos (by omega)] at hs
    exact f9 rfl rfl (⟨cci (tE (by assumption) (by omega) (by omega) (by assumption) hs.symm).symm,trivial⟩)
   have h7:=aa r7
   try simp only [ty] at h7
   refine qc ?_;refine a7 _ rfl (fun r8=>?_) (fun r8=>?_)
   ·
    have h8:=r8
    have h8:=aa (b7 h8)
    try simp only [ty] at h8
    refine w_5 ?_;refine ⟨.inr rfl, ?_⟩
    have hs:=rE (by omega) hI
    rw [if_neg (by omega),if_pos (by omega)] at hs
    exact f9 rfl rfl (⟨cci (tE (by assumption) (by omega) (by omega) (by assumption) hs.symm).symm,trivial⟩)
   have h8:=r8
   have h8:=ae (b8 h8)
   try simp only [ty] at h8
   refine w_4 ?_;refine qcx abl (c93 _) ?_;refine w_3 ?_;refine a7 _ rfl (fun r9=>?_) (fun r9=>?_)
   ·
    have h9:=r9
    have h9:=b7 h9
    refine w_5 ?_;refine ⟨.inr rfl, ?_⟩
    have hs:=rE (by omega) hI
    rw [if_neg (by omega),if_neg (by omega),if_pos (by assumption)] at hs
    exact f9 rfl rfl (⟨cci (tE (by assumption) (by omega) (by omega) (by assumption) hs.symm).symm,trivial⟩)
   have h9:=r9
   have h9:=b8 h9
   refine dz ?_;refine ⟨(i + 1,(t.rows.getD i default).id), ?_, ?_, ?_⟩
   · refine ⟨by dsimp only;omega, ?_⟩
     have hs:=rE (by omega) hI
     rw [if_neg (by omega),if_neg (by omega),if_neg (fun e=>Bool.noConfusion (e.symm.trans (show _ = true by assumption)))] at hs
     exact hs
   · first | omega | (dsimp only;omega)
   exact ⟨⟨zy,zy,c9,c9,c9,trivial⟩,⟨u9,trivial⟩⟩
  have h6:=aa r6
  try simp only [ty] at h6
  refine cw ?_;refine ⟨(), ?_, ?_⟩
  · rw [← hI,List.drop_eq_nil_of_le (by omega)];rfl
  exact ⟨trivial,trivial⟩
 rintro _ hj
 refine w_4 ?_
 exact hx8 rfl rfl rfl (⟨cci (tE (by assumption) (by omega) (by omega) (by assumption) hj).symm,trivial⟩)
theorem a9k:am Tryz.prog 59:=wgx Tryz.func59
theorem c59 (d:DB) (t:Tbl):ay Tryz.prog 59 [lq d,t.pc] (bu [pI (j1 d t)]):=by
 refine av (nt:=20) a8 Tryz.func59 rfl rfl l9 ?_;refine sx7 ?_;refine m9 0 ?_;refine m9 1 ?_;refine w_6 ?_;refine qcx a1s (c82 _) ?_;refine w_7 ?_;refine a7 _ rfl (fun r0=>?_) (fun r0=>?_)
 ·
  have h0:=r0
  have h0:=aa (b7 h0)
  try simp only [ty] at h0
  refine w_5 ?_
  exact hx8 rfl rfl rfl (⟨cci (by unfold j1;simp [*] <;> omega),trivial⟩)
 have h0:=r0
 have h0:=ae (b8 h0)
 try simp only [ty] at h0
 refine w_7 ?_;refine qcx xq (c60 _ _) ?_;refine w_2 ?_;refine a7 _ rfl (fun r1=>?_) (fun r1=>?_)
 ·
  have h1:=ae r1
  try simp only [ty] at h1
  refine w_4 ?_
  exact hx8 rfl rfl rfl (⟨cci (by unfold j1;simp [*] <;> omega),trivial⟩)
 have h1:=aa r1
 try simp only [ty] at h1
 refine w_9 ?_;refine a7 _ rfl (fun r2=>?_) (fun r2=>?_)
 ·
  have h2:=ae r2
  try simp only [ty] at h2
  refine w_4 ?_
  exact hx8 rfl rfl rfl (⟨cci (by unfold j1;simp [*] <;> omega),trivial⟩)
 have h2:=aa r2
 try simp only [ty] at h2
 refine w_5 ?_
 exact hx8 rfl rfl rfl (⟨cci (by unfold j1;simp [*] <;> omega),trivial⟩)
theorem afi:am Tryz.prog 65:=wgx Tryz.func65
theorem c65 (d:DB) (t:Tbl):ay Tryz.prog 65 [lq d,t.pc] (bu [pI (j1 d t)]):=by
 refine av (nt:=22) a8 Tryz.func65 rfl rfl l9 ?_;refine sx7 ?_;refine m9 0 ?_;refine m9 1 ?_;refine w_6 ?_;refine qcx a2d (c88 _) ?_;refine w_7 ?_;refine a7 _ rfl (fun r0=>?_) (fun r0=>?_)
 ·
  have h0:=r0
  have h0:=aa (b7 h0)
  try simp only [ty] at h0
  refine w_5 ?_
  exact hx8 rfl rfl rfl (⟨cci (by unfold j1;simp [*] <;> omega),trivial⟩)
 have h0:=r0
 have h0:=ae (b8 h0)
 try simp only [ty] at h0
 refine w_8 ?_;refine qcx a5r (c67 _ _) ?_;refine w_3 ?_;refine a7 _ rfl (fun r1=>?_) (fun r1=>?_)
 ·
  have h1:=ae r1
  try simp only [ty] at h1
  refine w_4 ?_
  exact hx8 rfl rfl rfl (⟨cci (by unfold j1;simp [*] <;> omega),trivial⟩)
 have h1:=aa r1
 try simp only [ty] at h1
 refine w_8 ?_;refine a7 _ rfl (fun r2=>?_) (fun r2=>?_)
 ·
  have h2:=ae r2
  try simp only [ty] at h2
  refine w_4 ?_
  exact hx8 rfl rfl rfl (⟨cci (by unfold j1;simp [*] <;> omega),trivial⟩)
 have h2:=aa r2
 try simp only [ty] at h2
 refine w_5 ?_
 exact hx8 rfl rfl rfl (⟨cci (by unfold j1;simp [*] <;> omega),trivial⟩)
theorem af5:am Tryz.prog 16:=wgx Tryz.func16
theorem c16 (a b:DB) (ha:aco a) (hb:aco b):ay Tryz.prog 16 [lq a,lq b] (bu [pB (decide (a = b))]):=by
 refine av (nt:=32) a8 Tryz.func16 rfl rfl l9 ?_;refine sx7 ?_;refine m9 0 ?_;refine m9 1 ?_;refine w_4 ?_;refine wv 0 0 rfl rfl (fun hn=>?_);refine w_9 ?_;refine a7 _ rfl (fun r0=>?_) (fun r0=>?_)
 ·
  have h0:=r0
  have h0:=aa (b7 h0)
  try simp only [ty] at h0
  refine w_4 ?_
  exact hx8 rfl rfl rfl (⟨ccb (decide_eq_false (fun e=>h0 (by rw [e]))).symm,trivial⟩)
 have h0:=r0
 have h0:=ae (b8 h0)
 try simp only [ty] at h0
 refine ew ?_;refine df (ι:=Unit) ⟨[],[]⟩ ⟨trivial,trivial⟩ (fun _i=>⟨[],[]⟩) (fun _i=>a = b) ?_ ?_
 ·
  refine w_5 ?_
  refine az (ι:=Nat) ⟨[(2,some _),(3,some _)],[(0,some _),(1,some _)]⟩ ⟨⟨c9,c9,trivial⟩,⟨u9,u9,trivial⟩⟩ (fun i=>⟨[(5,some (vI i))],[]⟩) (fun i=>i ≤ a.length ∧ ∀ j,j < i → List.getD a j default = List.getD b j default) (fun i=>a.length - i) (0) (⟨Nat.zero_le _,dy⟩) ⟨⟨zy,trivial⟩,trivial⟩ ?_
  rintro i ⟨hi,hI⟩
  refine w_9 ?_;refine a7 _ rfl (fun r1=>?_) (fun r1=>?_)
  ·
   have h1:=ae r1
   try simp only [ty] at h1
   refine w_4 ?_;refine ap (E:=au) a8 ag [0,1,2,3,4,5,6,7,8,9,10,11] ?_;refine dz ?_
   refine rc rfl rfl rfl rfl rfl rfl aa3 (c47 _ _ (ha.2 i (by omega)) (hb.2 i (by omega))) (CoL.refl _) rfl rfl ?_;refine w_2 ?_;refine ⟨by kernel_rfl, ?_⟩;refine a7 _ rfl (fun r2=>?_) (fun r2=>?_)
   ·
    have h2:=r2
    have h2:=b7 h2
    have hN:=aa h2
    refine w_4 ?_
    exact hx8 rfl rfl rfl (⟨ccb (decide_eq_false (fun e=>hN (by subst e;rfl))).symm,trivial⟩)
   have h2:=r2
   have h2:=b8 h2
   have hN:=ae h2
   refine w_6 ?_;refine ⟨i + 1, ?_, ?_, ?_⟩
   · exact ⟨by omega,dr hI (hN)⟩
   · first | omega | (dsimp only;omega)
   exact ⟨⟨zy,c9,c9,trivial⟩,⟨u9,u9,trivial⟩⟩
  have h1:=aa r1
  try simp only [ty] at h1
  refine cw ?_;refine ⟨(), ?_, ?_⟩
  · exact ut (by omega) fun j hj=>hI j (by omega)
  exact ⟨trivial,trivial⟩
 rintro _ hj
 refine w_4 ?_
 exact hx8 rfl rfl rfl (⟨ccb (decide_eq_true hj).symm,trivial⟩)
end
end Go.Hx

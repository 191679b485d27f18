/- A part of the proof: X4 Ch4 X5. -/
import Derived.Test.YtidophngianjiaaGreatDoorBx22
set_option linter.all false
section
namespace Go.Hx
open Go.Proofs
set_option maxRecDepth 100000
set_option maxHeartbeats 1000000
theorem pi (i:Nat):((i:Int) - 1).toNat = i - 1:=by omega
theorem awg:goodFn Tryz.prog 214:=⟨Tryz.f214,Tryz.func214,by kernel_rfl,by kernel_rfl⟩
theorem aw3 (n:Int) (l:List Rw):ai Tryz.prog 214 [pT n l] (ao [pB (tok n l)]):=by
 refine ah (nt:=50) ae Tryz.func214 rfl rfl l9 ?_;refine sx7 ?_;refine m9 0 ?_;refine qy ?_;refine a6 ?_;refine a7 ?_;refine sx7 ?_;(iterate 4 refine qy ?_)
 refine b4 rfl rfl (fun r0=>?_) (fun r0=>?_)
 ·
  have h0:=of_decide_eq_true r0
  try simp only [ty] at h0
  (iterate 3 refine k9 (gtf r0) ?_);refine rq rfl rfl rfl rfl rfl ?_ (hp:=r0);refine qy ?_;(iterate 4 refine k9 rfl ?_);refine qy ?_;refine a6 ?_;refine a8 _ rfl (fun _=>?_) (fun e=>by cases e);refine sx7 ?_
  refine qy ?_;refine a6 ?_
  exact hx8 rfl rfl rfl (⟨ccb (xy (by omega)).symm,trivial⟩)
 ·
  have h0:=of_decide_eq_false r0
  try simp only [ty] at h0
  (iterate 3 refine qy ?_ (hg:=(gff r0)));(iterate 2 refine qy ?_);refine b4 rfl rfl (fun r1=>?_) (fun r1=>?_)
  ·
   have h1:=r1
   have h1:=bg r0 h1
   have h1:=of_decide_eq_true h1
   try simp only [ty] at h1
   (iterate 4 refine k9 (gtf r1) ?_);refine rq rfl rfl rfl rfl rfl ?_ (hp:=r1);refine a6 ?_;refine a8 _ rfl (fun _=>?_) (fun e=>by cases e);refine sx7 ?_;refine qy ?_;refine a6 ?_
   exact hx8 rfl rfl rfl (⟨ccb (xy (by omega)).symm,trivial⟩)
  ·
   have h1:=r1
   have h1:=bg r0 h1
   have h1:=of_decide_eq_false h1
   try simp only [ty] at h1
   (iterate 4 refine qy ?_ (hg:=(gff r1)));refine qy ?_;refine a6 ?_;refine a8 _ rfl (fun r2=>?_) (fun r2=>?_)
   ·
    have h2:=r2
    have h2:=bg r1 h2
    have h2:=of_decide_eq_true h2
    try simp only [ty] at h2
    refine sx7 ?_;refine qy ?_;refine a6 ?_
    exact hx8 rfl rfl rfl (⟨ccb (xy (by omega)).symm,trivial⟩)
   ·
    have h2:=r2
    have h2:=bg r1 h2
    have h2:=of_decide_eq_false h2
    try simp only [ty] at h2
    refine aa ?_;refine a7 ?_;refine sx7 ?_;(iterate 4 refine qy ?_);refine a6 ?_;refine ab ?_
    refine aj (ι:=Nat) ⟨[(1,some _),(20,some _),(21,some _)],[(0,some _)]⟩ ⟨⟨c9,c9,c9,trivial⟩,⟨u9,trivial⟩⟩ (fun i=>⟨[(22,some (vI i))],[]⟩) (fun i=>i ≤ l.length ∧ (∀ j,j < i → ll n l j = true)) (fun i=>l.length - i) (0) (⟨Nat.zero_le _,cg⟩) ⟨⟨zy,trivial⟩,trivial⟩ ?_
    rintro i ⟨hi,hI⟩
    refine sx7 ?_;refine qy ?_;refine a6 ?_;refine a7 ?_;refine a8 _ rfl (fun r3=>?_) (fun r3=>?_)
    ·
     have h3:=of_decide_eq_true r3
     try simp only [ty] at h3
     refine aa ?_;refine a7 ?_;refine ab ?_;refine sx7 ?_;(iterate 5 refine qy ?_);refine a6 ?_;refine a7 ?_;refine sx7 ?_;(iterate 6 refine qy ?_)
     refine b4 rfl rfl (fun r4=>?_) (fun r4=>?_)
     ·
      have h4:=r4
      have h4:=of_decide_eq_false (av h4)
      try simp only [ty] at h4
      (iterate 2 refine k9 (gtf r4) ?_);refine rq rfl rfl rfl rfl rfl ?_ (hp:=r4);refine a6 ?_;refine a8 _ rfl (fun _=>?_) (fun e=>by cases e);refine sx7 ?_;refine qy ?_;refine a6 ?_
      exact hx8 rfl rfl rfl (⟨ccb (zo (i:=i) (by omega) (by first | exact a1t (by assumption) | exact t8 (by assumption) | exact y4 (by omega) (by simp_all [pi]))).symm,trivial⟩)
     ·
      have h4:=r4
      have h4:=of_decide_eq_true (aw h4)
      try simp only [ty] at h4
      refine qy ?_ (hg:=(gff r4));refine rc rfl rfl rfl rfl rfl rfl ax9 (b3g (l.getD i default) 233 0 (fun _=>.any) (fun x=>decide (x < 0)) ax1 (fun x=>b3b x)) (CoL.refl _) rfl (gff r4) ?_;refine qy ?_
      refine a6 ?_;refine a8 _ rfl (fun r5=>?_) (fun r5=>?_)
      ·
       have h5:=r5
       have h5:=bg r4 h5
       refine sx7 ?_;refine qy ?_;refine a6 ?_
       exact hx8 rfl rfl rfl (⟨ccb (zo (i:=i) (by omega) (by first | exact a1t (by assumption) | exact t8 (by assumption) | exact y4 (by omega) (by simp_all [pi]))).symm,trivial⟩)
      ·
       have h5:=r5
       have h5:=bg r4 h5
       refine aa ?_;refine sx7 ?_;(iterate 3 refine qy ?_);refine b4 rfl rfl (fun r6=>?_) (fun r6=>?_)
       ·
        have h6:=of_decide_eq_true r6
        try simp only [ty] at h6
        (iterate 7 refine qy ?_ (hg:=(gtt r6)));refine rc rfl rfl rfl rfl rfl rfl ava (atf (l.getD ((i:Int) - 1).toNat default) (l.getD i default)) (CoL.refl _) rfl (gtt r6) ?_;refine qy ?_ (hg:=(gtt r6))
        refine qy ?_;refine a6 ?_;refine a8 _ rfl (fun r7=>?_) (fun r7=>?_)
        ·
         have h7:=r7
         have h7:=df r6 h7
         have h7:=of_decide_eq_true h7
         try simp only [ty] at h7
         refine sx7 ?_;refine qy ?_;refine a6 ?_
         exact hx8 rfl rfl rfl (⟨ccb (zo (i:=i) (by omega) (y4 (by omega) fun e=>absurd (yk.2 e) (by simp only [pi] at *;omega))).symm,trivial⟩)
        ·
         have h7:=r7
         have h7:=df r6 h7
         have h7:=of_decide_eq_false h7
         try simp only [ty] at h7
         refine aa ?_;refine gy ?_;(iterate 2 refine qy ?_);refine a6 ?_;refine ⟨i + 1, ?_, ?_, ?_⟩
         · exact ⟨by show i + 1 ≤ _;omega,br hI (a0p (by assumption) (by assumption) (by first | (exact .inl (by omega)) | (exact .inr (yk.1 (by simp only [pi] at *;omega)))))⟩
         · first | omega | (dsimp only;omega)
         · exact ⟨⟨zy,c9,c9,c9,trivial⟩,⟨u9,trivial⟩⟩
       ·
        have h6:=of_decide_eq_false r6
        try simp only [ty] at h6
        (iterate 9 refine k9 (gft r6) ?_);refine rq rfl rfl rfl rfl rfl ?_ (hp:=r6);refine a6 ?_;refine a8 _ rfl (fun e=>by cases e) (fun _=>?_);refine aa ?_;refine gy ?_;(iterate 2 refine qy ?_)
        refine a6 ?_;refine ⟨i + 1, ?_, ?_, ?_⟩
        · exact ⟨by show i + 1 ≤ _;omega,br hI (a0p (by assumption) (by assumption) (by first | (exact .inl (by omega)) | (exact .inr (yk.1 (by simp only [pi] at *;omega)))))⟩
        · first | omega | (dsimp only;omega)
        · exact ⟨⟨zy,c9,c9,c9,trivial⟩,⟨u9,trivial⟩⟩
    ·
     have h3:=of_decide_eq_false r3
     try simp only [ty] at h3
     refine ak ?_;refine sx7 ?_;refine qy ?_;refine a6 ?_
     exact hx8 rfl rfl rfl (⟨ccb (ajq (by omega) (by omega) (by omega) fun j hj=>hI j (by omega)).symm,trivial⟩)
theorem a8g:goodFn Tryz.prog 173:=⟨Tryz.f173,Tryz.func173,by kernel_rfl,by kernel_rfl⟩
theorem a40 (n:Int) (l:List Rw):ai Tryz.prog 173 [pT n l] (ao [pB (tok n l)]):=by
 refine ah (nt:=69) ae Tryz.func173 rfl rfl l9 ?_;refine sx7 ?_;refine m9 0 ?_;refine qy ?_;refine a6 ?_;refine a7 ?_;refine sx7 ?_;(iterate 4 refine qy ?_)
 refine b4 rfl rfl (fun r0=>?_) (fun r0=>?_)
 ·
  have h0:=of_decide_eq_true r0
  try simp only [ty] at h0
  (iterate 3 refine k9 (gtf r0) ?_);refine rq rfl rfl rfl rfl rfl ?_ (hp:=r0);refine qy ?_;(iterate 4 refine k9 rfl ?_);refine qy ?_;refine a6 ?_;refine a8 _ rfl (fun _=>?_) (fun e=>by cases e);refine sx7 ?_
  refine qy ?_;refine a6 ?_
  exact hx8 rfl rfl rfl (⟨ccb (xy (by omega)).symm,trivial⟩)
 ·
  have h0:=of_decide_eq_false r0
  try simp only [ty] at h0
  (iterate 3 refine qy ?_ (hg:=(gff r0)));(iterate 2 refine qy ?_);refine b4 rfl rfl (fun r1=>?_) (fun r1=>?_)
  ·
   have h1:=r1
   have h1:=bg r0 h1
   have h1:=of_decide_eq_true h1
   try simp only [ty] at h1
   (iterate 4 refine k9 (gtf r1) ?_);refine rq rfl rfl rfl rfl rfl ?_ (hp:=r1);refine a6 ?_;refine a8 _ rfl (fun _=>?_) (fun e=>by cases e);refine sx7 ?_;refine qy ?_;refine a6 ?_
   exact hx8 rfl rfl rfl (⟨ccb (xy (by omega)).symm,trivial⟩)
  ·
   have h1:=r1
   have h1:=bg r0 h1
   have h1:=of_decide_eq_false h1
   try simp only [ty] at h1
   (iterate 4 refine qy ?_ (hg:=(gff r1)));refine qy ?_;refine a6 ?_;refine a8 _ rfl (fun r2=>?_) (fun r2=>?_)
   ·
    have h2:=r2
    have h2:=bg r1 h2
    have h2:=of_decide_eq_true h2
    try simp only [ty] at h2
    refine sx7 ?_;refine qy ?_;refine a6 ?_
    exact hx8 rfl rfl rfl (⟨ccb (xy (by omega)).symm,trivial⟩)
   ·
    have h2:=r2
    have h2:=bg r1 h2
    have h2:=of_decide_eq_false h2
    try simp only [ty] at h2
    refine aa ?_;refine a7 ?_;refine sx7 ?_;refine qy ?_;refine a6 ?_;refine ab ?_
    refine aj (ι:=Nat) ⟨[(1,some _)],[(0,some _)]⟩ ⟨⟨c9,trivial⟩,⟨u9,trivial⟩⟩ (fun i=>⟨[(3,some (vI i))],[]⟩) (fun i=>i ≤ l.length ∧ (∀ j,j < i → ll n l j = true)) (fun i=>l.length - i) (0) (⟨Nat.zero_le _,cg⟩) ⟨⟨zy,trivial⟩,trivial⟩ ?_
    rintro i ⟨hi,hI⟩
    refine a7 ?_;refine sx7 ?_;(iterate 5 refine qy ?_);refine a6 ?_;refine a8 _ rfl (fun r3=>?_) (fun r3=>?_)
    ·
     have h3:=of_decide_eq_true r3
     try simp only [ty] at h3
     refine aa ?_;refine a7 ?_;refine ab ?_;(iterate 2 refine a7 ?_)
     refine ax (E:=bf) ae ar [0,1,2,3,4,5,6,7,8,9,10,11,12,13,14,15,16,17,18,19,20,21,22,23,24,25,26,27] ?_;(iterate 10 refine qy ?_)
     refine b4 rfl rfl (fun r4=>?_) (fun r4=>?_)
     ·
      have h4:=r4
      have h4:=of_decide_eq_false (av h4)
      try simp only [ty] at h4
      (iterate 3 refine k9 (gtf r4) ?_);(iterate 13 refine k9 rfl ?_);refine k9 (gtf r4) ?_;refine rq rfl rfl rfl rfl rfl ?_ (hp:=r4);refine a6 ?_;refine ⟨by kernel_rfl, ?_⟩
      refine a8 _ rfl (fun _=>?_) (fun e=>by cases e);refine sx7 ?_;refine qy ?_;refine a6 ?_
      exact hx8 rfl rfl rfl (⟨ccb (zo (i:=i) (by omega) (by first | exact a1t (by assumption) | exact t8 (by assumption) | exact y4 (by omega) (by simp_all [pi]))).symm,trivial⟩)
     ·
      have h4:=r4
      have h4:=of_decide_eq_true (aw h4)
      try simp only [ty] at h4
      (iterate 3 refine qy ?_ (hg:=(gff r4)));refine b4 rfl rfl (fun r5=>?_) (fun r5=>?_)
      ·
       have h5:=of_decide_eq_true r5
       try simp only [ty] at h5
       (iterate 11 refine qy ?_ (hg:=(gtt r5)));refine rc rfl rfl rfl rfl rfl rfl ahl (atq (l.getD ((i:Int) - 1).toNat default) (l.getD i default)) (CoL.refl _) rfl (gtt r5) ?_;refine qy ?_ (hg:=(gtt r5))
       refine qy ?_ (hg:=(gff r4));refine qy ?_;refine a6 ?_;refine ⟨by kernel_rfl, ?_⟩;refine a8 _ rfl (fun r6=>?_) (fun r6=>?_)
       ·
        have h6:=r6
        have h6:=bg r4 h6
        have h6:=df r5 h6
        have h6:=av h6
        refine sx7 ?_;refine qy ?_;refine a6 ?_
        exact hx8 rfl rfl rfl (⟨ccb (zo (i:=i) (by omega) (by first | exact a1t (by assumption) | exact t8 (by assumption) | exact y4 (by omega) (by simp_all [pi]))).symm,trivial⟩)
       ·
        have h6:=r6
        have h6:=bg r4 h6
        have h6:=df r5 h6
        have h6:=aw h6
        refine aa ?_;refine sx7 ?_;refine qy ?_;refine a6 ?_;refine ab ?_
        refine aj (ι:=Nat) ⟨[(1,some _),(3,some _)],[(0,some _)]⟩ ⟨⟨c9,c9,trivial⟩,⟨u9,trivial⟩⟩ (fun k=>⟨[(4,some (vI k))],[]⟩) (fun k=>k ≤ (l.getD i default).length ∧ (∀ j,j < k → decide ((l.getD i default).getD j default < 0) = false)) (fun k=>(l.getD i default).length - k) (0) (⟨Nat.zero_le _,cg⟩) ⟨⟨zy,trivial⟩,trivial⟩ ?_
        rintro k ⟨hk,hK⟩
        refine a7 ?_;refine sx7 ?_;(iterate 4 refine qy ?_);refine a6 ?_;refine a8 _ rfl (fun r7=>?_) (fun r7=>?_)
        ·
         have h7:=of_decide_eq_true r7
         try simp only [ty] at h7
         refine aa ?_;refine a7 ?_;refine ab ?_;refine sx7 ?_;(iterate 6 refine qy ?_);refine rq rfl rfl rfl rfl rfl ?_ (hp:=⟨rfl,by omega,by simp only [Int.toNat_natCast];omega⟩)
         (iterate 2 refine qy ?_);refine a6 ?_;refine a8 _ rfl (fun r8=>?_) (fun r8=>?_)
         ·
          have h8:=of_decide_eq_true r8
          try simp only [ty] at h8
          refine sx7 ?_;refine qy ?_;refine a6 ?_
          exact hx8 rfl rfl rfl (⟨ccb (zo (i:=i) (by omega) (t8 (aan (i:=k) (by omega) (decide_eq_true (by assumption))))).symm,trivial⟩)
         ·
          have h8:=of_decide_eq_false r8
          try simp only [ty] at h8
          refine aa ?_;refine gy ?_;(iterate 3 refine qy ?_);refine a6 ?_;refine ⟨k + 1, ?_, ?_, ?_⟩
          · exact ⟨by show k + 1 ≤ _;omega,br hK (decide_eq_false (by assumption))⟩
          · first | omega | (dsimp only;omega)
          · exact ⟨⟨zy,c9,c9,trivial⟩,⟨u9,trivial⟩⟩
        ·
         have h7:=of_decide_eq_false r7
         try simp only [ty] at h7
         refine ak ?_;refine gy ?_;(iterate 3 refine qy ?_);refine a6 ?_;refine ⟨i + 1, ?_, ?_, ?_⟩
         · exact ⟨by show i + 1 ≤ _;omega,br hI (a0p (by assumption) (aag fun j hj=>hK j (by omega)) (by first | (exact .inl (by omega)) | (exact .inr (by simp_all [pi]))))⟩
         · first | omega | (dsimp only;omega)
         · exact ⟨⟨zy,c9,trivial⟩,⟨u9,trivial⟩⟩
      ·
       have h5:=of_decide_eq_false r5
       try simp only [ty] at h5
       (iterate 13 refine k9 (gft r5) ?_);refine rq rfl rfl rfl rfl (gff r4) ?_ (hp:=r5);refine qy ?_;refine a6 ?_;refine ⟨by kernel_rfl, ?_⟩
       refine a8 _ rfl (fun e=>Bool.noConfusion ((x7 r4 rfl).symm.trans e)) (fun _=>?_);refine aa ?_;refine sx7 ?_;refine qy ?_;refine a6 ?_;refine ab ?_
       refine aj (ι:=Nat) ⟨[(1,some _),(3,some _)],[(0,some _)]⟩ ⟨⟨c9,c9,trivial⟩,⟨u9,trivial⟩⟩ (fun k=>⟨[(4,some (vI k))],[]⟩) (fun k=>k ≤ (l.getD i default).length ∧ (∀ j,j < k → decide ((l.getD i default).getD j default < 0) = false)) (fun k=>(l.getD i default).length - k) (0) (⟨Nat.zero_le _,cg⟩) ⟨⟨zy,trivial⟩,trivial⟩ ?_
       rintro k ⟨hk,hK⟩
       refine a7 ?_;refine sx7 ?_;(iterate 4 refine qy ?_);refine a6 ?_;refine a8 _ rfl (fun r9=>?_) (fun r9=>?_)
       ·
        have h9:=of_decide_eq_true r9
        try simp only [ty] at h9
        refine aa ?_;refine a7 ?_;refine ab ?_;refine sx7 ?_;(iterate 6 refine qy ?_);refine rq rfl rfl rfl rfl rfl ?_ (hp:=⟨rfl,by omega,by simp only [Int.toNat_natCast];omega⟩)
        (iterate 2 refine qy ?_);refine a6 ?_;refine a8 _ rfl (fun r10=>?_) (fun r10=>?_)
        ·
         have h10:=of_decide_eq_true r10
         try simp only [ty] at h10
         refine sx7 ?_;refine qy ?_;refine a6 ?_
         exact hx8 rfl rfl rfl (⟨ccb (zo (i:=i) (by omega) (t8 (aan (i:=k) (by omega) (decide_eq_true (by assumption))))).symm,trivial⟩)
        ·
         have h10:=of_decide_eq_false r10
         try simp only [ty] at h10
         refine aa ?_;refine gy ?_;(iterate 3 refine qy ?_);refine a6 ?_;refine ⟨k + 1, ?_, ?_, ?_⟩
         · exact ⟨by show k + 1 ≤ _;omega,br hK (decide_eq_false (by assumption))⟩
         · first | omega | (dsimp only;omega)
         · exact ⟨⟨zy,c9,c9,trivial⟩,⟨u9,trivial⟩⟩
       ·
        have h9:=of_decide_eq_false r9
        try simp only [ty] at h9
        refine ak ?_;refine gy ?_;(iterate 3 refine qy ?_);refine a6 ?_;refine ⟨i + 1, ?_, ?_, ?_⟩
        · exact ⟨by show i + 1 ≤ _;omega,br hI (a0p (by assumption) (aag fun j hj=>hK j (by omega)) (by first | (exact .inl (by omega)) | (exact .inr (by simp_all [pi]))))⟩
        · first | omega | (dsimp only;omega)
        · exact ⟨⟨zy,c9,trivial⟩,⟨u9,trivial⟩⟩
    ·
     have h3:=of_decide_eq_false r3
     try simp only [ty] at h3
     refine ak ?_;refine sx7 ?_;refine qy ?_;refine a6 ?_
     exact hx8 rfl rfl rfl (⟨ccb (ajq (by omega) (by omega) (by omega) fun j hj=>hI j (by omega)).symm,trivial⟩)
theorem aun:goodFn Tryz.prog 180:=⟨Tryz.f180,Tryz.func180,by kernel_rfl,by kernel_rfl⟩
theorem apy (n:Int) (l:List Rw) (p m:List Fd):ai Tryz.prog 180 [pT n l,pP (fdl p),pP (fdl m)] (ao [pI (if tok n l = true then c8 n p m else 1)]):=by
 refine ah (nt:=15) ae Tryz.func180 rfl rfl l9 ?_;refine sx7 ?_;refine m9 0 ?_;refine qy ?_;refine a6 ?_;refine a7 ?_;refine sx7 ?_;refine qy ?_
 refine rc rfl rfl rfl rfl rfl rfl awg (aw3 n l) (CoL.refl _) rfl rfl ?_;refine qy ?_;refine a6 ?_;refine a8 _ rfl (fun r0=>?_) (fun r0=>?_)
 ·
  have h0:=r0
  have h0:=av h0
  refine sx7 ?_;refine qy ?_;refine a6 ?_
  exact hx8 rfl rfl rfl (⟨cci (if_neg (by simp_all)).symm,trivial⟩)
 ·
  have h0:=r0
  have h0:=aw h0
  refine aa ?_;refine sx7 ?_;(iterate 4 refine qy ?_);refine rc rfl rfl rfl rfl rfl rfl a6s (a1j n p m) (CoL.refl _) rfl rfl ?_;refine qy ?_;refine a6 ?_
  exact hx8 rfl rfl rfl (⟨cci (if_pos (by simp_all)).symm,trivial⟩)
theorem abb:goodFn Tryz.prog 96:=⟨Tryz.f96,Tryz.func96,by kernel_rfl,by kernel_rfl⟩
theorem ab7 (n:Int) (l:List Rw) (row:Rw):ai Tryz.prog 96 [pT n l,pZ row] (ao [pB (l.any fun r=>decide (r = row))]):=by
 refine ah (nt:=20) ae Tryz.func96 rfl rfl l9 ?_;refine sx7 ?_;refine m9 0 ?_;refine qy ?_;refine a6 ?_
 refine dm (ι:=Unit) ⟨[],[]⟩ ⟨trivial,trivial⟩ (fun _i=>⟨[],[]⟩) (fun _i=>(l.any fun r=>decide (r = row)) = false) ?_ ?_
 ·
  refine a7 ?_
  refine atb 0 1 rfl rfl fun hn=>?_
  refine gy ?_;refine qy ?_;refine a6 ?_;refine ab ?_
  refine aj (ι:=Nat) ⟨[(1,some _),(2,some _)],[(0,some _)]⟩ ⟨⟨c9,c9,trivial⟩,⟨u9,trivial⟩⟩ (fun i=>⟨[(5,some (vI i))],[]⟩) (fun i=>i ≤ l.length ∧ (∀ j,j < i → decide (l.getD j default = row) = false)) (fun i=>l.length - i) (0) (⟨Nat.zero_le _,cg⟩) ⟨⟨zy,trivial⟩,trivial⟩ ?_
  rintro i ⟨hi,hI⟩
  refine a7 ?_;refine sx7 ?_;(iterate 5 refine qy ?_);refine a6 ?_;refine a8 _ rfl (fun r0=>?_) (fun r0=>?_)
  ·
   have h0:=of_decide_eq_true r0
   try simp only [ty] at h0
   refine aa ?_;refine a7 ?_;refine ab ?_;refine sx7 ?_;(iterate 6 refine qy ?_);refine rc rfl rfl rfl rfl rfl rfl ax2 (b1l (l.getD i default) row) (CoL.refl _) rfl rfl ?_;refine a6 ?_
   refine a8 _ rfl (fun r1=>?_) (fun r1=>?_)
   ·
    have h1:=r1
    refine sx7 ?_;refine qy ?_;refine a6 ?_
    exact hx8 rfl rfl rfl (⟨ccb (aan (p:=fun r=>decide (r = row)) (i:=i) (by omega) (by assumption)).symm,trivial⟩)
   ·
    have h1:=r1
    refine aa ?_;refine gy ?_;(iterate 3 refine qy ?_);refine a6 ?_;refine ⟨i + 1, ?_, ?_, ?_⟩
    · exact ⟨by show i + 1 ≤ _;omega,br hI (by assumption)⟩
    · first | omega | (dsimp only;omega)
    · exact ⟨⟨zy,c9,c9,trivial⟩,⟨u9,trivial⟩⟩
  ·
   have h0:=of_decide_eq_false r0
   try simp only [ty] at h0
   refine ak ?_;refine ⟨(), ?_, ?_⟩
   · exact aag fun j hj=>hI j (by omega)
   · exact ⟨trivial,trivial⟩
 · rintro _ hj
   refine sx7 ?_;refine qy ?_;refine a6 ?_
   exact hx8 rfl rfl rfl (⟨ccb hj.symm,trivial⟩)
end Go.Hx
end
section
namespace Go.Hx
def jp (a b:Rw) (s:AS) (i:Nat):Rw:=(List.range b.length).map fun (j:Nat)=>if j < i ∧ c4 s (j:Int) = true then a.getD j default else b.getD j default
theorem o4 (a b:Rw) (s:AS) (i:Nat):(jp a b s i).length = b.length:=by unfold jp;simp
theorem a6x {a b:Rw} {s:AS} {i k:Nat} (hk:k < b.length):(jp a b s i).getD k default = if k < i ∧ c4 s (k:Int) = true then a.getD k default else b.getD k default:=by
 unfold jp
 rw [List.getD_eq_getElem?_getD,List.getElem?_map,List.getElem?_range hk]
 rfl
theorem a9y (a b:Rw) (s:AS):b = jp a b s 0:=mq (o4 a b s 0).symm fun j hj=>by
 rw [a6x hj,if_neg (by omega)]
theorem adu (a b:Rw) (s:AS):jp a b s b.length = d5 a b s:=by
 unfold jp d5
 refine List.map_congr_left fun k hk=>?_
 have:=List.mem_range.1 hk
 by_cases h:c4 s (k:Int) = true
 · rw [if_pos ⟨this,h⟩,if_pos h]
 · rw [if_neg (fun e=>h e.2),if_neg h]
theorem ay6 {a b:Rw} {s:AS} {i:Nat} (h:¬ c4 s (i:Int) = true):jp a b s i = jp a b s (i + 1):=by
 unfold jp
 refine List.map_congr_left fun k hk=>?_
 by_cases h2:k < i ∧ c4 s (k:Int) = true
 · rw [if_pos h2,if_pos ⟨by omega,h2.2⟩]
 · rw [if_neg h2, if_neg fun e => h2 ⟨by rcases Nat.lt_or_eq_of_le (Nat.le_of_lt_succ e.1) with h3 | h3
                                         · exact h3
                                         · subst h3;exact absurd e.2 h,e.2⟩]
theorem b0d {a b:Rw} {s:AS} {i:Nat} (hi:i < b.length) (h:c4 s (i:Int) = true):(jp a b s i).set i (a.getD i default) = jp a b s (i + 1):=by
 refine mq (by rw [List.length_set,o4,o4]) fun j hj=>?_
 rw [List.length_set,o4] at hj
 rw [a6x hj]
 by_cases e:j = i
 · subst e
   rw [lg (by rw [o4];exact hj),if_pos ⟨by omega,h⟩]
 · rw [getD_set_ne' e,a6x hj]
   by_cases h2:j < i ∧ c4 s (j:Int) = true
   · rw [if_pos h2,if_pos ⟨by omega,h2.2⟩]
   · rw [if_neg h2,if_neg fun e2=>h2 ⟨by omega,e2.2⟩]
theorem ju (a b:Rw) (s:AS):(d5 a b s).length = b.length:=by unfold d5;simp
theorem qe {a b:Rw} {s:AS} {i n:Nat} {k:Nat} (hi:i < b.length) (h:c4 s (i:Int) = true) (hn:n = b.length:=by rfl) (hk:k = i:=by rfl) :
 CoO (.arr true 1 3 n (dw (lf zC (jp a b s i)) k 0 [.raw (.int .i64 (a.getD i default))])) (.arr true 1 3 n (lf zC (jp a b s (i + 1)))):=by
 rw [← b0d hi h]
 exact a8r (fun h=>h) (hn.trans (o4 a b s i).symm) hk (by rw [o4];exact hi) rfl
theorem qp {a b:Rw} {s:AS} {i n:Nat} (h:¬ c4 s (i:Int) = true):CoO (.arr true 1 3 n (lf zC (jp a b s i))) (.arr true 1 3 n (lf zC (jp a b s (i + 1)))):=by
 rw [← ay6 h]
 exact CoO.refl _
theorem ajw {n:Nat} {r:Rw} (h:r.length = n):CoC (.one (.sl n 1 false (lf zC r))) (pZ r):=by subst h;exact CoC.refl _
end Go.Hx
end
section
namespace Go.Hx
open Go.Proofs
set_option maxRecDepth 100000
theorem a8v:goodFn Tryz.prog 215:=⟨Tryz.f215,Tryz.func215,by kernel_rfl,by kernel_rfl⟩
theorem a90 (n:Nat) (c:Bool) (f:Nat → Nat → PV) (hn:n ≤ 17592186044416) :
 dg Tryz.prog 215 [.one (.p (.sl n 1 c f))] [] (.v (.one (.ref 0 n))) [(0, .arr true 1 3 n f)] []:=by
 refine eq (nt:=8) ae Tryz.func215 rfl rfl l9 rfl ?_;refine sx7 ?_;refine ca true rfl rfl rfl rfl rfl trivial ?_;refine a6 ?_
 refine xg (ι:=Bool) (fun c=>⟨[(0,some (bt (.sl n 1 c f)))],[]⟩) (fun _=>True) ?_ fun c _=>?_
 · rcases Nat.eq_zero_or_pos n with hz | h0
   · subst hz
     refine hw_exact' 0 rfl fun ad cap hcap=>?_
     refine sx7 ?_;(iterate 2 refine ca true rfl rfl rfl rfl rfl trivial ?_);refine a6 ?_;refine a8 ad.isNone rfl (fun hc=>?_) (fun hc=>?_)
     · refine sx7 ?_
       refine ca true rfl rfl rfl rfl rfl trivial ?_;refine a6 ?_;refine db 2 0 true 1 3 f (by decide) rfl (CoP.sl rfl (.inr rfl) (fun h=>h) fun i j hi _=>absurd hi (Nat.not_lt_zero i)) (.inr rfl) rfl ?_
       refine ap ?_;refine ⟨.inr rfl, ?_⟩
       exact ⟨_,_,rfl,trivial,CoR.refl _,⟨u9,trivial⟩⟩
     · refine aa ?_
       exact ⟨false,trivial,⟨⟨_,rfl,CoP.raw_sl hcap⟩,trivial⟩,trivial⟩
   · refine sx7 ?_
     refine ca true rfl rfl rfl rfl rfl trivial ?_;refine ca true rfl rfl rfl rfl rfl h0 ?_;refine a6 ?_;refine a8 false rfl (fun hc=>by cases hc) (fun hc=>?_);refine aa ?_
     exact ⟨c,trivial,⟨c9,trivial⟩,trivial⟩
 · refine sx7 ?_
   refine tl 0 rfl rfl rfl rfl rfl rfl trivial ?_;refine ca true rfl rfl rfl rfl rfl trivial ?_
   refine a0q 0 true rfl rfl rfl rfl rfl rfl ⟨trivial,rfl,rfl,rfl, .inl rfl,by show 0 + n ≤ 9223372036854775807;omega,by show (0 + n) * 8 ≤ 140737488355328;omega,fun _=>.inl rfl⟩ ?_
   refine ca true rfl rfl rfl rfl rfl trivial ?_;refine a6 ?_;refine ap ?_;refine ⟨.inr rfl, ?_⟩
   refine ⟨_,_,rfl,trivial,CoR.of_eq (by show HR.v (.one (.ref 0 (0 + n))) = _;rw [Nat.zero_add]),⟨⟨_,rfl, ?_⟩,trivial⟩⟩
   exact ⟨fun h=>h,rfl,rfl,(Nat.zero_add n).symm,fun i j _ _=>CoP.of_eq (by simp [ef])⟩
theorem aov (n:Nat) (c:Bool) (f:Nat → Nat → PV) (hn:n ≤ 17592186044416):ai Tryz.prog 215 [.one (.sl n 1 c f)] (.v (.one (.sl n 1 false f))) :=
 dg.pure (args:=[.one (.sl n 1 c f)]) (l:=[.one (.ref 0 n)]) (a90 n c f hn) rfl ⟨rfl,trivial⟩
theorem a7z:goodFn Tryz.prog 181:=⟨Tryz.f181,Tryz.func181,by kernel_rfl,by kernel_rfl⟩
theorem agk (n:Int) (l:List Rw) (hl:∀ i,i < l.length → (l.getD i default).length ≤ 17592186044416) (hl2:l.length ≤ 5864062014805):dg Tryz.prog 181 [.agg [.p (.raw (.int .i64 n)), .p (rl l)]] [] (.v (.agg [.p (.raw (.int .i64 n)), .ref 901 l.length])) [(901, .arr true 1 121 l.length (lf rC l))] []:=by
 refine eq (nt:=25) ae Tryz.func181 rfl rfl l9 rfl ?_;refine sx7 ?_;refine m9 0 ?_;refine m9 1 ?_;refine a6 ?_;refine sx7 ?_;(iterate 3 refine qy ?_);refine m9 2 ?_;refine s9 ?_;refine a6 ?_
 refine np 2 1 901 true 1 121 (lf rC l) (by decide) rfl rfl (CoP.sl rfl (.inr rfl) (fun h=>h) (fun i j hi _=>absurd hi (Nat.not_lt_zero i))) (.inr rfl) rfl rfl ?_;refine a7 ?_;refine sx7 ?_
 (iterate 4 refine qy ?_);refine a6 ?_;refine ab ?_
 refine aj (ι:=Nat) ⟨[(2,some _),(3,some _),(10,some _),(11,some _)],[(1,some _)]⟩ ⟨⟨c9,c9,c9,c9,trivial⟩,⟨u9,trivial⟩⟩ (fun i=>⟨[(12,some (vI i))],[(2,some (.box [.p (.raw (.int .i64 n)), .ref 901 i])),(901,some (.arr true 1 121 i (lf rC l)))]⟩) (fun i=>i ≤ l.length) (fun i=>l.length - i) (0) (Nat.zero_le _) ⟨⟨zy,trivial⟩,⟨u9,u9,trivial⟩⟩ ?_
 rintro i hi
 refine sx7 ?_;refine qy ?_;refine a6 ?_;refine a7 ?_;refine a8 _ rfl (fun r0=>?_) (fun r0=>?_)
 ·
  have h0:=of_decide_eq_true r0
  try simp only [ty] at h0
  refine aa ?_;refine a7 ?_;refine ab ?_;refine sx7 ?_;(iterate 3 refine qy ?_);refine a6 ?_;refine ax (E:=bf) ae ar [0,1,2,3,4,5,6,7] ?_;(iterate 3 refine qy ?_)
  refine rc rfl rfl rfl rfl rfl rfl a8v (aov (l.getD i default).length false (lf zC (l.getD i default)) (hl i (by omega))) (CoL.refl _) rfl rfl ?_;refine m9 3 ?_;refine ra 4 true rfl rfl rfl rfl rfl rfl ?_;refine qy ?_
  refine s9 ?_;refine a6 ?_;refine ⟨by kernel_rfl, ?_⟩;refine gy ?_;(iterate 2 refine qy ?_);refine a6 ?_;refine ⟨i + 1, ?_, ?_, ?_⟩
  · show i + 1 ≤ _;omega
  · first | omega | (dsimp only;omega)
  · exact ⟨⟨zy,c9,c9,c9,c9,trivial⟩,⟨u9,⟨_,rfl,(n5 (fun h=>h) (fun j hj=>by obtain rfl:j = 0:=(by omega);exact CoP.refl _))⟩,u9,trivial⟩⟩
 ·
  have h0:=of_decide_eq_false r0
  try simp only [ty] at h0
  obtain rfl:i = l.length:=by omega
  refine ak ?_;refine sx7 ?_;refine qy ?_;refine s9 ?_;refine a6 ?_;refine ap ?_;refine ⟨.inr rfl, ?_⟩
  exact ⟨_,_,rfl,(by (repeat' apply And.intro) <;> first | trivial | exact Nat.le_of_ble_eq_true rfl),CoR.refl _,⟨u9,trivial⟩⟩
theorem aqy (n:Int) (l:List Rw) (hl:∀ i,i < l.length → (l.getD i default).length ≤ 17592186044416) (hl2:l.length ≤ 5864062014805):ai Tryz.prog 181 [pT n l] (ao [pT n l]) :=
 dg.pure (args:=[pT n l]) (l:=[.agg [.p (.raw (.int .i64 n)), .ref 901 l.length]]) (agk n l hl hl2) rfl ⟨⟨trivial,rfl,trivial⟩,trivial⟩
theorem agy:goodFn Tryz.prog 217:=⟨Tryz.f217,Tryz.func217,by kernel_rfl,by kernel_rfl⟩
theorem anc (a b:Rw) (s:AS) (h:a.length = b.length) (h16:b.length ≤ 16):ai Tryz.prog 217 [pZ a,pZ b,pA s] (ao [pZ (d5 a b s)]):=by
 refine ah (nt:=30) ae Tryz.func217 rfl rfl l9 ?_;refine sx7 ?_;refine qy ?_;refine a6 ?_;refine sx7 ?_;refine qy ?_
 refine cn rfl rfl rfl rfl rfl rfl a8v (a90 b.length false (lf zC b) (by omega)) (fe.refl _) trivial rfl rfl ?_;refine qy ?_;refine a6 ?_;refine a7 ?_;refine sx7 ?_;(iterate 3 refine qy ?_)
 refine a6 ?_;refine ab ?_
 refine aj (ι:=Nat) ⟨[(0,some _),(2,some _),(7,some _),(12,some _)],[]⟩ ⟨⟨c9,c9,c9,c9,trivial⟩,trivial⟩ (fun i=>⟨[(13,some (vI i))],[(0,some (.arr true 1 3 b.length (lf zC (jp a b s i))))]⟩) (fun i=>i ≤ b.length) (fun i=>b.length - i) (0) (Nat.zero_le _) ⟨⟨zy,trivial⟩,⟨⟨_,rfl,(CoO.of_eq (by rw [← a9y]))⟩,trivial⟩⟩ ?_
 rintro i hi
 refine sx7 ?_;refine qy ?_;refine a6 ?_;refine a7 ?_;refine a8 _ rfl (fun r0=>?_) (fun r0=>?_)
 ·
  have h0:=of_decide_eq_true r0
  try simp only [ty] at h0
  refine aa ?_;refine a7 ?_;refine ab ?_;refine sx7 ?_;(iterate 2 refine qy ?_);refine a6 ?_;refine sx7 ?_;(iterate 5 refine qy ?_);refine a6 ?_;refine a8 _ rfl (fun r1=>?_) (fun r1=>?_)
  ·
   have h1:=of_decide_eq_true r1
   try simp only [ty] at h1
   refine gy ?_;(iterate 7 refine qy ?_);refine s9 ?_;refine a6 ?_;refine gy ?_;(iterate 2 refine qy ?_);refine a6 ?_;refine ⟨i + 1, ?_, ?_, ?_⟩
   · show i + 1 ≤ _;omega
   · first | omega | (dsimp only;omega)
   · exact ⟨⟨zy,c9,c9,c9,c9,trivial⟩,⟨⟨_,rfl,(by first | exact qe (by omega) ((pl (by omega)).1 (by assumption)) | exact qp (fun e=>absurd ((pl (by omega)).2 e) (by assumption)))⟩,trivial⟩⟩
  ·
   have h1:=of_decide_eq_false r1
   try simp only [ty] at h1
   refine aa ?_;refine gy ?_;(iterate 2 refine qy ?_);refine a6 ?_;refine ⟨i + 1, ?_, ?_, ?_⟩
   · show i + 1 ≤ _;omega
   · first | omega | (dsimp only;omega)
   · exact ⟨⟨zy,c9,c9,c9,c9,trivial⟩,⟨⟨_,rfl,(by first | exact qe (by omega) ((pl (by omega)).1 (by assumption)) | exact qp (fun e=>absurd ((pl (by omega)).2 e) (by assumption)))⟩,trivial⟩⟩
 ·
  have h0:=of_decide_eq_false r0
  try simp only [ty] at h0
  obtain rfl:i = b.length:=by omega
  refine ak ?_;refine a7 ?_;refine bn 7 rfl rfl rfl ?_;refine gy ?_;(iterate 2 refine qy ?_);refine a6 ?_
  exact hx8 rfl rfl rfl (⟨by rw [adu];exact ajw (ju a b s),trivial⟩)
end Go.Hx
end

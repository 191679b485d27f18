/- A part of the proof: W4 W5. -/
import Derived.Test.YtaegkccfbmekbaaGreatNq28
set_option linter.all false
section
namespace Go.Hx
open Go.Proofs
set_option maxRecDepth 100000
set_option maxHeartbeats 1000000
abbrev vpL (ps:List PV):PV:=.vp ps.length fun j=>ps.getD j .any
theorem rE {n:Nat} {l:List Row} {i:Nat} {b e:Int} (hi:i < l.length) (h:ej n b (l.drop i) = e):(if (l.getD i default).id ≤ b then 1 else if (l.getD i default).vals.length ≠ n then 6 else if ((l.getD i default).vals.all dg) = false then 1 else ej n (l.getD i default).id (l.drop (i + 1))) = e:=by rw [← abb hi];exact h
theorem tE {t:Tbl} {e:Int} (h0:ib t.name = true) (h1:¬ 16 < t.attrs.length) (h2:¬ 1000 < t.rows.length) (h3:xy t.attrs = true) (h:ej t.attrs.length 0 t.rows = e):c6 t = e:=by
 have:¬ (16 < t.attrs.length ∨ 1000 < t.rows.length):=by omega
 simp [c6,h0,h3,h,this]
theorem tE1 {t:Tbl} (h0:ib t.name = false):c6 t = 1:=by simp [c6,h0]
theorem tE3 {t:Tbl} (h0:ib t.name = true) (h1:16 < t.attrs.length ∨ 1000 < t.rows.length):c6 t = 3:=by simp [c6,h0,h1]
theorem tE2 {t:Tbl} (h0:ib t.name = true) (h1:¬ 16 < t.attrs.length) (h2:¬ 1000 < t.rows.length) (h3:xy t.attrs = false):c6 t = 1:=by
 have:¬ (16 < t.attrs.length ∨ 1000 < t.rows.length):=by omega
 simp [c6,h0,h3,this]
theorem an2:aj Tryz.prog 105:=⟨Tryz.f105,Tryz.func105,by kernel_rfl,by kernel_rfl⟩
theorem c92 (r:Row) (id:Int):ap Tryz.prog 105 [r.pc,pP (vpL [.raw (.int .i64 id)])] (b4 [pB (decide (r.id = id))]):=by
 refine ah (nt:=8) ae Tryz.func105 rfl rfl l9 ?_;refine sx7 ?_;refine m9 0 ?_;refine qy ?_;refine a6 ?_;refine sx7 ?_;(iterate 5 refine qy ?_);refine a6 ?_
 exact hx8 rfl rfl rfl (CoL.refl _)
theorem zu:aj Tryz.prog 65:=⟨Tryz.f65,Tryz.func65,by kernel_rfl,by kernel_rfl⟩
theorem c68 (t:Tbl) (id:Int):ap Tryz.prog 65 [t.pc,pI id] (b4 [pI (max (az t.rows id) 0),pB (decide (0 ≤ az t.rows id))]):=by
 refine ah (nt:=15) ae Tryz.func65 rfl rfl l9 ?_;refine sx7 ?_;refine m9 0 ?_;refine m9 1 ?_;(iterate 2 refine qy ?_);refine a6 ?_;refine a7 ?_;refine nb 3 rfl rfl rfl ?_;refine gy ?_
 (iterate 3 refine qy ?_);refine rc rfl rfl rfl rfl rfl rfl aou (c91 t.rows 105 1 (fun j=>[vpL [PV.raw (.int .i64 id)]].getD j .any) (fun r=>decide (r.id = id)) an2 (fun i _=>c92 _ _)) (CoL.refl _) rfl rfl ?_
 refine qy ?_;refine a6 ?_;refine sx7 ?_;(iterate 6 refine qy ?_);refine a6 ?_
 exact hx8 rfl rfl rfl (⟨cci (by show (if idx _ _ < 0 then _ else _) = _;unfold az;split <;> omega),CoC.refl _,trivial⟩)
theorem acb:aj Tryz.prog 35:=⟨Tryz.f35,Tryz.func35,by kernel_rfl,by kernel_rfl⟩
theorem c62 (t:Tbl) (id:Int):ap Tryz.prog 35 [t.pc,pI id] (b4 [pI (max (az t.rows id) 0),pB (decide (0 ≤ az t.rows id))]):=by
 refine ah (nt:=23) ae Tryz.func35 rfl rfl l9 ?_;refine sx7 ?_;refine m9 0 ?_;(iterate 2 refine qy ?_);refine a6 ?_
 refine db (ι:=Unit) ⟨[],[]⟩ ⟨trivial,trivial⟩ (fun _i=>⟨[],[]⟩) (fun _i=>az t.rows id = -1) ?_ ?_
 ·
  refine a7 ?_;refine ame 0 2 rfl rfl (fun hn=>?_);refine gy ?_;refine qy ?_;refine a6 ?_;refine af ?_
  refine av (ι:=Nat) ⟨[(1,some _),(2,some _)],[(0,some _)]⟩ ⟨⟨c9,c9,trivial⟩,⟨u9,trivial⟩⟩ (fun i=>⟨[(6,some (vI i))],[]⟩) (fun i=>i ≤ t.rows.length ∧ ∀ j,j < i → decide ((t.rows.getD j default).id = id) = false) (fun i=>t.rows.length - i) (0) (⟨Nat.zero_le _,dl⟩) ⟨⟨zy,trivial⟩,trivial⟩ ?_
  rintro i ⟨hi,hI⟩
  refine a7 ?_;refine sx7 ?_;(iterate 5 refine qy ?_);refine a6 ?_;refine a8 _ rfl (fun r0=>?_) (fun r0=>?_)
  ·
   have h0:=of_decide_eq_true r0
   try simp only [ty] at h0
   refine aa ?_;refine a7 ?_;refine af ?_;refine sx7 ?_;(iterate 8 refine qy ?_);refine a6 ?_;refine a8 _ rfl (fun r1=>?_) (fun r1=>?_)
   ·
    have h1:=of_decide_eq_true r1
    try simp only [ty] at h1
    refine sx7 ?_;(iterate 3 refine qy ?_);refine a6 ?_;refine aw ?_;refine ⟨.inr rfl, ?_⟩
    have hx:az t.rows id = i:=ya (p:=fun r:Row=>decide (r.id = id)) (i:=i) (by omega) hI (decide_eq_true h1)
    exact f9 rfl rfl (⟨cci (by omega),ccb (by simp [hx]),trivial⟩)
   ·
    have h1:=of_decide_eq_false r1
    try simp only [ty] at h1
    refine aa ?_;refine gy ?_;(iterate 3 refine qy ?_);refine a6 ?_;refine ⟨i + 1, ?_, ?_, ?_⟩
    · exact ⟨by omega,da hI (decide_eq_false h1)⟩
    · first | omega | (dsimp only;omega)
    · exact ⟨⟨zy,c9,c9,trivial⟩,⟨u9,trivial⟩⟩
  ·
   have h0:=of_decide_eq_false r0
   try simp only [ty] at h0
   refine au ?_;refine ⟨(), ?_, ?_⟩
   · exact xu (p:=fun r:Row=>decide (r.id = id)) fun j hj=>hI j (by omega)
   · exact ⟨trivial,trivial⟩
 · rintro _ hj
   refine sx7 ?_;(iterate 2 refine qy ?_);refine a6 ?_
   exact hx8 rfl rfl rfl (⟨cci (by omega),ccb (by simp [hj]),trivial⟩)
theorem x7:aj Tryz.prog 43:=⟨Tryz.f43,Tryz.func43,by kernel_rfl,by kernel_rfl⟩
theorem c82 (t:Tbl):ap Tryz.prog 43 [t.pc] (b4 [pI (c6 t)]):=by
 refine ah (nt:=53) ae Tryz.func43 rfl rfl l9 ?_;refine sx7 ?_;refine m9 0 ?_;refine qy ?_;refine a6 ?_;refine a7 ?_;refine sx7 ?_;(iterate 2 refine qy ?_)
 refine rc rfl rfl rfl rfl rfl rfl aib (aqw _) (CoL.refl _) rfl rfl ?_;refine qy ?_;refine a6 ?_;refine a8 _ rfl (fun r0=>?_) (fun r0=>?_)
 ·
  have h0:=r0
  have h0:=be h0
  refine sx7 ?_;refine qy ?_;refine a6 ?_
  exact hx8 rfl rfl rfl (⟨cci (tE1 (by assumption)).symm,trivial⟩)
 ·
  have h0:=r0
  have h0:=bf h0
  refine aa ?_;refine a7 ?_;refine sx7 ?_;(iterate 5 refine qy ?_);refine b5 rfl rfl (fun r1=>?_) (fun r1=>?_)
  ·
   have h1:=of_decide_eq_true r1
   try simp only [ty] at h1
   (iterate 4 refine k9 (gtf r1) ?_);refine rq rfl rfl rfl rfl rfl ?_ (hp:=r1);refine a6 ?_;refine a8 _ rfl (fun _=>?_) (fun e=>by cases e);refine sx7 ?_;refine qy ?_;refine a6 ?_
   exact hx8 rfl rfl rfl (⟨cci (tE3 (by assumption) (by omega)).symm,trivial⟩)
  ·
   have h1:=of_decide_eq_false r1
   try simp only [ty] at h1
   (iterate 4 refine qy ?_ (hg:=(gff r1)));refine qy ?_;refine a6 ?_;refine a8 _ rfl (fun r2=>?_) (fun r2=>?_)
   ·
    have h2:=r2
    have h2:=bv r1 h2
    have h2:=of_decide_eq_true h2
    try simp only [ty] at h2
    refine sx7 ?_;refine qy ?_;refine a6 ?_
    exact hx8 rfl rfl rfl (⟨cci (tE3 (by assumption) (by omega)).symm,trivial⟩)
   ·
    have h2:=r2
    have h2:=bv r1 h2
    have h2:=of_decide_eq_false h2
    try simp only [ty] at h2
    refine aa ?_;refine a7 ?_;refine sx7 ?_;(iterate 2 refine qy ?_);refine rc rfl rfl rfl rfl rfl rfl atc (aw6 _) (CoL.refl _) rfl rfl ?_;refine qy ?_;refine a6 ?_
    refine a8 _ rfl (fun r3=>?_) (fun r3=>?_)
    ·
     have h3:=r3
     have h3:=be h3
     refine sx7 ?_;refine qy ?_;refine a6 ?_
     exact hx8 rfl rfl rfl (⟨cci (tE2 (by assumption) (by omega) (by omega) (by assumption)).symm,trivial⟩)
    ·
     have h3:=r3
     have h3:=bf h3
     refine aa ?_;refine sx7 ?_;refine qy ?_;refine a6 ?_;refine db (ι:=Unit) ⟨[],[]⟩ ⟨trivial,trivial⟩ (fun _i=>⟨[],[]⟩) (fun _i=>ej t.attrs.length 0 t.rows = 0) ?_ ?_
     ·
      refine sx7 ?_;refine qy ?_;refine a6 ?_;refine af ?_
      refine av (ι:=(Nat × Int)) ⟨[(1,some _)],[(0,some _)]⟩ ⟨⟨c9,trivial⟩,⟨u9,trivial⟩⟩ (fun x=>⟨[(3,some (vI x.2)),(4,some (vI x.1))],[]⟩) (fun x=>x.1 ≤ t.rows.length ∧ ej t.attrs.length x.2 (t.rows.drop x.1) = ej t.attrs.length 0 t.rows) (fun x=>t.rows.length - x.1) ((0,0)) (⟨Nat.zero_le _,rfl⟩) ⟨⟨zy,zy,trivial⟩,trivial⟩ ?_
      rintro ⟨i,b⟩ ⟨hi,hI⟩
      dsimp only at hi hI ⊢
      refine a7 ?_;refine sx7 ?_;(iterate 5 refine qy ?_);refine a6 ?_;refine a8 _ rfl (fun r4=>?_) (fun r4=>?_)
      ·
       have h4:=of_decide_eq_true r4
       try simp only [ty] at h4
       refine aa ?_;refine a7 ?_;refine af ?_;refine sx7 ?_;(iterate 5 refine qy ?_);refine m9 1 ?_;refine s9 ?_;refine a6 ?_;refine a7 ?_;refine sx7 ?_;(iterate 4 refine qy ?_)
       refine a6 ?_;refine a8 _ rfl (fun r5=>?_) (fun r5=>?_)
       ·
        have h5:=of_decide_eq_true r5
        try simp only [ty] at h5
        refine sx7 ?_;refine qy ?_;refine a6 ?_;refine aw ?_;refine ⟨.inr rfl, ?_⟩
        have hs:=rE (by omega) hI
        rw [if_pos (by omega)] at hs
        exact f9 rfl rfl (⟨cci (tE (by assumption) (by omega) (by omega) (by assumption) hs.symm).symm,trivial⟩)
       ·
        have h5:=of_decide_eq_false r5
        try simp only [ty] at h5
        refine aa ?_;refine sx7 ?_;(iterate 3 refine qy ?_);refine a6 ?_;refine a7 ?_;refine sx7 ?_;(iterate 7 refine qy ?_);refine a6 ?_;refine a8 _ rfl (fun r6=>?_) (fun r6=>?_)
        ·
         have h6:=r6
         have h6:=of_decide_eq_false (be h6)
         try simp only [ty] at h6
         refine sx7 ?_;refine qy ?_;refine a6 ?_;refine aw ?_;refine ⟨.inr rfl, ?_⟩
         have hs:=rE (by omega) hI
         rw [if_neg (by omega),if_pos (by omega)] at hs
         exact f9 rfl rfl (⟨cci (tE (by assumption) (by omega) (by omega) (by assumption) hs.symm).symm,trivial⟩)
        ·
         have h6:=r6
         have h6:=of_decide_eq_true (bf h6)
         try simp only [ty] at h6
         refine aa ?_;refine sx7 ?_;(iterate 2 refine qy ?_);refine rc rfl rfl rfl rfl rfl rfl ag6 (c83 _) (CoL.refl _) rfl rfl ?_;refine qy ?_;refine a6 ?_
         refine a8 _ rfl (fun r7=>?_) (fun r7=>?_)
         ·
          have h7:=r7
          have h7:=be h7
          refine sx7 ?_;refine qy ?_;refine a6 ?_;refine aw ?_;refine ⟨.inr rfl, ?_⟩
          have hs:=rE (by omega) hI
          rw [if_neg (by omega),if_neg (by omega),if_pos (by assumption)] at hs
          exact f9 rfl rfl (⟨cci (tE (by assumption) (by omega) (by omega) (by assumption) hs.symm).symm,trivial⟩)
         ·
          have h7:=r7
          have h7:=bf h7
          refine aa ?_;refine gy ?_;(iterate 3 refine qy ?_);refine a6 ?_;refine ⟨(i + 1,(t.rows.getD i default).id), ?_, ?_, ?_⟩
          · refine ⟨by dsimp only;omega, ?_⟩
            have hs:=rE (by omega) hI
            rw [if_neg (by omega),if_neg (by omega),if_neg (fun e=>Bool.noConfusion (e.symm.trans (show _ = true by assumption)))] at hs
            exact hs
          · first | omega | (dsimp only;omega)
          · exact ⟨⟨zy,zy,c9,trivial⟩,⟨u9,trivial⟩⟩
      ·
       have h4:=of_decide_eq_false r4
       try simp only [ty] at h4
       refine au ?_;refine ⟨(), ?_, ?_⟩
       · rw [← hI,List.drop_eq_nil_of_le (by omega)];rfl
       · exact ⟨trivial,trivial⟩
     · rintro _ hj
       refine sx7 ?_;refine qy ?_;refine a6 ?_
       exact hx8 rfl rfl rfl (⟨cci (tE (by assumption) (by omega) (by omega) (by assumption) hj).symm,trivial⟩)
theorem a44:aj Tryz.prog 41:=⟨Tryz.f41,Tryz.func41,by kernel_rfl,by kernel_rfl⟩
theorem c88 (t:Tbl):ap Tryz.prog 41 [t.pc] (b4 [pI (c6 t)]):=by
 refine ah (nt:=70) ae Tryz.func41 rfl rfl l9 ?_;refine sx7 ?_;refine m9 0 ?_;refine qy ?_;refine a6 ?_;refine a7 ?_;refine sx7 ?_;(iterate 2 refine qy ?_)
 refine rc rfl rfl rfl rfl rfl rfl agf (atd _) (CoL.refl _) rfl rfl ?_;refine qy ?_;refine a6 ?_;refine a8 _ rfl (fun r0=>?_) (fun r0=>?_)
 ·
  have h0:=r0
  have h0:=be h0
  refine sx7 ?_;refine qy ?_;refine a6 ?_
  exact hx8 rfl rfl rfl (⟨cci (tE1 (by assumption)).symm,trivial⟩)
 ·
  have h0:=r0
  have h0:=bf h0
  refine aa ?_;refine a7 ?_;refine sx7 ?_;(iterate 5 refine qy ?_);refine b5 rfl rfl (fun r1=>?_) (fun r1=>?_)
  ·
   have h1:=of_decide_eq_true r1
   try simp only [ty] at h1
   (iterate 4 refine k9 (gtf r1) ?_);refine rq rfl rfl rfl rfl rfl ?_ (hp:=r1);refine a6 ?_;refine a8 _ rfl (fun _=>?_) (fun e=>by cases e);refine sx7 ?_;refine qy ?_;refine a6 ?_
   exact hx8 rfl rfl rfl (⟨cci (tE3 (by assumption) (by omega)).symm,trivial⟩)
  ·
   have h1:=of_decide_eq_false r1
   try simp only [ty] at h1
   (iterate 4 refine qy ?_ (hg:=(gff r1)));refine qy ?_;refine a6 ?_;refine a8 _ rfl (fun r2=>?_) (fun r2=>?_)
   ·
    have h2:=r2
    have h2:=bv r1 h2
    have h2:=of_decide_eq_true h2
    try simp only [ty] at h2
    refine sx7 ?_;refine qy ?_;refine a6 ?_
    exact hx8 rfl rfl rfl (⟨cci (tE3 (by assumption) (by omega)).symm,trivial⟩)
   ·
    have h2:=r2
    have h2:=bv r1 h2
    have h2:=of_decide_eq_false h2
    try simp only [ty] at h2
    refine aa ?_;refine db (ι:=Unit) ⟨[(1,some _)],[(0,some _)]⟩ ⟨⟨c9,trivial⟩,⟨u9,trivial⟩⟩ (fun _i=>⟨[],[]⟩) (fun _i=>xy t.attrs = true) ?_ ?_
    ·
     refine sx7 ?_;(iterate 4 refine qy ?_);refine a6 ?_;refine af ?_
     refine av (ι:=Nat) ⟨[(1,some _),(23,some _),(24,some _)],[(0,some _)]⟩ ⟨⟨c9,c9,c9,trivial⟩,⟨u9,trivial⟩⟩ (fun i=>⟨[(25,some (vI i))],[]⟩) (fun i=>i ≤ t.attrs.length ∧ ∀ j,j < i → mi t.attrs j = true) (fun i=>t.attrs.length - i) (0) (⟨Nat.zero_le _,dl⟩) ⟨⟨zy,trivial⟩,trivial⟩ ?_
     rintro i ⟨hi,hI⟩
     refine sx7 ?_;refine qy ?_;refine a6 ?_;refine a7 ?_;refine a8 _ rfl (fun r3=>?_) (fun r3=>?_)
     ·
      have h3:=of_decide_eq_true r3
      try simp only [ty] at h3
      refine aa ?_;refine a7 ?_;refine af ?_;refine sx7 ?_;(iterate 5 refine qy ?_);refine a6 ?_;refine sx7 ?_;refine qy ?_;refine rc rfl rfl rfl rfl rfl rfl agf (atd _) (CoL.refl _) rfl rfl ?_
      (iterate 2 refine qy ?_);refine b5 rfl rfl (fun r4=>?_) (fun r4=>?_)
      ·
       have h4:=r4
       have h4:=be h4
       (iterate 6 refine k9 (gtf r4) ?_);refine rq rfl rfl rfl rfl rfl ?_ (hp:=r4);refine a6 ?_;refine a8 _ rfl (fun _=>?_) (fun e=>by cases e);refine sx7 ?_;refine qy ?_;refine a6 ?_
       exact hx8 rfl rfl rfl (⟨cci (tE2 (by assumption) (by omega) (by omega) (go (i:=i) (by omega) (by first | (unfold mi;simp_all;done) | (unfold mi;rw [Bool.and_eq_false_iff];right;exact decide_eq_false (by omega))))).symm,trivial⟩)
      ·
       have h4:=r4
       have h4:=bf h4
       (iterate 5 refine qy ?_ (hg:=(gff r4)));refine rc rfl rfl rfl rfl rfl rfl asn (av5 (t.attrs.take i) (t.attrs.getD i default)) (⟨CoC.one (a6v (k:=i) (by omega)),CoC.refl _,trivial⟩) rfl (gff r4) ?_
       refine qy ?_;refine a6 ?_;refine a8 _ rfl (fun r5=>?_) (fun r5=>?_)
       ·
        have h5:=r5
        have h5:=bv r4 h5
        refine sx7 ?_;refine qy ?_;refine a6 ?_
        exact hx8 rfl rfl rfl (⟨cci (tE2 (by assumption) (by omega) (by omega) (go (i:=i) (by omega) (by first | (unfold mi;simp_all;done) | (unfold mi;rw [Bool.and_eq_false_iff];right;exact decide_eq_false (by omega))))).symm,trivial⟩)
       ·
        have h5:=r5
        have h5:=bv r4 h5
        have hM:=of_decide_eq_false h5
        refine aa ?_;refine gy ?_;(iterate 2 refine qy ?_);refine a6 ?_;refine ⟨i + 1, ?_, ?_, ?_⟩
        · exact ⟨by omega,da hI (by simp only [mi,Bool.and_eq_true,decide_eq_true_eq];exact ⟨by assumption,by simp_all⟩)⟩
        · first | omega | (dsimp only;omega)
        · exact ⟨⟨zy,c9,c9,c9,trivial⟩,⟨u9,trivial⟩⟩
     ·
      have h3:=of_decide_eq_false r3
      try simp only [ty] at h3
      refine au ?_;refine ⟨(), ?_, ?_⟩
      · exact jf fun j hj=>hI j (by omega)
      · exact ⟨⟨c9,trivial⟩,⟨u9,trivial⟩⟩
    · rintro _ hnm
      refine sx7 ?_;refine qy ?_;refine a6 ?_;refine db (ι:=Unit) ⟨[],[]⟩ ⟨trivial,trivial⟩ (fun _i=>⟨[],[]⟩) (fun _i=>ej t.attrs.length 0 t.rows = 0) ?_ ?_
      ·
       refine sx7 ?_;(iterate 4 refine qy ?_);refine a6 ?_;refine af ?_
       refine av (ι:=(Nat × Int)) ⟨[(1,some _),(43,some _),(44,some _)],[(0,some _)]⟩ ⟨⟨c9,c9,c9,trivial⟩,⟨u9,trivial⟩⟩ (fun x=>⟨[(5,some (vI x.2)),(45,some (vI x.1))],[]⟩) (fun x=>x.1 ≤ t.rows.length ∧ ej t.attrs.length x.2 (t.rows.drop x.1) = ej t.attrs.length 0 t.rows) (fun x=>t.rows.length - x.1) ((0,0)) (⟨Nat.zero_le _,rfl⟩) ⟨⟨zy,zy,trivial⟩,trivial⟩ ?_
       rintro ⟨i,b⟩ ⟨hi,hI⟩
       dsimp only at hi hI ⊢
       refine sx7 ?_;refine qy ?_;refine a6 ?_;refine a7 ?_;refine a8 _ rfl (fun r6=>?_) (fun r6=>?_)
       ·
        have h6:=of_decide_eq_true r6
        try simp only [ty] at h6
        refine aa ?_;refine a7 ?_;refine af ?_;refine sx7 ?_;(iterate 2 refine qy ?_);refine m9 1 ?_;refine s9 ?_;refine a6 ?_;refine a7 ?_;refine af ?_;refine sx7 ?_
        (iterate 5 refine qy ?_);refine a6 ?_;refine a8 _ rfl (fun r7=>?_) (fun r7=>?_)
        ·
         have h7:=of_decide_eq_true r7
         try simp only [ty] at h7
         refine sx7 ?_;refine qy ?_;refine a6 ?_;refine aw ?_;refine ⟨.inr rfl, ?_⟩
         have hs:=rE (by omega) hI
         rw [if_pos (by omega)] at hs
         exact f9 rfl rfl (⟨cci (tE (by assumption) (by omega) (by omega) (by assumption) hs.symm).symm,trivial⟩)
        ·
         have h7:=of_decide_eq_false r7
         try simp only [ty] at h7
         refine sx7 ?_;(iterate 8 refine qy ?_);refine a6 ?_;refine a8 _ rfl (fun r8=>?_) (fun r8=>?_)
         ·
          have h8:=r8
          have h8:=of_decide_eq_false (be h8)
          try simp only [ty] at h8
          refine sx7 ?_;refine qy ?_;refine a6 ?_;refine aw ?_;refine ⟨.inr rfl, ?_⟩
          have hs:=rE (by omega) hI
          rw [if_neg (by omega),if_pos (by omega)] at hs
          exact f9 rfl rfl (⟨cci (tE (by assumption) (by omega) (by omega) (by assumption) hs.symm).symm,trivial⟩)
         ·
          have h8:=r8
          have h8:=of_decide_eq_true (bf h8)
          try simp only [ty] at h8
          refine sx7 ?_;(iterate 2 refine qy ?_);refine rc rfl rfl rfl rfl rfl rfl aja (c93 _) (CoL.refl _) rfl rfl ?_;(iterate 2 refine qy ?_);refine a6 ?_;refine a8 _ rfl (fun r9=>?_) (fun r9=>?_)
          ·
           have h9:=r9
           have h9:=be h9
           refine sx7 ?_;refine qy ?_;refine a6 ?_;refine aw ?_;refine ⟨.inr rfl, ?_⟩
           have hs:=rE (by omega) hI
           rw [if_neg (by omega),if_neg (by omega),if_pos (by assumption)] at hs
           exact f9 rfl rfl (⟨cci (tE (by assumption) (by omega) (by omega) (by assumption) hs.symm).symm,trivial⟩)
          ·
           have h9:=r9
           have h9:=bf h9
           refine aa ?_;refine gy ?_;(iterate 3 refine qy ?_);refine a6 ?_;refine gy ?_;(iterate 2 refine qy ?_);refine a6 ?_;refine ⟨(i + 1,(t.rows.getD i default).id), ?_, ?_, ?_⟩
           · refine ⟨by dsimp only;omega, ?_⟩
             have hs:=rE (by omega) hI
             rw [if_neg (by omega),if_neg (by omega),if_neg (fun e=>Bool.noConfusion (e.symm.trans (show _ = true by assumption)))] at hs
             exact hs
           · first | omega | (dsimp only;omega)
           · exact ⟨⟨zy,zy,c9,c9,c9,trivial⟩,⟨u9,trivial⟩⟩
       ·
        have h6:=of_decide_eq_false r6
        try simp only [ty] at h6
        refine au ?_;refine ⟨(), ?_, ?_⟩
        · rw [← hI,List.drop_eq_nil_of_le (by omega)];rfl
        · exact ⟨trivial,trivial⟩
      · rintro _ hj
        refine sx7 ?_;refine qy ?_;refine a6 ?_
        exact hx8 rfl rfl rfl (⟨cci (tE (by assumption) (by omega) (by omega) (by assumption) hj).symm,trivial⟩)
end Go.Hx
end
section
namespace Go.Hx
open Go.Proofs
set_option maxRecDepth 100000
theorem vz:aj Tryz.prog 12:=⟨Tryz.f12,Tryz.func12,by kernel_rfl,by kernel_rfl⟩
theorem ado (n:Nat) (c:Bool) (f:Nat → Nat → PV) (hn:n ≤ 8796093022208) :
 ce Tryz.prog 12 [.one (.p (.sl n 1 c f))] [] (.v (.one (.ref 0 n))) [(0, .arr true 1 9 n f)] []:=by
 refine ct (nt:=8) ae Tryz.func12 rfl rfl l9 rfl ?_;refine sx7 ?_;refine cg true rfl rfl rfl rfl rfl trivial ?_;refine a6 ?_
 refine ww (ι:=Bool) (fun c=>⟨[(0,some (c5 (.sl n 1 c f)))],[]⟩) (fun _=>True) ?_ fun c _=>?_
 · rcases Nat.eq_zero_or_pos n with hz | h0
   · subst hz
     refine hw_exact' 0 rfl fun ad cap hcap=>?_
     refine sx7 ?_;(iterate 2 refine cg true rfl rfl rfl rfl rfl trivial ?_);refine a6 ?_;refine a8 ad.isNone rfl (fun hc=>?_) (fun hc=>?_)
     · refine sx7 ?_
       refine cg true rfl rfl rfl rfl rfl trivial ?_;refine a6 ?_;refine dw 2 0 true 1 9 f (by decide) rfl (CoP.sl rfl (.inr rfl) (fun h=>h) fun i j hi _=>absurd hi (Nat.not_lt_zero i)) (.inr rfl) rfl ?_
       refine aw ?_;refine ⟨.inr rfl, ?_⟩
       exact ⟨_,_,rfl,trivial,CoR.refl _,⟨u9,trivial⟩⟩
     · refine aa ?_
       exact ⟨false,trivial,⟨⟨_,rfl,CoP.raw_sl hcap⟩,trivial⟩,trivial⟩
   · refine sx7 ?_
     refine cg true rfl rfl rfl rfl rfl trivial ?_;refine cg true rfl rfl rfl rfl rfl h0 ?_;refine a6 ?_;refine a8 false rfl (fun hc=>by cases hc) (fun hc=>?_);refine aa ?_
     exact ⟨c,trivial,⟨c9,trivial⟩,trivial⟩
 · refine sx7 ?_
   refine sn 0 rfl rfl rfl rfl rfl rfl trivial ?_;refine cg true rfl rfl rfl rfl rfl trivial ?_
   refine a0w 0 true rfl rfl rfl rfl rfl rfl ⟨trivial,rfl,rfl,rfl, .inl rfl,by show 0 + n ≤ 9223372036854775807;omega,by show (0 + n) * 16 ≤ 140737488355328;omega,fun _=>.inl rfl⟩ ?_
   refine cg true rfl rfl rfl rfl rfl trivial ?_;refine a6 ?_;refine aw ?_;refine ⟨.inr rfl, ?_⟩
   refine ⟨_,_,rfl,trivial,CoR.of_eq (by show HR.v (.one (.ref 0 (0 + n))) = _;rw [Nat.zero_add]),⟨⟨_,rfl, ?_⟩,trivial⟩⟩
   exact ⟨fun h=>h,rfl,rfl,(Nat.zero_add n).symm,fun i j _ _=>CoP.of_eq (by simp [eo])⟩
theorem a2z (n:Nat) (c:Bool) (f:Nat → Nat → PV) (hn:n ≤ 8796093022208):ap Tryz.prog 12 [.one (.sl n 1 c f)] (.v (.one (.sl n 1 false f))) :=
 ce.pure (args:=[.one (.sl n 1 c f)]) (l:=[.one (.ref 0 n)]) (ado n c f hn) rfl ⟨rfl,trivial⟩
theorem c77 (l:List ByteArray) (h:l.length ≤ 68719476736):ap Tryz.prog 12 [pP (psl 1 a0v l)] (b4 [pP (psl 1 a0v l)]):=a2z l.length false (lf a0v l) (by omega)
theorem a51:aj Tryz.prog 67:=⟨Tryz.f67,Tryz.func67,by kernel_rfl,by kernel_rfl⟩
theorem a6d (n:Nat) (c:Bool) (f:Nat → Nat → PV) (hn:n ≤ 4398046511104) :
 ce Tryz.prog 67 [.one (.p (.sl n 3 c f))] [] (.v (.one (.ref 0 n))) [(0, .arr true 3 81 n f)] []:=by
 refine ct (nt:=8) ae Tryz.func67 rfl rfl l9 rfl ?_;refine sx7 ?_;refine cg true rfl rfl rfl rfl rfl trivial ?_;refine a6 ?_
 refine ww (ι:=Bool) (fun c=>⟨[(0,some (c5 (.sl n 3 c f)))],[]⟩) (fun _=>True) ?_ fun c _=>?_
 · rcases Nat.eq_zero_or_pos n with hz | h0
   · subst hz
     refine hw_exact' 0 rfl fun ad cap hcap=>?_
     refine sx7 ?_;(iterate 2 refine cg true rfl rfl rfl rfl rfl trivial ?_);refine a6 ?_;refine a8 ad.isNone rfl (fun hc=>?_) (fun hc=>?_)
     · refine sx7 ?_
       refine cg true rfl rfl rfl rfl rfl trivial ?_;refine a6 ?_;refine dw 2 0 true 3 81 f (by decide) rfl (CoP.sl rfl (.inr rfl) (fun h=>h) fun i j hi _=>absurd hi (Nat.not_lt_zero i)) (.inr rfl) rfl ?_
       refine aw ?_;refine ⟨.inr rfl, ?_⟩
       exact ⟨_,_,rfl,trivial,CoR.refl _,⟨u9,trivial⟩⟩
     · refine aa ?_
       exact ⟨false,trivial,⟨⟨_,rfl,CoP.raw_sl hcap⟩,trivial⟩,trivial⟩
   · refine sx7 ?_
     refine cg true rfl rfl rfl rfl rfl trivial ?_;refine cg true rfl rfl rfl rfl rfl h0 ?_;refine a6 ?_;refine a8 false rfl (fun hc=>by cases hc) (fun hc=>?_);refine aa ?_
     exact ⟨c,trivial,⟨c9,trivial⟩,trivial⟩
 · refine sx7 ?_
   refine sn 0 rfl rfl rfl rfl rfl rfl trivial ?_;refine cg true rfl rfl rfl rfl rfl trivial ?_
   refine a0w 0 true rfl rfl rfl rfl rfl rfl ⟨trivial,rfl,rfl,rfl, .inl rfl,by show 0 + n ≤ 9223372036854775807;omega,by show (0 + n) * 32 ≤ 140737488355328;omega,fun _=>.inl rfl⟩ ?_
   refine cg true rfl rfl rfl rfl rfl trivial ?_;refine a6 ?_;refine aw ?_;refine ⟨.inr rfl, ?_⟩
   refine ⟨_,_,rfl,trivial,CoR.of_eq (by show HR.v (.one (.ref 0 (0 + n))) = _;rw [Nat.zero_add]),⟨⟨_,rfl, ?_⟩,trivial⟩⟩
   exact ⟨fun h=>h,rfl,rfl,(Nat.zero_add n).symm,fun i j _ _=>CoP.of_eq (by simp [eo])⟩
theorem ac0 (n:Nat) (c:Bool) (f:Nat → Nat → PV) (hn:n ≤ 4398046511104):ap Tryz.prog 67 [.one (.sl n 3 c f)] (.v (.one (.sl n 3 false f))) :=
 ce.pure (args:=[.one (.sl n 3 c f)]) (l:=[.one (.ref 0 n)]) (a6d n c f hn) rfl ⟨rfl,trivial⟩
theorem c78 (l:List Val) (h:l.length ≤ 68719476736):ap Tryz.prog 67 [pP (psl 3 Val.c l)] (b4 [pP (psl 3 Val.c l)]):=ac0 l.length false (lf Val.c l) (by omega)
theorem avi (l:List Val) (h:l.length ≤ 68719476736):ce Tryz.prog 67 [.one (.p (psl 3 Val.c l))] [] (.v (.one (.ref 0 l.length))) [(0, .arr true 3 81 l.length (lf Val.c l))] []:=a6d l.length false (lf Val.c l) (by omega)
theorem xl:aj Tryz.prog 93:=⟨Tryz.f93,Tryz.func93,by kernel_rfl,by kernel_rfl⟩
theorem c98 (r:Row) (h:r.vals.length ≤ 68719476736):ap Tryz.prog 93 [r.pc] (b4 [r.pc]):=by
 refine ah (nt:=9) ae Tryz.func93 rfl rfl l9 ?_;refine sx7 ?_;refine m9 0 ?_;refine m9 1 ?_;refine a6 ?_;refine a7 ?_;refine ax (E:=aq) ae ak [0,1,2,3,4,5,6] ?_
 (iterate 4 refine qy ?_);refine rc rfl rfl rfl rfl rfl rfl a51 (c78 _ (by first | assumption | omega)) (CoL.refl _) rfl rfl ?_;refine qy ?_;refine s9 ?_;refine a6 ?_;refine ⟨by kernel_rfl, ?_⟩
 exact hx8 rfl rfl rfl (CoL.refl _)
theorem sy:aj Tryz.prog 127:=⟨Tryz.f127,Tryz.func127,by kernel_rfl,by kernel_rfl⟩
theorem c85 (r:Row) (h:r.vals.length ≤ 68719476736):ap Tryz.prog 127 [r.pc] (b4 [r.pc]):=by
 refine ah (nt:=10) ae Tryz.func127 rfl rfl l9 ?_;refine sx7 ?_;refine m9 0 ?_;refine m9 1 ?_;refine a6 ?_;refine a7 ?_;refine ax (E:=aq) ae ak [0,1,2,3,4,5,6,7] ?_
 (iterate 2 refine qy ?_);refine m9 2 ?_;(iterate 2 refine qy ?_);refine ra 3 true rfl rfl rfl rfl rfl rfl ?_;refine qy ?_;refine s9 ?_;refine a6 ?_;refine ⟨by kernel_rfl, ?_⟩
 exact hx8 rfl rfl rfl (⟨CoC.agg ⟨CoP.refl _,sx,trivial⟩,trivial⟩)
theorem a9x:aj Tryz.prog 89:=⟨Tryz.f89,Tryz.func89,by kernel_rfl,by kernel_rfl⟩
theorem c94 (t:Tbl) (l:List Row) (ha:t.attrs.length ≤ 68719476736) (hl:l.length ≤ 68719476736) (hr:js l):ap Tryz.prog 89 [t.pc,pP (rows l)] (b4 [(⟨t.name,t.attrs,l⟩:Tbl).pc]):=by
 refine ah (nt:=29) ae Tryz.func89 rfl rfl l9 ?_;refine sx7 ?_;refine m9 0 ?_;refine m9 1 ?_;refine a6 ?_;refine a7 ?_;refine ax (E:=aq) ae ak [0,1,2,3,4,5,6,7] ?_
 (iterate 4 refine qy ?_);refine rc rfl rfl rfl rfl rfl rfl vz (c77 _ ha) (CoL.refl _) rfl rfl ?_;refine qy ?_;refine m9 2 ?_;refine s9 ?_;refine a6 ?_;refine ⟨by kernel_rfl, ?_⟩;refine a7 ?_;refine sx7 ?_
 (iterate 3 refine qy ?_);refine a6 ?_;refine af ?_
 refine fg 2 2 9 true 2 48 (lf Row.c l) (by decide) rfl rfl (CoP.sl rfl (.inr rfl) (fun h=>h) (fun i j hi _=>absurd hi (Nat.not_lt_zero i))) (.inr rfl) rfl rfl ?_
 refine av (ι:=Nat) ⟨[(4,some _),(5,some _),(14,some _),(15,some _)],[(1,some _)]⟩ ⟨⟨c9,c9,c9,c9,trivial⟩,⟨u9,trivial⟩⟩ (fun i=>⟨[(16,some (vI i))],[(2,some (.box [.p (.raw (.string t.name)), .p (i7 t.attrs), .ref 9 i])),(9,some (.arr true 2 48 i (lf Row.c l)))]⟩) (fun i=>i ≤ l.length) (fun i=>l.length - i) (0) (Nat.zero_le _) ⟨⟨zy,trivial⟩,⟨u9,u9,trivial⟩⟩ ?_
 rintro i hi
 refine sx7 ?_;refine qy ?_;refine a6 ?_;refine a7 ?_;refine a8 _ rfl (fun r0=>?_) (fun r0=>?_)
 ·
  have h0:=of_decide_eq_true r0
  try simp only [ty] at h0
  refine aa ?_;refine a7 ?_;refine af ?_;refine sx7 ?_;(iterate 2 refine qy ?_);refine m9 3 ?_;refine s9 ?_;refine a6 ?_;refine ax (E:=aq) ae ak [0,1,2,3,4,5,6,7] ?_
  (iterate 3 refine qy ?_);refine rc rfl rfl rfl rfl rfl rfl xl (c98 _ (hr i (by omega)).1) (CoL.refl _) rfl rfl ?_;refine m9 4 ?_;refine ra 5 true rfl rfl rfl rfl rfl rfl ?_;refine qy ?_;refine s9 ?_;refine a6 ?_
  refine ⟨by kernel_rfl, ?_⟩;refine gy ?_;(iterate 2 refine qy ?_);refine a6 ?_;refine ⟨i + 1, ?_, ?_, ?_⟩
  · show i + 1 ≤ _
    omega
  · first | omega | (dsimp only;omega)
  · exact ⟨⟨zy,c9,c9,c9,c9,trivial⟩,⟨u9,⟨_,rfl,(kz (fun h=>h) (lt2 (CoP.refl _) (CoP.refl _)))⟩,u9,trivial⟩⟩
 ·
  have h0:=of_decide_eq_false r0
  try simp only [ty] at h0
  obtain rfl:i = l.length:=by omega
  refine au ?_;refine sx7 ?_;refine qy ?_;refine s9 ?_;refine a6 ?_
  exact hx8 rfl rfl rfl (CoL.refl _)
theorem aa9:aj Tryz.prog 96:=⟨Tryz.f96,Tryz.func96,by kernel_rfl,by kernel_rfl⟩
theorem c84 (t:Tbl) (l:List Row) (ha:t.attrs.length ≤ 68719476736) (hl:l.length ≤ 68719476736) (hr:js l):ap Tryz.prog 96 [t.pc,pP (rows l)] (b4 [(⟨t.name,t.attrs,l⟩:Tbl).pc]):=by
 refine ah (nt:=31) ae Tryz.func96 rfl rfl l9 ?_;refine sx7 ?_;refine m9 0 ?_;refine m9 1 ?_;refine a6 ?_;refine a7 ?_;refine ax (E:=aq) ae ak [0,1,2,3,4,5,6,7,8] ?_
 (iterate 2 refine qy ?_);refine m9 2 ?_;(iterate 2 refine qy ?_);refine ra 3 true rfl rfl rfl rfl rfl rfl ?_;refine qy ?_;refine m9 4 ?_;refine s9 ?_;refine a6 ?_;refine ⟨by kernel_rfl, ?_⟩
 refine ju 4 1 rfl rfl rfl rfl rfl ?_;refine a7 ?_;refine sx7 ?_;refine qy ?_;refine a6 ?_;refine af ?_
 refine fg 4 2 9 true 2 48 (lf Row.c l) (by decide) rfl rfl (CoP.sl rfl (.inr rfl) (fun h=>h) (fun i j hi _=>absurd hi (Nat.not_lt_zero i))) (.inr rfl) rfl rfl ?_
 refine av (ι:=Nat) ⟨[(1,some _),(4,some _),(5,some _)],[(1,some _)]⟩ ⟨⟨c9,c9,c9,trivial⟩,⟨u9,trivial⟩⟩ (fun i=>⟨[(6,some (vI i))],[(4,some (.box [.p (.raw (.string t.name)), .p (i7 t.attrs), .ref 9 i])),(9,some (.arr true 2 48 i (lf Row.c l)))]⟩) (fun i=>i ≤ l.length) (fun i=>l.length - i) (0) (Nat.zero_le _) ⟨⟨zy,trivial⟩,⟨⟨_,rfl,⟨CoH.refl _,sx,CoH.refl _,trivial⟩⟩,u9,trivial⟩⟩ ?_
 rintro i hi
 refine a7 ?_;refine sx7 ?_;(iterate 4 refine qy ?_);refine a6 ?_;refine a8 _ rfl (fun r0=>?_) (fun r0=>?_)
 ·
  have h0:=of_decide_eq_true r0
  try simp only [ty] at h0
  refine aa ?_;refine a7 ?_;refine af ?_;refine ax (E:=aq) ae ak [0,1,2,3,4,5,6,7,8,9,10] ?_;(iterate 6 refine qy ?_)
  refine rc rfl rfl rfl rfl rfl rfl sy (c85 _ (hr i (by omega)).1) (CoL.refl _) rfl rfl ?_;refine m9 5 ?_;refine ra 6 true rfl rfl rfl rfl rfl rfl ?_;refine qy ?_;refine s9 ?_;refine a6 ?_;refine ⟨by kernel_rfl, ?_⟩
  refine gy ?_;(iterate 3 refine qy ?_);refine a6 ?_;refine ⟨i + 1, ?_, ?_, ?_⟩
  · show i + 1 ≤ _
    omega
  · first | omega | (dsimp only;omega)
  · exact ⟨⟨zy,c9,c9,c9,trivial⟩,⟨u9,⟨_,rfl,(kz (fun h=>h) (lt2 (CoP.refl _) (CoP.refl _)))⟩,u9,trivial⟩⟩
 ·
  have h0:=of_decide_eq_false r0
  try simp only [ty] at h0
  obtain rfl:i = l.length:=by omega
  refine au ?_;refine sx7 ?_;refine qy ?_;refine s9 ?_;refine a6 ?_
  exact hx8 rfl rfl rfl (CoL.refl _)
theorem a4s:aj Tryz.prog 63:=⟨Tryz.f63,Tryz.func63,by kernel_rfl,by kernel_rfl⟩
theorem c49 (c:Int) (hc:0 ≤ c):ap Tryz.prog 63 [pU8 c] (b4 [(ofI (c % 12)).pc]):=by
 refine ah (nt:=39) ae Tryz.func63 rfl rfl l9 ?_;refine sx7 ?_;refine m9 0 ?_;refine a6 ?_;refine a7 ?_;refine sx7 ?_;(iterate 2 refine qy ?_);refine a6 ?_;refine af ?_;refine sx7 ?_
 (iterate 2 refine qy ?_);refine a6 ?_;refine a8 _ rfl (fun r0=>?_) (fun r0=>?_)
 ·
  have h0:=of_decide_eq_true r0
  try simp only [ty] at h0
  refine sx7 ?_;refine qy ?_;refine s9 ?_;refine a6 ?_
  exact hx8 rfl rfl rfl (⟨CoC.of_eq (by rw [show ofI (c % 12) = ⟨1,0,emp⟩ from by simp [ofI, *]];rfl),trivial⟩)
 ·
  have h0:=of_decide_eq_false r0
  try simp only [ty] at h0
  refine sx7 ?_;(iterate 2 refine qy ?_);refine a6 ?_;refine a8 _ rfl (fun r1=>?_) (fun r1=>?_)
  ·
   have h1:=of_decide_eq_true r1
   try simp only [ty] at h1
   refine sx7 ?_;refine qy ?_;refine s9 ?_;refine a6 ?_
   exact hx8 rfl rfl rfl (⟨CoC.of_eq (by rw [show ofI (c % 12) = ⟨1,1,emp⟩ from by simp [ofI, *]];rfl),trivial⟩)
  ·
   have h1:=of_decide_eq_false r1
   try simp only [ty] at h1
   refine sx7 ?_;(iterate 2 refine qy ?_);refine a6 ?_;refine a8 _ rfl (fun r2=>?_) (fun r2=>?_)
   ·
    have h2:=of_decide_eq_true r2
    try simp only [ty] at h2
    refine sx7 ?_;refine qy ?_;refine s9 ?_;refine a6 ?_
    exact hx8 rfl rfl rfl (⟨CoC.of_eq (by rw [show ofI (c % 12) = ⟨1,2,emp⟩ from by simp [ofI, *]];rfl),trivial⟩)
   ·
    have h2:=of_decide_eq_false r2
    try simp only [ty] at h2
    refine sx7 ?_;(iterate 2 refine qy ?_);refine a6 ?_;refine a8 _ rfl (fun r3=>?_) (fun r3=>?_)
    ·
     have h3:=of_decide_eq_true r3
     try simp only [ty] at h3
     refine sx7 ?_;refine qy ?_;refine s9 ?_;refine a6 ?_
     exact hx8 rfl rfl rfl (⟨CoC.of_eq (by rw [show ofI (c % 12) = ⟨0,0,emp⟩ from by simp [ofI, *]];rfl),trivial⟩)
    ·
     have h3:=of_decide_eq_false r3
     try simp only [ty] at h3
     refine sx7 ?_;(iterate 2 refine qy ?_);refine a6 ?_;refine a8 _ rfl (fun r4=>?_) (fun r4=>?_)
     ·
      have h4:=of_decide_eq_true r4
      try simp only [ty] at h4
      refine sx7 ?_;refine qy ?_;refine s9 ?_;refine a6 ?_
      exact hx8 rfl rfl rfl (⟨CoC.of_eq (by rw [show ofI (c % 12) = ⟨2,0,⟨#[97]⟩⟩ from by simp [ofI, *]];rfl),trivial⟩)
     ·
      have h4:=of_decide_eq_false r4
      try simp only [ty] at h4
      refine sx7 ?_;(iterate 2 refine qy ?_);refine a6 ?_;refine a8 _ rfl (fun r5=>?_) (fun r5=>?_)
      ·
       have h5:=of_decide_eq_true r5
       try simp only [ty] at h5
       refine sx7 ?_;refine qy ?_;refine s9 ?_;refine a6 ?_
       exact hx8 rfl rfl rfl (⟨CoC.of_eq (by rw [show ofI (c % 12) = ⟨2,0,⟨#[98]⟩⟩ from by simp [ofI, *]];rfl),trivial⟩)
      ·
       have h5:=of_decide_eq_false r5
       try simp only [ty] at h5
       refine sx7 ?_;(iterate 2 refine qy ?_);refine a6 ?_;refine a8 _ rfl (fun r6=>?_) (fun r6=>?_)
       ·
        have h6:=of_decide_eq_true r6
        try simp only [ty] at h6
        refine sx7 ?_;refine qy ?_;refine s9 ?_;refine a6 ?_
        exact hx8 rfl rfl rfl (⟨CoC.of_eq (by rw [show ofI (c % 12) = ⟨2,0,emp⟩ from by simp [ofI, *]];rfl),trivial⟩)
       ·
        have h6:=of_decide_eq_false r6
        try simp only [ty] at h6
        refine sx7 ?_;(iterate 2 refine qy ?_);refine a6 ?_;refine a8 _ rfl (fun r7=>?_) (fun r7=>?_)
        ·
         have h7:=of_decide_eq_true r7
         try simp only [ty] at h7
         refine sx7 ?_;refine qy ?_;refine s9 ?_;refine a6 ?_
         exact hx8 rfl rfl rfl (⟨CoC.of_eq (by rw [show ofI (c % 12) = ⟨3,1,emp⟩ from by simp [ofI, *]];rfl),trivial⟩)
        ·
         have h7:=of_decide_eq_false r7
         try simp only [ty] at h7
         refine sx7 ?_;(iterate 2 refine qy ?_);refine a6 ?_;refine a8 _ rfl (fun r8=>?_) (fun r8=>?_)
         ·
          have h8:=of_decide_eq_true r8
          try simp only [ty] at h8
          refine sx7 ?_;refine qy ?_;refine s9 ?_;refine a6 ?_
          exact hx8 rfl rfl rfl (⟨CoC.of_eq (by rw [show ofI (c % 12) = ⟨1, -1,emp⟩ from by simp [ofI, *]];rfl),trivial⟩)
         ·
          have h8:=of_decide_eq_false r8
          try simp only [ty] at h8
          refine sx7 ?_;(iterate 2 refine qy ?_);refine a6 ?_;refine a8 _ rfl (fun r9=>?_) (fun r9=>?_)
          ·
           have h9:=of_decide_eq_true r9
           try simp only [ty] at h9
           refine sx7 ?_;refine qy ?_;refine s9 ?_;refine a6 ?_
           exact hx8 rfl rfl rfl (⟨CoC.of_eq (by rw [show ofI (c % 12) = ⟨2,0,⟨#[97,98]⟩⟩ from by simp [ofI, *]];rfl),trivial⟩)
          ·
           have h9:=of_decide_eq_false r9
           try simp only [ty] at h9
           refine sx7 ?_;(iterate 2 refine qy ?_);refine a6 ?_;refine a8 _ rfl (fun r10=>?_) (fun r10=>?_)
           ·
            have h10:=of_decide_eq_true r10
            try simp only [ty] at h10
            refine sx7 ?_;refine qy ?_;refine s9 ?_;refine a6 ?_
            exact hx8 rfl rfl rfl (⟨CoC.of_eq (by rw [show ofI (c % 12) = ⟨3,2,emp⟩ from by simp [ofI, *]];rfl),trivial⟩)
           ·
            have h10:=of_decide_eq_false r10
            try simp only [ty] at h10
            refine aa ?_;refine sx7 ?_;refine qy ?_;refine s9 ?_;refine a6 ?_
            exact hx8 rfl rfl rfl (⟨CoC.of_eq (by rw [show ofI (c % 12) = ⟨1,7,emp⟩ from by simp [ofI, *]];rfl),trivial⟩)
end Go.Hx
end

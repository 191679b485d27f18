/- A part of the proof: X27 Ch23 X28. -/
import Derived.Test.YtidophngianjiaaGreatDoorBx28
set_option linter.all false
section
namespace Go.Hx
open Go.Proofs
set_option maxRecDepth 100000
set_option maxHeartbeats 1000000
theorem ahb:goodFn Tryz.prog 146:=⟨Tryz.f146,Tryz.func146,by kernel_rfl,by kernel_rfl⟩
theorem asn (n:Int) (l:List Rw) (p m:List Fd) (i a b:Int):ai Tryz.prog 146 [pT n l,pP (fdl p),pP (fdl m), .agg [.raw (.bool true), .raw (.int .i64 i), .raw (.int .i64 a), .raw (.int .i64 b)]] (ao [pT (ji n l p m true i a b).1 (ji n l p m true i a b).2.1,pI (ji n l p m true i a b).2.2]):=by
 refine ah (nt:=158) ae Tryz.func146 rfl rfl l9 ?_;refine sx7 ?_;refine m9 0 ?_;refine m9 1 ?_;refine m9 2 ?_;refine qy ?_;refine a6 ?_;refine a7 ?_;refine sx7 ?_;refine qy ?_
 refine rc rfl rfl rfl rfl rfl rfl a8g (a40 n l) (CoL.refl _) rfl rfl ?_;refine qy ?_;refine a6 ?_;refine a8 _ rfl (fun r0=>?_) (fun r0=>?_)
 ·
  have h0:=r0
  have h0:=av h0
  refine sx7 ?_;refine qy ?_;refine s9 ?_;refine qy ?_;refine a6 ?_;refine ap ?_;refine ⟨.inr rfl, ?_⟩
  have he:=aay (n:=n) (l:=l) (p:=p) (m:=m) (mu:=true) (i:=i) (a:=a) (b:=b) (by simp_all)
  exact f9 rfl rfl (by rw [he];exact ⟨CoC.agg ⟨CoP.refl _,bz,trivial⟩,CoC.refl _,trivial⟩)
 ·
  have h0:=r0
  have h0:=aw h0
  have hT:tok n l = true:=by simp_all
  obtain ⟨hn0,hn16,hl256,hrow⟩:=go hT
  refine aa ?_;refine a7 ?_;refine sx7 ?_;(iterate 4 refine qy ?_);refine rc rfl rfl rfl rfl rfl rfl x8 (uc n p m) (CoL.refl _) rfl rfl ?_;refine qy ?_;refine a6 ?_;refine sx7 ?_
  (iterate 2 refine qy ?_);refine a6 ?_;refine a8 _ rfl (fun r1=>?_) (fun r1=>?_)
  ·
   have h1:=r1
   have h1:=of_decide_eq_false (av h1)
   try simp only [ty] at h1
   refine sx7 ?_;(iterate 2 refine qy ?_);refine s9 ?_;refine qy ?_;refine a6 ?_;refine ap ?_;refine ⟨.inr rfl, ?_⟩
   have he:=aeh (mu:=true) (i:=i) (a:=a) (b:=b) hT (by assumption)
   exact f9 rfl rfl (by rw [he];exact ⟨CoC.agg ⟨CoP.refl _,bz,trivial⟩,CoC.refl _,trivial⟩)
  ·
   have h1:=r1
   have h1:=of_decide_eq_true (aw h1)
   try simp only [ty] at h1
   have hbe:c8 n p m = 0:=by assumption
   obtain ⟨_,_,hpl,hpa,hml,_⟩:=k7 hbe
   refine aa ?_;refine sx7 ?_;(iterate 4 refine qy ?_);refine a6 ?_;refine a7 ?_;refine sx7 ?_;(iterate 4 refine qy ?_);refine b4 rfl rfl (fun r2=>?_) (fun r2=>?_)
   ·
    have h2:=of_decide_eq_true r2
    try simp only [ty] at h2
    (iterate 4 refine k9 (gtf r2) ?_);refine rq rfl rfl rfl rfl rfl ?_ (hp:=r2);refine qy ?_;(iterate 3 refine k9 rfl ?_);(iterate 2 refine qy ?_);(iterate 4 refine k9 rfl ?_);(iterate 2 refine qy ?_)
    (iterate 5 refine k9 rfl ?_);(iterate 2 refine qy ?_);(iterate 3 refine k9 rfl ?_);(iterate 2 refine qy ?_);(iterate 9 refine k9 rfl ?_);(iterate 2 refine qy ?_);(iterate 10 refine k9 rfl ?_);refine qy ?_
    refine a6 ?_;refine a8 _ rfl (fun _=>?_) (fun e=>by cases e);refine sx7 ?_;refine qy ?_;refine s9 ?_;refine qy ?_;refine a6 ?_;refine ap ?_;refine ⟨.inr rfl, ?_⟩
    have he:=gc (mu:=true) (i:=i) (a:=a) (b:=b) hT hbe (by unfold ig;first | exact .inl (by omega) | exact .inr (.inl (by omega)) | exact .inr (.inr (.inl (by omega))) | exact .inr (.inr (.inr (.inl (by omega)))) | exact .inr (.inr (.inr (.inr (.inl (by omega))))) | exact .inr (.inr (.inr (.inr (.inr (.inl (by omega)))))) | exact .inr (.inr (.inr (.inr (.inr (.inr (.inl ⟨by first | assumption | simp_all,by omega⟩)))))) | exact .inr (.inr (.inr (.inr (.inr (.inr (.inr ⟨by first | assumption | simp_all,by omega⟩)))))))
    exact f9 rfl rfl (by rw [he];exact ⟨CoC.agg ⟨CoP.refl _,bz,trivial⟩,CoC.refl _,trivial⟩)
   ·
    have h2:=of_decide_eq_false r2
    try simp only [ty] at h2
    (iterate 4 refine qy ?_ (hg:=(gff r2)));(iterate 2 refine qy ?_);refine b4 rfl rfl (fun r3=>?_) (fun r3=>?_)
    ·
     have h3:=r3
     have h3:=bg r2 h3
     have h3:=of_decide_eq_true h3
     try simp only [ty] at h3
     (iterate 3 refine k9 (gtf r3) ?_);refine rq rfl rfl rfl rfl rfl ?_ (hp:=r3);refine qy ?_;(iterate 4 refine k9 rfl ?_);(iterate 2 refine qy ?_);(iterate 5 refine k9 rfl ?_);(iterate 2 refine qy ?_)
     (iterate 3 refine k9 rfl ?_);(iterate 2 refine qy ?_);(iterate 9 refine k9 rfl ?_);(iterate 2 refine qy ?_);(iterate 10 refine k9 rfl ?_);refine qy ?_;refine a6 ?_
     refine a8 _ rfl (fun _=>?_) (fun e=>by cases e);refine sx7 ?_;refine qy ?_;refine s9 ?_;refine qy ?_;refine a6 ?_;refine ap ?_;refine ⟨.inr rfl, ?_⟩
     have he:=gc (mu:=true) (i:=i) (a:=a) (b:=b) hT hbe (by unfold ig;first | exact .inl (by omega) | exact .inr (.inl (by omega)) | exact .inr (.inr (.inl (by omega))) | exact .inr (.inr (.inr (.inl (by omega)))) | exact .inr (.inr (.inr (.inr (.inl (by omega))))) | exact .inr (.inr (.inr (.inr (.inr (.inl (by omega)))))) | exact .inr (.inr (.inr (.inr (.inr (.inr (.inl ⟨by first | assumption | simp_all,by omega⟩)))))) | exact .inr (.inr (.inr (.inr (.inr (.inr (.inr ⟨by first | assumption | simp_all,by omega⟩)))))))
     exact f9 rfl rfl (by rw [he];exact ⟨CoC.agg ⟨CoP.refl _,bz,trivial⟩,CoC.refl _,trivial⟩)
    ·
     have h3:=r3
     have h3:=bg r2 h3
     have h3:=of_decide_eq_false h3
     try simp only [ty] at h3
     (iterate 3 refine qy ?_ (hg:=(gff r3)));(iterate 2 refine qy ?_);refine b4 rfl rfl (fun r4=>?_) (fun r4=>?_)
     ·
      have h4:=r4
      have h4:=bg r3 h4
      have h4:=of_decide_eq_true h4
      try simp only [ty] at h4
      (iterate 4 refine k9 (gtf r4) ?_);refine rq rfl rfl rfl rfl rfl ?_ (hp:=r4);refine qy ?_;(iterate 5 refine k9 rfl ?_);(iterate 2 refine qy ?_);(iterate 3 refine k9 rfl ?_);(iterate 2 refine qy ?_)
      (iterate 9 refine k9 rfl ?_);(iterate 2 refine qy ?_);(iterate 10 refine k9 rfl ?_);refine qy ?_;refine a6 ?_;refine a8 _ rfl (fun _=>?_) (fun e=>by cases e);refine sx7 ?_;refine qy ?_;refine s9 ?_
      refine qy ?_;refine a6 ?_;refine ap ?_;refine ⟨.inr rfl, ?_⟩
      have he:=gc (mu:=true) (i:=i) (a:=a) (b:=b) hT hbe (by unfold ig;first | exact .inl (by omega) | exact .inr (.inl (by omega)) | exact .inr (.inr (.inl (by omega))) | exact .inr (.inr (.inr (.inl (by omega)))) | exact .inr (.inr (.inr (.inr (.inl (by omega))))) | exact .inr (.inr (.inr (.inr (.inr (.inl (by omega)))))) | exact .inr (.inr (.inr (.inr (.inr (.inr (.inl ⟨by first | assumption | simp_all,by omega⟩)))))) | exact .inr (.inr (.inr (.inr (.inr (.inr (.inr ⟨by first | assumption | simp_all,by omega⟩)))))))
      exact f9 rfl rfl (by rw [he];exact ⟨CoC.agg ⟨CoP.refl _,bz,trivial⟩,CoC.refl _,trivial⟩)
     ·
      have h4:=r4
      have h4:=bg r3 h4
      have h4:=of_decide_eq_false h4
      try simp only [ty] at h4
      (iterate 4 refine qy ?_ (hg:=(gff r4)));(iterate 2 refine qy ?_);refine b4 rfl rfl (fun r5=>?_) (fun r5=>?_)
      ·
       have h5:=r5
       have h5:=bg r4 h5
       have h5:=of_decide_eq_true h5
       try simp only [ty] at h5
       (iterate 5 refine k9 (gtf r5) ?_);refine rq rfl rfl rfl rfl rfl ?_ (hp:=r5);refine qy ?_;(iterate 3 refine k9 rfl ?_);(iterate 2 refine qy ?_);(iterate 9 refine k9 rfl ?_);(iterate 2 refine qy ?_)
       (iterate 10 refine k9 rfl ?_);refine qy ?_;refine a6 ?_;refine a8 _ rfl (fun _=>?_) (fun e=>by cases e);refine sx7 ?_;refine qy ?_;refine s9 ?_;refine qy ?_;refine a6 ?_;refine ap ?_
       refine ⟨.inr rfl, ?_⟩
       have he:=gc (mu:=true) (i:=i) (a:=a) (b:=b) hT hbe (by unfold ig;first | exact .inl (by omega) | exact .inr (.inl (by omega)) | exact .inr (.inr (.inl (by omega))) | exact .inr (.inr (.inr (.inl (by omega)))) | exact .inr (.inr (.inr (.inr (.inl (by omega))))) | exact .inr (.inr (.inr (.inr (.inr (.inl (by omega)))))) | exact .inr (.inr (.inr (.inr (.inr (.inr (.inl ⟨by first | assumption | simp_all,by omega⟩)))))) | exact .inr (.inr (.inr (.inr (.inr (.inr (.inr ⟨by first | assumption | simp_all,by omega⟩)))))))
       exact f9 rfl rfl (by rw [he];exact ⟨CoC.agg ⟨CoP.refl _,bz,trivial⟩,CoC.refl _,trivial⟩)
      ·
       have h5:=r5
       have h5:=bg r4 h5
       have h5:=of_decide_eq_false h5
       try simp only [ty] at h5
       (iterate 5 refine qy ?_ (hg:=(gff r5)));(iterate 2 refine qy ?_);refine b4 rfl rfl (fun r6=>?_) (fun r6=>?_)
       ·
        have h6:=r6
        have h6:=bg r5 h6
        have h6:=of_decide_eq_true h6
        try simp only [ty] at h6
        (iterate 3 refine k9 (gtf r6) ?_);refine rq rfl rfl rfl rfl rfl ?_ (hp:=r6);refine qy ?_;(iterate 9 refine k9 rfl ?_);(iterate 2 refine qy ?_);(iterate 10 refine k9 rfl ?_);refine qy ?_;refine a6 ?_
        refine a8 _ rfl (fun _=>?_) (fun e=>by cases e);refine sx7 ?_;refine qy ?_;refine s9 ?_;refine qy ?_;refine a6 ?_;refine ap ?_;refine ⟨.inr rfl, ?_⟩
        have he:=gc (mu:=true) (i:=i) (a:=a) (b:=b) hT hbe (by unfold ig;first | exact .inl (by omega) | exact .inr (.inl (by omega)) | exact .inr (.inr (.inl (by omega))) | exact .inr (.inr (.inr (.inl (by omega)))) | exact .inr (.inr (.inr (.inr (.inl (by omega))))) | exact .inr (.inr (.inr (.inr (.inr (.inl (by omega)))))) | exact .inr (.inr (.inr (.inr (.inr (.inr (.inl ⟨by first | assumption | simp_all,by omega⟩)))))) | exact .inr (.inr (.inr (.inr (.inr (.inr (.inr ⟨by first | assumption | simp_all,by omega⟩)))))))
        exact f9 rfl rfl (by rw [he];exact ⟨CoC.agg ⟨CoP.refl _,bz,trivial⟩,CoC.refl _,trivial⟩)
       ·
        have h6:=r6
        have h6:=bg r5 h6
        have h6:=of_decide_eq_false h6
        try simp only [ty] at h6
        (iterate 3 refine qy ?_ (hg:=(gff r6)));(iterate 2 refine qy ?_);refine b4 rfl rfl (fun r7=>?_) (fun r7=>?_)
        ·
         have h7:=r7
         have h7:=bg r6 h7
         have h7:=of_decide_eq_true h7
         try simp only [ty] at h7
         (iterate 3 refine k9 (gtf r7) ?_);(iterate 5 refine k9 rfl ?_);refine k9 (gtf r7) ?_;refine rq rfl rfl rfl rfl rfl ?_ (hp:=r7);refine qy ?_;(iterate 10 refine k9 rfl ?_);refine qy ?_;refine a6 ?_
         refine a8 _ rfl (fun _=>?_) (fun e=>by cases e);refine sx7 ?_;refine qy ?_;refine s9 ?_;refine qy ?_;refine a6 ?_;refine ap ?_;refine ⟨.inr rfl, ?_⟩
         have he:=gc (mu:=true) (i:=i) (a:=a) (b:=b) hT hbe (by unfold ig;first | exact .inl (by omega) | exact .inr (.inl (by omega)) | exact .inr (.inr (.inl (by omega))) | exact .inr (.inr (.inr (.inl (by omega)))) | exact .inr (.inr (.inr (.inr (.inl (by omega))))) | exact .inr (.inr (.inr (.inr (.inr (.inl (by omega)))))) | exact .inr (.inr (.inr (.inr (.inr (.inr (.inl ⟨by first | assumption | simp_all,by omega⟩)))))) | exact .inr (.inr (.inr (.inr (.inr (.inr (.inr ⟨by first | assumption | simp_all,by omega⟩)))))))
         exact f9 rfl rfl (by rw [he];exact ⟨CoC.agg ⟨CoP.refl _,bz,trivial⟩,CoC.refl _,trivial⟩)
        ·
         have h7:=r7
         have h7:=bg r6 h7
         have h7:=of_decide_eq_false h7
         try simp only [ty] at h7
         (iterate 3 refine qy ?_ (hg:=(gff r7)));(iterate 5 refine qy ?_);refine qy ?_ (hg:=(gff r7));(iterate 2 refine qy ?_);refine b4 rfl rfl (fun r8=>?_) (fun r8=>?_)
         ·
          have h8:=r8
          have h8:=bg r7 h8
          have h8:=of_decide_eq_true h8
          try simp only [ty] at h8
          (iterate 4 refine k9 (gtf r8) ?_);(iterate 5 refine k9 rfl ?_);refine k9 (gtf r8) ?_;refine rq rfl rfl rfl rfl rfl ?_ (hp:=r8);refine a6 ?_;refine a8 _ rfl (fun _=>?_) (fun e=>by cases e)
          refine sx7 ?_;refine qy ?_;refine s9 ?_;refine qy ?_;refine a6 ?_;refine ap ?_;refine ⟨.inr rfl, ?_⟩
          have he:=gc (mu:=true) (i:=i) (a:=a) (b:=b) hT hbe (by unfold ig;first | exact .inl (by omega) | exact .inr (.inl (by omega)) | exact .inr (.inr (.inl (by omega))) | exact .inr (.inr (.inr (.inl (by omega)))) | exact .inr (.inr (.inr (.inr (.inl (by omega))))) | exact .inr (.inr (.inr (.inr (.inr (.inl (by omega)))))) | exact .inr (.inr (.inr (.inr (.inr (.inr (.inl ⟨by first | assumption | simp_all,by omega⟩)))))) | exact .inr (.inr (.inr (.inr (.inr (.inr (.inr ⟨by first | assumption | simp_all,by omega⟩)))))))
          exact f9 rfl rfl (by rw [he];exact ⟨CoC.agg ⟨CoP.refl _,bz,trivial⟩,CoC.refl _,trivial⟩)
         ·
          have h8:=r8
          have h8:=bg r7 h8
          have h8:=of_decide_eq_false h8
          try simp only [ty] at h8
          (iterate 4 refine qy ?_ (hg:=(gff r8)));(iterate 5 refine k9 rfl ?_);refine qy ?_ (hg:=(gff r8));refine qy ?_;refine a6 ?_
          refine a8 _ rfl (fun e=>Bool.noConfusion ((x7 r8 rfl).symm.trans e)) (fun _=>?_);refine aa ?_;refine a7 ?_
          have hnb:¬ ig l p m true i a b:=by
           unfold ig
           rintro (h | h | h | h | h | h | ⟨h,h2⟩ | ⟨h,h2⟩) <;> first | omega | cases h
          have hap:=ym (mu:=true) (i:=i) (a:=a) (b:=b) hT hbe hnb
          have ha:a.toNat < l.length:=by omega
          have hb:b.toNat < l.length:=by omega
          have hra:=hrow _ ha
          have hrb:=hrow _ hb
          have hi:i.toNat < m.length:=by omega
          refine gy ?_;refine m9 3 ?_;refine a6 ?_;refine a7 ?_;refine sx7 ?_;(iterate 2 refine qy ?_);refine a6 ?_;refine a8 _ rfl (fun _=>?_) (fun e=>by cases e);(iterate 2 refine a7 ?_)
          refine ax (E:=bf) ae ar [0,1,2,3,4,5,6,7,8,9,10,11,12,13,14,15,16,17,18,19] ?_;(iterate 18 refine qy ?_)
          refine rc rfl rfl rfl rfl rfl rfl xe (xl (l.getD a.toNat default) (l.getD b.toNat default) (m.getD i.toNat default).lhs (by omega) (by omega)) (CoL.refl _) rfl rfl ?_;refine qy ?_;refine a6 ?_
          refine ⟨by kernel_rfl, ?_⟩;refine a8 _ rfl (fun r9=>?_) (fun r9=>?_)
          ·
           have h9:=r9
           have h9:=av h9
           refine sx7 ?_;refine qy ?_;refine s9 ?_;refine qy ?_;refine a6 ?_;refine ap ?_;refine ⟨.inr rfl, ?_⟩
           have he:=hap.trans (show mvE n l a.toNat b.toNat (m.getD i.toNat default) = (0,[],1) from if_neg (Bool.eq_false_iff.1 (by assumption)))
           exact f9 rfl rfl (by rw [he];exact ⟨CoC.agg ⟨CoP.refl _,bz,trivial⟩,CoC.refl _,trivial⟩)
          ·
           have h9:=r9
           have h9:=aw h9
           refine aa ?_;refine ax (E:=bf) ae ar [0,1,2,3,4,5,6,7,8,9,10,11] ?_;(iterate 10 refine qy ?_)
           refine rc rfl rfl rfl rfl rfl rfl auj (b1v n l (m.getD i.toNat default) a.toNat b.toNat hn0 hn16 hrow (by omega) ha hb) (⟨CoC.refl _,CoC.refl _,cci (by omega),cci (by omega),trivial⟩) rfl rfl ?_
           refine s9 ?_;refine a6 ?_;refine ⟨by kernel_rfl, ?_⟩;refine a7 ?_;refine sx7 ?_;(iterate 4 refine qy ?_);refine a6 ?_;refine a8 _ rfl (fun r10=>?_) (fun r10=>?_)
           ·
            have h10:=of_decide_eq_true r10
            try simp only [ty] at h10
            refine sx7 ?_;refine qy ?_;refine s9 ?_;refine qy ?_;refine a6 ?_;refine ap ?_;refine ⟨.inr rfl, ?_⟩
            have he:=hap.trans (show mvE n l a.toNat b.toNat (m.getD i.toNat default) = (0,[],3) from (if_pos (by assumption)).trans (if_pos (by omega)))
            exact f9 rfl rfl (by rw [he];exact ⟨CoC.agg ⟨CoP.refl _,bz,trivial⟩,CoC.refl _,trivial⟩)
           ·
            have h10:=of_decide_eq_false r10
            try simp only [ty] at h10
            refine aa ?_;refine sx7 ?_;refine qy ?_;refine s9 ?_;refine qy ?_;refine a6 ?_;refine ap ?_;refine ⟨.inr rfl, ?_⟩
            have he:=hap.trans (show mvE n l a.toNat b.toNat (m.getD i.toNat default) = (n,ay (l ++ [d5 (l.getD a.toNat default) (l.getD b.toNat default) ((m.getD i.toNat default).lhs ||| (m.getD i.toNat default).rhs)]),0) from (if_pos (by assumption)).trans (if_neg (by omega)))
            exact f9 rfl rfl (by rw [he];exact CoL.refl _)
theorem ar0 (n:Int) (l:List Rw) (p m:List Fd) (i a b:Int):ai Tryz.prog 146 [pT n l,pP (fdl p),pP (fdl m), .agg [.raw (.bool false), .raw (.int .i64 i), .raw (.int .i64 a), .raw (.int .i64 b)]] (ao [pT (ji n l p m false i a b).1 (ji n l p m false i a b).2.1,pI (ji n l p m false i a b).2.2]):=by
 refine ah (nt:=158) ae Tryz.func146 rfl rfl l9 ?_;refine sx7 ?_;refine m9 0 ?_;refine m9 1 ?_;refine m9 2 ?_;refine qy ?_;refine a6 ?_;refine a7 ?_;refine sx7 ?_;refine qy ?_
 refine rc rfl rfl rfl rfl rfl rfl a8g (a40 n l) (CoL.refl _) rfl rfl ?_;refine qy ?_;refine a6 ?_;refine a8 _ rfl (fun r0=>?_) (fun r0=>?_)
 ·
  have h0:=r0
  have h0:=av h0
  refine sx7 ?_;refine qy ?_;refine s9 ?_;refine qy ?_;refine a6 ?_;refine ap ?_;refine ⟨.inr rfl, ?_⟩
  have he:=aay (n:=n) (l:=l) (p:=p) (m:=m) (mu:=false) (i:=i) (a:=a) (b:=b) (by simp_all)
  exact f9 rfl rfl (by rw [he];exact ⟨CoC.agg ⟨CoP.refl _,bz,trivial⟩,CoC.refl _,trivial⟩)
 ·
  have h0:=r0
  have h0:=aw h0
  have hT:tok n l = true:=by simp_all
  obtain ⟨hn0,hn16,hl256,hrow⟩:=go hT
  refine aa ?_;refine a7 ?_;refine sx7 ?_;(iterate 4 refine qy ?_);refine rc rfl rfl rfl rfl rfl rfl x8 (uc n p m) (CoL.refl _) rfl rfl ?_;refine qy ?_;refine a6 ?_;refine sx7 ?_
  (iterate 2 refine qy ?_);refine a6 ?_;refine a8 _ rfl (fun r1=>?_) (fun r1=>?_)
  ·
   have h1:=r1
   have h1:=of_decide_eq_false (av h1)
   try simp only [ty] at h1
   refine sx7 ?_;(iterate 2 refine qy ?_);refine s9 ?_;refine qy ?_;refine a6 ?_;refine ap ?_;refine ⟨.inr rfl, ?_⟩
   have he:=aeh (mu:=false) (i:=i) (a:=a) (b:=b) hT (by assumption)
   exact f9 rfl rfl (by rw [he];exact ⟨CoC.agg ⟨CoP.refl _,bz,trivial⟩,CoC.refl _,trivial⟩)
  ·
   have h1:=r1
   have h1:=of_decide_eq_true (aw h1)
   try simp only [ty] at h1
   have hbe:c8 n p m = 0:=by assumption
   obtain ⟨_,_,hpl,hpa,hml,_⟩:=k7 hbe
   refine aa ?_;refine sx7 ?_;(iterate 4 refine qy ?_);refine a6 ?_;refine a7 ?_;refine sx7 ?_;(iterate 4 refine qy ?_);refine b4 rfl rfl (fun r2=>?_) (fun r2=>?_)
   ·
    have h2:=of_decide_eq_true r2
    try simp only [ty] at h2
    (iterate 4 refine k9 (gtf r2) ?_);refine rq rfl rfl rfl rfl rfl ?_ (hp:=r2);refine qy ?_;(iterate 3 refine k9 rfl ?_);(iterate 2 refine qy ?_);(iterate 4 refine k9 rfl ?_);(iterate 2 refine qy ?_)
    (iterate 5 refine k9 rfl ?_);(iterate 2 refine qy ?_);(iterate 3 refine k9 rfl ?_);(iterate 2 refine qy ?_);(iterate 9 refine k9 rfl ?_);(iterate 2 refine qy ?_);(iterate 10 refine k9 rfl ?_);refine qy ?_
    refine a6 ?_;refine a8 _ rfl (fun _=>?_) (fun e=>by cases e);refine sx7 ?_;refine qy ?_;refine s9 ?_;refine qy ?_;refine a6 ?_;refine ap ?_;refine ⟨.inr rfl, ?_⟩
    have he:=gc (mu:=false) (i:=i) (a:=a) (b:=b) hT hbe (by unfold ig;first | exact .inl (by omega) | exact .inr (.inl (by omega)) | exact .inr (.inr (.inl (by omega))) | exact .inr (.inr (.inr (.inl (by omega)))) | exact .inr (.inr (.inr (.inr (.inl (by omega))))) | exact .inr (.inr (.inr (.inr (.inr (.inl (by omega)))))) | exact .inr (.inr (.inr (.inr (.inr (.inr (.inl ⟨by first | assumption | simp_all,by omega⟩)))))) | exact .inr (.inr (.inr (.inr (.inr (.inr (.inr ⟨by first | assumption | simp_all,by omega⟩)))))))
    exact f9 rfl rfl (by rw [he];exact ⟨CoC.agg ⟨CoP.refl _,bz,trivial⟩,CoC.refl _,trivial⟩)
   ·
    have h2:=of_decide_eq_false r2
    try simp only [ty] at h2
    (iterate 4 refine qy ?_ (hg:=(gff r2)));(iterate 2 refine qy ?_);refine b4 rfl rfl (fun r3=>?_) (fun r3=>?_)
    ·
     have h3:=r3
     have h3:=bg r2 h3
     have h3:=of_decide_eq_true h3
     try simp only [ty] at h3
     (iterate 3 refine k9 (gtf r3) ?_);refine rq rfl rfl rfl rfl rfl ?_ (hp:=r3);refine qy ?_;(iterate 4 refine k9 rfl ?_);(iterate 2 refine qy ?_);(iterate 5 refine k9 rfl ?_);(iterate 2 refine qy ?_)
     (iterate 3 refine k9 rfl ?_);(iterate 2 refine qy ?_);(iterate 9 refine k9 rfl ?_);(iterate 2 refine qy ?_);(iterate 10 refine k9 rfl ?_);refine qy ?_;refine a6 ?_
     refine a8 _ rfl (fun _=>?_) (fun e=>by cases e);refine sx7 ?_;refine qy ?_;refine s9 ?_;refine qy ?_;refine a6 ?_;refine ap ?_;refine ⟨.inr rfl, ?_⟩
     have he:=gc (mu:=false) (i:=i) (a:=a) (b:=b) hT hbe (by unfold ig;first | exact .inl (by omega) | exact .inr (.inl (by omega)) | exact .inr (.inr (.inl (by omega))) | exact .inr (.inr (.inr (.inl (by omega)))) | exact .inr (.inr (.inr (.inr (.inl (by omega))))) | exact .inr (.inr (.inr (.inr (.inr (.inl (by omega)))))) | exact .inr (.inr (.inr (.inr (.inr (.inr (.inl ⟨by first | assumption | simp_all,by omega⟩)))))) | exact .inr (.inr (.inr (.inr (.inr (.inr (.inr ⟨by first | assumption | simp_all,by omega⟩)))))))
     exact f9 rfl rfl (by rw [he];exact ⟨CoC.agg ⟨CoP.refl _,bz,trivial⟩,CoC.refl _,trivial⟩)
    ·
     have h3:=r3
     have h3:=bg r2 h3
     have h3:=of_decide_eq_false h3
     try simp only [ty] at h3
     (iterate 3 refine qy ?_ (hg:=(gff r3)));(iterate 2 refine qy ?_);refine b4 rfl rfl (fun r4=>?_) (fun r4=>?_)
     ·
      have h4:=r4
      have h4:=bg r3 h4
      have h4:=of_decide_eq_true h4
      try simp only [ty] at h4
      (iterate 4 refine k9 (gtf r4) ?_);refine rq rfl rfl rfl rfl rfl ?_ (hp:=r4);refine qy ?_;(iterate 5 refine k9 rfl ?_);(iterate 2 refine qy ?_);(iterate 3 refine k9 rfl ?_);(iterate 2 refine qy ?_)
      (iterate 9 refine k9 rfl ?_);(iterate 2 refine qy ?_);(iterate 10 refine k9 rfl ?_);refine qy ?_;refine a6 ?_;refine a8 _ rfl (fun _=>?_) (fun e=>by cases e);refine sx7 ?_;refine qy ?_;refine s9 ?_
      refine qy ?_;refine a6 ?_;refine ap ?_;refine ⟨.inr rfl, ?_⟩
      have he:=gc (mu:=false) (i:=i) (a:=a) (b:=b) hT hbe (by unfold ig;first | exact .inl (by omega) | exact .inr (.inl (by omega)) | exact .inr (.inr (.inl (by omega))) | exact .inr (.inr (.inr (.inl (by omega)))) | exact .inr (.inr (.inr (.inr (.inl (by omega))))) | exact .inr (.inr (.inr (.inr (.inr (.inl (by omega)))))) | exact .inr (.inr (.inr (.inr (.inr (.inr (.inl ⟨by first | assumption | simp_all,by omega⟩)))))) | exact .inr (.inr (.inr (.inr (.inr (.inr (.inr ⟨by first | assumption | simp_all,by omega⟩)))))))
      exact f9 rfl rfl (by rw [he];exact ⟨CoC.agg ⟨CoP.refl _,bz,trivial⟩,CoC.refl _,trivial⟩)
     ·
      have h4:=r4
      have h4:=bg r3 h4
      have h4:=of_decide_eq_false h4
      try simp only [ty] at h4
      (iterate 4 refine qy ?_ (hg:=(gff r4)));(iterate 2 refine qy ?_);refine b4 rfl rfl (fun r5=>?_) (fun r5=>?_)
      ·
       have h5:=r5
       have h5:=bg r4 h5
       have h5:=of_decide_eq_true h5
       try simp only [ty] at h5
       (iterate 5 refine k9 (gtf r5) ?_);refine rq rfl rfl rfl rfl rfl ?_ (hp:=r5);refine qy ?_;(iterate 3 refine k9 rfl ?_);(iterate 2 refine qy ?_);(iterate 9 refine k9 rfl ?_);(iterate 2 refine qy ?_)
       (iterate 10 refine k9 rfl ?_);refine qy ?_;refine a6 ?_;refine a8 _ rfl (fun _=>?_) (fun e=>by cases e);refine sx7 ?_;refine qy ?_;refine s9 ?_;refine qy ?_;refine a6 ?_;refine ap ?_
       refine ⟨.inr rfl, ?_⟩
       have he:=gc (mu:=false) (i:=i) (a:=a) (b:=b) hT hbe (by unfold ig;first | exact .inl (by omega) | exact .inr (.inl (by omega)) | exact .inr (.inr (.inl (by omega))) | exact .inr (.inr (.inr (.inl (by omega)))) | exact .inr (.inr (.inr (.inr (.inl (by omega))))) | exact .inr (.inr (.inr (.inr (.inr (.inl (by omega)))))) | exact .inr (.inr (.inr (.inr (.inr (.inr (.inl ⟨by first | assumption | simp_all,by omega⟩)))))) | exact .inr (.inr (.inr (.inr (.inr (.inr (.inr ⟨by first | assumption | simp_all,by omega⟩)))))))
       exact f9 rfl rfl (by rw [he];exact ⟨CoC.agg ⟨CoP.refl _,bz,trivial⟩,CoC.refl _,trivial⟩)
      ·
       have h5:=r5
       have h5:=bg r4 h5
       have h5:=of_decide_eq_false h5
       try simp only [ty] at h5
       (iterate 5 refine qy ?_ (hg:=(gff r5)));(iterate 2 refine qy ?_);refine b4 rfl rfl (fun r6=>?_) (fun r6=>?_)
       ·
        have h6:=r6
        have h6:=bg r5 h6
        have h6:=of_decide_eq_true h6
        try simp only [ty] at h6
        (iterate 3 refine k9 (gtf r6) ?_);refine rq rfl rfl rfl rfl rfl ?_ (hp:=r6);refine qy ?_;(iterate 9 refine k9 rfl ?_);(iterate 2 refine qy ?_);(iterate 10 refine k9 rfl ?_);refine qy ?_;refine a6 ?_
        refine a8 _ rfl (fun _=>?_) (fun e=>by cases e);refine sx7 ?_;refine qy ?_;refine s9 ?_;refine qy ?_;refine a6 ?_;refine ap ?_;refine ⟨.inr rfl, ?_⟩
        have he:=gc (mu:=false) (i:=i) (a:=a) (b:=b) hT hbe (by unfold ig;first | exact .inl (by omega) | exact .inr (.inl (by omega)) | exact .inr (.inr (.inl (by omega))) | exact .inr (.inr (.inr (.inl (by omega)))) | exact .inr (.inr (.inr (.inr (.inl (by omega))))) | exact .inr (.inr (.inr (.inr (.inr (.inl (by omega)))))) | exact .inr (.inr (.inr (.inr (.inr (.inr (.inl ⟨by first | assumption | simp_all,by omega⟩)))))) | exact .inr (.inr (.inr (.inr (.inr (.inr (.inr ⟨by first | assumption | simp_all,by omega⟩)))))))
        exact f9 rfl rfl (by rw [he];exact ⟨CoC.agg ⟨CoP.refl _,bz,trivial⟩,CoC.refl _,trivial⟩)
       ·
        have h6:=r6
        have h6:=bg r5 h6
        have h6:=of_decide_eq_false h6
        try simp only [ty] at h6
        (iterate 3 refine qy ?_ (hg:=(gff r6)));(iterate 2 refine qy ?_);refine b4 rfl rfl (fun r7=>?_) (fun r7=>?_)
        ·
         have h7:=r7
         have h7:=bg r6 h7
         have h7:=of_decide_eq_true h7
         try simp only [ty] at h7
         (iterate 3 refine k9 (gtf r7) ?_);(iterate 5 refine k9 rfl ?_);refine k9 (gtf r7) ?_;refine rq rfl rfl rfl rfl rfl ?_ (hp:=r7);refine qy ?_;(iterate 10 refine k9 rfl ?_);refine qy ?_;refine a6 ?_
         refine a8 _ rfl (fun _=>?_) (fun e=>by cases e);refine sx7 ?_;refine qy ?_;refine s9 ?_;refine qy ?_;refine a6 ?_;refine ap ?_;refine ⟨.inr rfl, ?_⟩
         have he:=gc (mu:=false) (i:=i) (a:=a) (b:=b) hT hbe (by unfold ig;first | exact .inl (by omega) | exact .inr (.inl (by omega)) | exact .inr (.inr (.inl (by omega))) | exact .inr (.inr (.inr (.inl (by omega)))) | exact .inr (.inr (.inr (.inr (.inl (by omega))))) | exact .inr (.inr (.inr (.inr (.inr (.inl (by omega)))))) | exact .inr (.inr (.inr (.inr (.inr (.inr (.inl ⟨by first | assumption | simp_all,by omega⟩)))))) | exact .inr (.inr (.inr (.inr (.inr (.inr (.inr ⟨by first | assumption | simp_all,by omega⟩)))))))
         exact f9 rfl rfl (by rw [he];exact ⟨CoC.agg ⟨CoP.refl _,bz,trivial⟩,CoC.refl _,trivial⟩)
        ·
         have h7:=r7
         have h7:=bg r6 h7
         have h7:=of_decide_eq_false h7
         try simp only [ty] at h7
         (iterate 3 refine qy ?_ (hg:=(gff r7)));(iterate 5 refine k9 rfl ?_);refine qy ?_ (hg:=(gff r7));(iterate 2 refine qy ?_);(iterate 4 refine rq rfl rfl rfl rfl (gff (x7 r7 rfl)) ?_)
         (iterate 5 refine qy ?_);refine rq rfl rfl rfl rfl (gff (x7 r7 rfl)) ?_;refine qy ?_;refine a6 ?_;refine a8 _ rfl (fun r8=>?_) (fun r8=>?_)
         ·
          have h8:=r8
          have h8:=bg (x7 r7 rfl) h8
          have h8:=of_decide_eq_true h8
          try simp only [ty] at h8
          refine sx7 ?_;refine qy ?_;refine s9 ?_;refine qy ?_;refine a6 ?_;refine ap ?_;refine ⟨.inr rfl, ?_⟩
          have he:=gc (mu:=false) (i:=i) (a:=a) (b:=b) hT hbe (by unfold ig;first | exact .inl (by omega) | exact .inr (.inl (by omega)) | exact .inr (.inr (.inl (by omega))) | exact .inr (.inr (.inr (.inl (by omega)))) | exact .inr (.inr (.inr (.inr (.inl (by omega))))) | exact .inr (.inr (.inr (.inr (.inr (.inl (by omega)))))) | exact .inr (.inr (.inr (.inr (.inr (.inr (.inl ⟨by first | assumption | simp_all,by omega⟩)))))) | exact .inr (.inr (.inr (.inr (.inr (.inr (.inr ⟨by first | assumption | simp_all,by omega⟩)))))))
          exact f9 rfl rfl (by rw [he];exact ⟨CoC.agg ⟨CoP.refl _,bz,trivial⟩,CoC.refl _,trivial⟩)
         ·
          have h8:=r8
          have h8:=bg (x7 r7 rfl) h8
          have h8:=of_decide_eq_false h8
          try simp only [ty] at h8
          refine aa ?_;refine a7 ?_
          have hnb:¬ ig l p m false i a b:=by
           unfold ig
           rintro (h | h | h | h | h | h | ⟨h,h2⟩ | ⟨h,h2⟩) <;> first | omega | cases h
          have hap:=ym (mu:=false) (i:=i) (a:=a) (b:=b) hT hbe hnb
          have ha:a.toNat < l.length:=by omega
          have hb:b.toNat < l.length:=by omega
          have hra:=hrow _ ha
          have hrb:=hrow _ hb
          have hi:i.toNat < p.length:=by omega
          have hu:inU n (p.getD i.toNat default) = true:=List.all_eq_true.1 hpa _ (by rw [List.getD_eq_getElem?_getD,List.getElem?_eq_getElem hi];exact List.getElem_mem hi)
          refine gy ?_;refine m9 3 ?_;refine a6 ?_;refine a7 ?_;refine sx7 ?_;(iterate 2 refine qy ?_);refine a6 ?_;refine a8 _ rfl (fun e=>by cases e) (fun _=>?_);(iterate 2 refine a7 ?_)
          refine ax (E:=bf) ae ar [0,1,2,3,4,5,6,7,8,9,10,11,12,13,14,15,16,17,18,19] ?_;(iterate 18 refine qy ?_)
          refine rc rfl rfl rfl rfl rfl rfl xe (xl (l.getD a.toNat default) (l.getD b.toNat default) (p.getD i.toNat default).lhs (by omega) (by omega)) (CoL.refl _) rfl rfl ?_;refine qy ?_;refine a6 ?_
          refine ⟨by kernel_rfl, ?_⟩;refine a8 _ rfl (fun r9=>?_) (fun r9=>?_)
          ·
           have h9:=r9
           have h9:=av h9
           refine sx7 ?_;refine qy ?_;refine s9 ?_;refine qy ?_;refine a6 ?_;refine ap ?_;refine ⟨.inr rfl, ?_⟩
           have he:=hap.trans (show fdE n l a.toNat b.toNat (p.getD i.toNat default) = (0,[],1) from if_neg (Bool.eq_false_iff.1 (by assumption)))
           exact f9 rfl rfl (by rw [he];exact ⟨CoC.agg ⟨CoP.refl _,bz,trivial⟩,CoC.refl _,trivial⟩)
          ·
           have h9:=r9
           have h9:=aw h9
           refine aa ?_;refine ax (E:=bf) ae ar [0,1,2,3,4,5,6,7,8,9,10,11,12] ?_;(iterate 11 refine qy ?_)
           refine rc rfl rfl rfl rfl rfl rfl au2 (ara n l (p.getD i.toNat default).rhs a.toNat b.toNat hn0 hn16 hrow (by omega) ha hb (fun j hj=>a1w hn0 hn16 hu hj)) (⟨CoC.refl _,CoC.refl _,cci (by omega),cci (by omega),trivial⟩) rfl rfl ?_
           refine s9 ?_;refine a6 ?_;refine ⟨by kernel_rfl, ?_⟩;refine a7 ?_;refine sx7 ?_;(iterate 4 refine qy ?_);refine a6 ?_;refine a8 _ rfl (fun r10=>?_) (fun r10=>?_)
           ·
            have h10:=of_decide_eq_true r10
            try simp only [ty] at h10
            refine sx7 ?_;refine qy ?_;refine s9 ?_;refine qy ?_;refine a6 ?_;refine ap ?_;refine ⟨.inr rfl, ?_⟩
            have hx:=Nat.le_trans (vk (dj l (eqMs (c5 l) a.toNat b.toNat (az (p.getD i.toNat default).rhs)))) (Nat.le_of_eq (jn _ _))
            exact f9 rfl rfl (by exfalso;omega)
           ·
            have h10:=of_decide_eq_false r10
            try simp only [ty] at h10
            refine aa ?_;refine sx7 ?_;refine qy ?_;refine s9 ?_;refine qy ?_;refine a6 ?_;refine ap ?_;refine ⟨.inr rfl, ?_⟩
            have he:=hap.trans (show fdE n l a.toNat b.toNat (p.getD i.toNat default) = (n,ay (dj l (eqMs (c5 l) a.toNat b.toNat (az (p.getD i.toNat default).rhs))),0) from if_pos (by assumption))
            exact f9 rfl rfl (by rw [he];exact CoL.refl _)
end Go.Hx
end
section
namespace Go.Hx
open Go.Proofs
theorem akl (l:List Rw) (hl:∀ i,i < l.length → (l.getD i default).length ≤ 17592186044416) (hl2:l.length ≤ 5864062014805):ai Tryz.prog 174 [pR l] (ao [pR l]) :=
 dg.pure (args:=[pR l]) (l:=[.one (.ref 901 l.length)]) (acp l hl hl2) rfl ⟨rfl,trivial⟩
theorem a9e (n:Int) (l:List Rw) (p m:List Fd) (s:St) (hck:ckE n l p m = 0) (h:w7 l p m s) :
 ai Tryz.prog 146 [pT n l,pP (fdl p),pP (fdl m),s.pc] (ao [pT (dn n l p m s).1 (dn n l p m s).2.1,pI (dn n l p m s).2.2]):=by
 obtain ⟨mu,i,a,b⟩:=s
 obtain ⟨ha,hb,h⟩:=h
 obtain ⟨hT,hbe,_⟩:=aok hck
 have ha:a < l.length:=ha
 have hb:b < l.length:=hb
 have hne:¬ a = b:=by
  rintro rfl
  rcases h with ⟨_,_,h⟩ | ⟨_,_,h⟩
  · rw [show dx l (p.getD i default) a a = false from a5a] at h;cases h
  · rw [show ek l (m.getD i default) a a = false from a5u ha] at h;cases h
 rcases h with ⟨h1,h2,_⟩ | ⟨h1,h2,_⟩
 · cases h1
   have h2:i < p.length:=h2
   have e:=ym (mu:=false) (i:=(i:Int)) (a:=(a:Int)) (b:=(b:Int)) hT hbe (by
    unfold ig
    rintro (h | h | h | h | h | h | ⟨h,h3⟩ | ⟨h,h3⟩) <;> first | omega | cases h)
   simp only [Int.toNat_natCast] at e
   have hh:=ar0 n l p m i a b
   rw [e] at hh
   exact hh
 · cases h1
   have h2:i < m.length:=h2
   have e:=ym (mu:=true) (i:=(i:Int)) (a:=(a:Int)) (b:=(b:Int)) hT hbe (by
    unfold ig
    rintro (h | h | h | h | h | h | ⟨h,h3⟩ | ⟨h,h3⟩) <;> first | omega | cases h)
   simp only [Int.toNat_natCast] at e
   have hh:=asn n l p m i a b
   rw [e] at hh
   exact hh
end Go.Hx
end
section
namespace Go.Hx
open Go.Proofs
set_option maxRecDepth 100000
theorem awf:goodFn Tryz.prog 145:=⟨Tryz.f145,Tryz.func145,by kernel_rfl,by kernel_rfl⟩
theorem aua (F:Nat) (n:Int) (l:List Rw) (p m:List Fd) (hF:tok n l = true → muC l.flatten l < F) (hFb:F ≤ 4000000000):ai Tryz.prog 145 [pT n l,pP (fdl p),pP (fdl m)] (ao [pP (stl (gi F n l p m).1),pT (gi F n l p m).2.1.1 (gi F n l p m).2.1.2,pI (gi F n l p m).2.2]):=by
 refine ah (nt:=63) ae Tryz.func145 rfl rfl l9 ?_;refine sx7 ?_;refine m9 0 ?_;refine qy ?_;refine m9 1 ?_;refine qy ?_;refine a6 ?_;refine a7 ?_;refine sx7 ?_;refine qy ?_
 refine rc rfl rfl rfl rfl rfl rfl a8g (a40 n l) (CoL.refl _) rfl rfl ?_;refine qy ?_;refine a6 ?_;refine a8 _ rfl (fun r0=>?_) (fun r0=>?_)
 ·
  have h0:=r0
  have h0:=av h0
  refine sx7 ?_;(iterate 2 refine qy ?_);refine s9 ?_;refine qy ?_;refine a6 ?_;refine ap ?_;refine ⟨.inr rfl, ?_⟩
  have hk1:ckE n l p m = 1:=if_neg (by simp_all)
  have he:=a3y (F:=F) (n:=n) (l:=l) (p:=p) (m:=m) (by omega)
  exact f9 rfl rfl (by rw [he,hk1];exact ⟨CoC.one (CoP.sl rfl (.inr rfl) (fun _=>rfl) (fun i j hi _=>absurd hi (Nat.not_lt_zero i))),CoC.agg ⟨CoP.refl _,bz,trivial⟩,CoC.refl _,trivial⟩)
 ·
  have h0:=r0
  have h0:=aw h0
  have hT:tok n l = true:=by simp_all
  refine aa ?_;refine a7 ?_;refine sx7 ?_;(iterate 4 refine qy ?_);refine rc rfl rfl rfl rfl rfl rfl x8 (uc n p m) (CoL.refl _) rfl rfl ?_;refine qy ?_;refine a6 ?_;refine sx7 ?_
  (iterate 2 refine qy ?_);refine a6 ?_;refine a8 _ rfl (fun r1=>?_) (fun r1=>?_)
  ·
   have h1:=r1
   have h1:=of_decide_eq_false (av h1)
   try simp only [ty] at h1
   refine sx7 ?_;(iterate 3 refine qy ?_);refine s9 ?_;refine qy ?_;refine a6 ?_;refine ap ?_;refine ⟨.inr rfl, ?_⟩
   have hk1:ckE n l p m = c8 n p m:=if_pos hT
   have he:=a3y (F:=F) (n:=n) (l:=l) (p:=p) (m:=m) (by rw [hk1];assumption)
   exact f9 rfl rfl (by rw [he,hk1];exact ⟨CoC.one (CoP.sl rfl (.inr rfl) (fun _=>rfl) (fun i j hi _=>absurd hi (Nat.not_lt_zero i))),CoC.agg ⟨CoP.refl _,bz,trivial⟩,CoC.refl _,trivial⟩)
  ·
   have h1:=r1
   have h1:=of_decide_eq_true (aw h1)
   try simp only [ty] at h1
   have hbe:c8 n p m = 0:=by assumption
   have hck:ckE n l p m = 0:=(if_pos hT).trans hbe
   obtain ⟨hn0,hn16,hpl,hpa,hml,_⟩:=k7 hbe
   obtain ⟨_,_,hl256,hrow⟩:=go hT
   have hbig:∀ i,i < l.length → (l.getD i default).length ≤ 17592186044416:=fun i hi=>by rw [hrow i hi];omega
   refine aa ?_;refine a7 ?_;refine ax (E:=bf) ae ar [0,1,2,3,4,5,6,7] ?_;(iterate 4 refine qy ?_)
   refine rc rfl rfl rfl rfl rfl rfl a7d (akl l hbig (by omega)) (CoL.refl _) rfl rfl ?_;refine qy ?_;refine m9 2 ?_;refine s9 ?_;refine a6 ?_;refine ⟨by kernel_rfl, ?_⟩;refine sx7 ?_;refine qy ?_
   refine a6 ?_;refine db 11 900 true 4 155 (lf St.c []) (by decide) rfl (CoP.sl rfl (.inr rfl) (fun h=>h) (fun i j hi _=>absurd hi (Nat.not_lt_zero i))) (.inr rfl) rfl ?_;refine ab ?_
   refine aj (ι:=Nat × List Rw × List St) ⟨[(1,some _),(2,some _),(7,some _),(10,some _)],[(1,some _)]⟩ ⟨⟨c9,c9,c9,c9,trivial⟩,⟨u9,trivial⟩⟩ (fun x=>⟨[(11,some (.v (.one (.ref 900 x.2.2.length))))],[(2,some (.box [.p (.raw (.int .i64 n)), .p (rl x.2.1)])),(900,some (.arr true 4 155 x.2.2.length (lf St.c x.2.2)))]⟩) (fun x=>StI F n l p m x) (fun x=>x.1) ((F,l,[])) (StI.start hT (hF hT)) ⟨⟨zy,trivial⟩,⟨u9,u9,trivial⟩⟩ ?_
   rintro x hX
   have hXu:=hX.u
   have hXb:=hX.b
   refine ab ?_;refine sx7 ?_;(iterate 3 refine qy ?_);refine rc rfl rfl rfl rfl rfl rfl avi ((a4j (p:=p) (m:=m) hX.t ▸ ayu n x.2.1 p m hX.t hpl hml)) (CoL.refl _) rfl rfl ?_;(iterate 3 refine qy ?_)
   refine m9 3 ?_;refine s9 ?_;refine qy ?_;refine a6 ?_;refine a7 ?_;refine sx7 ?_;(iterate 2 refine qy ?_);refine a6 ?_;refine a8 _ rfl (fun r2=>?_) (fun r2=>?_)
   ·
    have h2:=r2
    have h2:=av h2
    have hS:=ah8 (by simpa [a4j hX.t] using h2)
    refine a7 ?_;refine ax (E:=bf) ae ar [0,1,2,3,4] ?_;(iterate 3 refine qy ?_);refine s9 ?_;refine qy ?_;refine a6 ?_;refine ⟨by kernel_rfl, ?_⟩;refine bn 6 rfl rfl rfl ?_
    refine ap ?_;refine ⟨.inr rfl, ?_⟩
    have he:=(qi hck).trans (hX.fin hS)
    exact f9 rfl rfl (by rw [he];exact CoL.refl _)
   ·
    have h2:=r2
    have h2:=aw h2
    have hS:=ahv (false,0,0,0) (by simpa [a4j hX.t] using h2)
    refine aa ?_;refine sx7 ?_;(iterate 4 refine qy ?_)
    refine rc rfl rfl rfl rfl rfl rfl ahb (a9e n x.2.1 p m ((dp x.2.1 p m).getD (false,0,0,0)) ((if_pos hX.t).trans hbe) (a2v hS)) (CoL.refl _) rfl rfl ?_;(iterate 3 refine qy ?_);refine m9 4 ?_
    refine s9 ?_;refine qy ?_;refine a6 ?_;refine a7 ?_;refine sx7 ?_;(iterate 2 refine qy ?_);refine a6 ?_;refine a8 _ rfl (fun r3=>?_) (fun r3=>?_)
    ·
     have h3:=r3
     have h3:=of_decide_eq_false (av h3)
     try simp only [ty] at h3
     refine sx7 ?_;(iterate 3 refine qy ?_);refine s9 ?_;refine qy ?_;refine a6 ?_;refine ap ?_;refine ⟨.inr rfl, ?_⟩
     have he:=(qi hck).trans (hX.err hS (by assumption))
     exact f9 rfl rfl (by rw [he];exact ⟨CoC.one (CoP.sl rfl (.inr rfl) (fun _=>rfl) (fun i j hi _=>absurd hi (Nat.not_lt_zero i))),CoC.agg ⟨CoP.refl _,bz,trivial⟩,CoC.refl _,trivial⟩)
    ·
     have h3:=r3
     have h3:=of_decide_eq_true (aw h3)
     try simp only [ty] at h3
     have hnx:=hX.next hpa hS (by assumption)
     refine aa ?_;refine ax (E:=bf) ae ar [0,1,2,3,4,5,6] ?_;(iterate 2 refine qy ?_);refine m9 5 ?_;refine ra 6 true rfl rfl rfl rfl rfl rfl ?_;(iterate 2 refine qy ?_);refine s9 ?_
     refine a6 ?_;refine ⟨by kernel_rfl, ?_⟩;refine ⟨(x.1 - 1,(dn n x.2.1 p m ((dp x.2.1 p m).getD (false,0,0,0))).2.1,x.2.2 ++ [((dp x.2.1 p m).getD (false,0,0,0))]), ?_, ?_, ?_⟩
     · exact hnx.2
     · show x.1 - 1 < x.1
       omega
     · exact ⟨⟨⟨_,rfl,(d7 rfl)⟩,c9,c9,c9,c9,trivial⟩,⟨⟨_,rfl,⟨CoP.of_eq (by rw [hnx.1]),CoH.refl _,trivial⟩⟩,⟨_,rfl,(a1y rfl (fun j hj=>by match j,hj with | 0,_=>exact CoP.refl _ | 1,_=>exact CoP.refl _ | 2,_=>exact CoP.refl _ | 3,_=>exact CoP.refl _) rfl)⟩,u9,trivial⟩⟩
end Go.Hx
end

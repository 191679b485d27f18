/- A part of the proof: Mw6 Mw7 Mw8 Mw9. -/
import Derived.Test.YtaegkccfbmekbaaGreatNx25
import Derived.Test.YtaegkccfbmekbaaGreatNx26
import Derived.Test.YtaegkccfbmekbaaGreatNx35
set_option linter.all false
section
namespace Go.Hx
open Go.Proofs
set_option maxRecDepth 100000
set_option maxHeartbeats 1000000
theorem a9e:ai Tryz.prog 59:=⟨Tryz.f59,Tryz.func59,by kernel_rfl,by kernel_rfl⟩
theorem acf (t:Tbl) (fds add rem:List Fd) (hna:t.attrs.length ≤ 8):cj Tryz.prog 59 [.one (.ptr 1000 0)] (⟨t,d8 t.rows,fds,add,rem⟩:MSt).objs (.v (.one (.p (asC (b9 (t.attrs.length:Nat)))))) (⟨t,d8 t.rows,fds,add,rem⟩:MSt).objs [1000]:=by
 refine d7 (nt:=11) ae Tryz.func59 rfl rfl l9 rfl ?_
 have h0z:(0:Int) ≤ (t.attrs.length:Int):=by omega
 have h1z:((t.attrs.length:Nat):Int) ≤ 16:=by omega
 refine sx7 ?_;refine qy ?_;refine a6 ?_;refine sx7 ?_;(iterate 7 refine qy ?_);refine rq rfl rfl rfl rfl rfl ?_ (hp:=⟨al5 h0z h1z,ahm h0z h1z⟩);refine qy ?_;refine a6 ?_;refine au ?_
 refine ⟨.inr rfl, ?_⟩
 exact ⟨_,_,rfl,(by (repeat' apply And.intro) <;> first | trivial | exact Nat.le_of_ble_eq_true rfl),ij (aaa h0z h1z),⟨u9,u9,trivial⟩⟩
theorem apx:ai Tryz.prog 77:=⟨Tryz.f77,Tryz.func77,by kernel_rfl,by kernel_rfl⟩
theorem aut (y z:AS):ak Tryz.prog 77 [pA y,pP (bx (asC z))] (av [pB (decide (sub y z))]):=by
 refine ag (nt:=8) ae Tryz.func77 rfl rfl l9 ?_;refine sx7 ?_;refine qy ?_;refine a6 ?_;refine sx7 ?_;(iterate 5 refine qy ?_);refine a6 ?_
 exact hx8 rfl rfl rfl (⟨ccb (decide_eq_decide.2 gd),trivial⟩)
theorem atm:ai Tryz.prog 60:=⟨Tryz.f60,Tryz.func60,by kernel_rfl,by kernel_rfl⟩
theorem auf (y z:AS):ak Tryz.prog 60 [pA y,pP (bx (asC z))] (av [pB (decide (sub y z))]):=by
 refine ag (nt:=8) ae Tryz.func60 rfl rfl l9 ?_;refine sx7 ?_;refine qy ?_;refine a6 ?_;refine sx7 ?_;(iterate 5 refine qy ?_);refine a6 ?_
 exact hx8 rfl rfl rfl (⟨ccb (decide_eq_decide.2 gd),trivial⟩)
theorem asm:ai Tryz.prog 31:=⟨Tryz.f31,Tryz.func31,by kernel_rfl,by kernel_rfl⟩
theorem atf (y z:AS):ak Tryz.prog 31 [pA y,pP (bx (asC z))] (av [pB (decide (sub y z))]):=by
 refine ag (nt:=8) ae Tryz.func31 rfl rfl l9 ?_;refine sx7 ?_;refine qy ?_;refine a6 ?_;refine sx7 ?_;(iterate 5 refine qy ?_);refine a6 ?_
 exact hx8 rfl rfl rfl (⟨ccb (decide_eq_decide.2 gd),trivial⟩)
theorem aiv:ai Tryz.prog 42:=⟨Tryz.f42,Tryz.func42,by kernel_rfl,by kernel_rfl⟩
theorem a9k (t:Tbl) (fds add rem:List Fd) (hna:t.attrs.length ≤ 8):cj Tryz.prog 42 [.one (.ptr 1000 0)] (⟨t,d8 t.rows,fds,add,rem⟩:MSt).objs (.v (.one (.p (fdl (a3c (prs t.rows) t.attrs.length))))) (⟨t,d8 t.rows,fds,add,rem⟩:MSt).objs [1000]:=by
 refine d7 (nt:=92) ae Tryz.func42 rfl rfl l9 rfl ?_
 have hsl:=ny (b9 (t.attrs.length:Nat))
 refine sx7 ?_;refine qy ?_;refine a6 ?_;refine sx7 ?_;refine qy ?_;refine a6 ?_;refine sx7 ?_;(iterate 6 refine qy ?_);refine m9 0 ?_;refine qy ?_;refine a6 ?_
 refine af8 4 0 900 69 1 (fun _ _ _=>.any) rfl rfl (fun _ _=>rfl) ?_;refine a7 ?_;refine sx7 ?_;refine qy ?_
 refine ay rfl rfl rfl rfl rfl rfl a9e (acf t fds add rem hna) (br.refl _) ⟨u9,u9,trivial⟩ rfl rfl ?_;refine rc rfl rfl rfl rfl rfl rfl aim (amu (b9 (t.attrs.length:Nat))) (CoL.refl _) rfl rfl ?_
 (iterate 2 refine qy ?_);refine a6 ?_;refine af ?_;refine du 3 905 true 2 71 (lf Fd.c []) (by decide) rfl (CoP.sl rfl (.inr rfl) (fun h=>h) (fun i j hi _=>absurd hi (Nat.not_lt_zero i))) (.inr rfl) rfl ?_
 refine ap (ι:=Nat) ⟨[(0,some _),(4,some _),(19,some _),(20,some _)],[(1000,some _),(901,some _)]⟩ ⟨⟨c9,c9,c9,c9,trivial⟩,⟨u9,u9,trivial⟩⟩ (fun i=>⟨[(3,some (.v (.one (.ref 905 (jl (prs t.rows) t.attrs.length i 0).length)))),(21,some (vI i))],[(905,some (.arr true 2 71 (jl (prs t.rows) t.attrs.length i 0).length (lf Fd.c (jl (prs t.rows) t.attrs.length i 0)))),(900,some (nst (prs t.rows) t.attrs.length i 0))]⟩) (fun i=>i ≤ (d9 (b9 (t.attrs.length:Nat))).length) (fun i=>(d9 (b9 (t.attrs.length:Nat))).length - i) (0) (Nat.zero_le _) ⟨⟨zy,zy,trivial⟩,⟨u9,⟨_,rfl,atr⟩,trivial⟩⟩ ?_
 rintro i hi
 refine sx7 ?_;refine qy ?_;refine a6 ?_;refine a7 ?_;refine a8 _ rfl (fun r0=>?_) (fun r0=>?_)
 ·
  have h0:=of_decide_eq_true r0
  try simp only [ty] at h0
  have hil:i < (cu t.attrs.length).length:=Int.ofNat_lt.1 h0
  refine aa ?_;refine a7 ?_;refine af ?_;refine sx7 ?_;(iterate 2 refine qy ?_);refine m9 1 ?_;refine s9 ?_;refine a6 ?_;refine ks 6 rfl rfl rfl ?_;refine sx7 ?_;refine qy ?_
  refine ay rfl rfl rfl rfl rfl rfl a9e (acf t fds add rem hna) (br.refl _) ⟨u9,u9,trivial⟩ rfl rfl ?_;refine qy ?_;refine a6 ?_;(iterate 2 refine a7 ?_);refine fb [] [0,1,2,3,4] rfl ?_
  refine gf (E:=b5) (L1:=[0,1,2,3]) (L2:=[4]) ae ?_;(iterate 4 refine qy ?_);refine a6 ?_;refine sa ?_
  refine a07 901 rfl a60 fun b es clock hf=>?_
  refine kw ?_
  refine a3n (k:=4) (L:=[]) 2 rfl rfl fun bi=>?_
  refine ic ?_;refine af ?_
  refine ap (ι:=(Array Nat × List AS)) ⟨[(0,some _),(3,some _),(4,some _),(6,some _),(19,some _),(20,some _),(21,some _),(31,some _)],[(905,some _),(900,some _),(1000,some _),(901,some _)]⟩ ⟨⟨c9,c9,c9,c9,c9,c9,c9,c9,trivial⟩,⟨u9,u9,u9,u9,trivial⟩⟩ (fun v=>⟨[(7,some (vA (mb v.2 (b9 (t.attrs.length:Nat)) ((d9 (b9 (t.attrs.length:Nat))).getD i default))))],[(2,some (.ex 2 (.pointer (some ⟨bi,0,none⟩)) bi (.mapIter (some b) clock v.1 clock)))]⟩) (fun v=>Vis es v.1 (v.2.map mkA)) (fun v=>(leftOf es v.1).size) ((#[],[])) (a6x) ⟨⟨zy,trivial⟩,⟨u9,trivial⟩⟩ ?_
  rintro ⟨s,K⟩ hV
  refine a7 ?_;refine fb [] [0,1] rfl ?_;refine a6y (mid:=901) (k:=0) (L:=[1]) rfl hf (fun h0=>?_) (fun e he key v hk hv hev=>?_)
  ·
   have hD:=aly (a67 hf hV h0) (b9 (t.attrs.length:Nat)) ((d9 (b9 (t.attrs.length:Nat))).getD i default)
   refine sa ?_;refine ym 901 rfl hf ?_;refine kw ?_;refine gf (E:=b5) (L1:=[1]) (L2:=[]) ae ?_;refine qy ?_;refine a6 ?_;refine ic ?_;refine a7 ?_
   refine a8 _ rfl (fun e=>by cases e) (fun _=>?_);refine am ?_;refine sx7 ?_;(iterate 7 refine qy ?_);refine a6 ?_;refine af ?_
   refine ap (ι:=Nat) ⟨[(0,some _),(4,some _),(6,some _),(7,some _),(19,some _),(20,some _),(21,some _),(48,some _)],[(1000,some _),(901,some _)]⟩ ⟨⟨c9,c9,c9,c9,c9,c9,c9,c9,trivial⟩,⟨u9,u9,trivial⟩⟩ (fun a=>⟨[(3,some (.v (.one (.ref 905 (jl (prs t.rows) t.attrs.length i a).length)))),(49,some (vI a))],[(905,some (.arr true 2 71 (jl (prs t.rows) t.attrs.length i a).length (lf Fd.c (jl (prs t.rows) t.attrs.length i a)))),(900,some (nst (prs t.rows) t.attrs.length i a))]⟩) (fun a=>a ≤ t.attrs.length) (fun a=>t.attrs.length - a) (0) (Nat.zero_le _) ⟨⟨zy,zy,trivial⟩,⟨u9,u9,trivial⟩⟩ ?_
   rintro a ha
   refine sx7 ?_;refine qy ?_;refine a6 ?_;refine a7 ?_;refine a8 _ rfl (fun r1=>?_) (fun r1=>?_)
   ·
    have h1:=of_decide_eq_true r1
    try simp only [ty] at h1
    have hfl:(dl (prs t.rows) t.attrs.length a (fk i a a)).length ≤ i:=by rw [l5];exact ajo _ _ _ _
    have hol:=acd (prs t.rows) t.attrs.length i a
    have hmul:i * t.attrs.length ≤ 4294967296 * 8:=Nat.mul_le_mul (by omega) hna
    refine aa ?_;refine a7 ?_;refine af ?_;refine sx7 ?_;(iterate 2 refine qy ?_);refine a6 ?_
    refine acx (i:=i) rfl (by omega) fun hd B hbf=>?_
    refine a7 ?_;refine sx7 ?_;(iterate 6 refine qy ?_);refine b6 rfl rfl (fun r2=>?_) (fun r2=>?_)
    ·
     have h2:=of_decide_eq_true r2
     try simp only [ty] at h2
     have hb1:=aub (by omega) h2
     rw [hD] at hb1
     have hn:nwB (prs t.rows) t.attrs.length i a = false:=ats hb1
     (iterate 5 refine k9 (gtf r2) ?_);refine rq rfl rfl rfl rfl rfl ?_ (hp:=r2);refine qy ?_;(iterate 6 refine k9 rfl ?_);refine qy ?_;refine a6 ?_;refine a8 _ rfl (fun _=>?_) (fun e=>by cases e)
     refine am ?_
     refine kg ⟨[(0,some _),(3,some _),(4,some _),(6,some _),(7,some _),(19,some _),(20,some _),(21,some _),(48,some _),(49,some _)],[(1000,some _),(901,some _),(905,some _),(900,some _),(906,some _),(907,some _)]⟩ ⟨⟨c9,c9,c9,c9,c9,c9,c9,c9,c9,c9,trivial⟩,⟨u9,u9,u9,u9,u9,u9,trivial⟩⟩ ?_
     refine ye 4 900 906 907 908 hbf rfl rfl rfl rfl (by omega) (by first | exact rg _ _ _ _ _ | exact a5h) (fun b _ hne=>by first | exact tf hne | exact a5q hne) ?_
     refine kg ⟨[(0,some _),(3,some _),(4,some _),(6,some _),(7,some _),(19,some _),(20,some _),(21,some _),(48,some _),(49,some _)],[(1000,some _),(901,some _),(905,some _),(908,some _)]⟩ ⟨⟨c9,c9,c9,c9,c9,c9,c9,c9,c9,c9,trivial⟩,⟨u9,u9,u9,u9,trivial⟩⟩ ?_
     refine a1g 4 908 900 rfl rfl ?_;refine gy ?_;(iterate 2 refine qy ?_);refine a6 ?_
     first | (refine ⟨a + 1, ?_, ?_, ?_⟩
              · show a + 1 ≤ _;omega
              · first | omega | (dsimp only;omega)
              · exact ⟨⟨⟨_,rfl,(cw (qt hn))⟩,zy,c9,c9,c9,c9,c9,c9,c9,c9,trivial⟩,⟨⟨_,rfl,(cg (qt hn))⟩,⟨_,rfl,(m7 (cg (l:=(dl (prs t.rows) t.attrs.length a (fk i a a))) (l':=(dl (prs t.rows) t.attrs.length a (i + 1))) (by rw [l5];exact a4r hil hn)))⟩,u9,u9,trivial⟩⟩)
           | (refine ⟨a + 1, ?_, ?_, ?_⟩
              · show a + 1 ≤ _;omega
              · first | omega | (dsimp only;omega)
              · exact ⟨⟨⟨_,rfl,(dj (qr hn))⟩,zy,c9,c9,c9,c9,c9,c9,c9,c9,trivial⟩,⟨⟨_,rfl,(j0 (qr hn) (CoP.refl _) (CoP.of_eq (congrArg (fun z=>PV.raw (.int .u32 z)) (vk 1 a))))⟩,⟨_,rfl,(m7 (ec (l:=(dl (prs t.rows) t.attrs.length a (fk i a a))) (l':=(dl (prs t.rows) t.attrs.length a (i + 1))) (by rw [l5];exact a4w hil hn) (CoP.refl _)))⟩,u9,u9,trivial⟩⟩)
    ·
     have h2:=of_decide_eq_false r2
     try simp only [ty] at h2
     have hb1:=aqg (by omega) h2
     rw [hD] at hb1
     (iterate 5 refine qy ?_ (hg:=(gff r2)));(iterate 2 refine qy ?_);refine b6 rfl rfl (fun r3=>?_) (fun r3=>?_)
     ·
      have h3:=r3
      have h3:=bj r2 h3
      have h3:=of_decide_eq_true h3
      try simp only [ty] at h3
      have hn:nwB (prs t.rows) t.attrs.length i a = false:=au8 ((a96 (by omega)).1 h3)
      (iterate 6 refine k9 (gtf r3) ?_);refine rq rfl rfl rfl rfl rfl ?_ (hp:=r3);refine a6 ?_;refine a8 _ rfl (fun _=>?_) (fun e=>by cases e);refine am ?_
      refine kg ⟨[(0,some _),(3,some _),(4,some _),(6,some _),(7,some _),(19,some _),(20,some _),(21,some _),(48,some _),(49,some _)],[(1000,some _),(901,some _),(905,some _),(900,some _),(906,some _),(907,some _)]⟩ ⟨⟨c9,c9,c9,c9,c9,c9,c9,c9,c9,c9,trivial⟩,⟨u9,u9,u9,u9,u9,u9,trivial⟩⟩ ?_
      refine ye 4 900 906 907 908 hbf rfl rfl rfl rfl (by omega) (by first | exact rg _ _ _ _ _ | exact a5h) (fun b _ hne=>by first | exact tf hne | exact a5q hne) ?_
      refine kg ⟨[(0,some _),(3,some _),(4,some _),(6,some _),(7,some _),(19,some _),(20,some _),(21,some _),(48,some _),(49,some _)],[(1000,some _),(901,some _),(905,some _),(908,some _)]⟩ ⟨⟨c9,c9,c9,c9,c9,c9,c9,c9,c9,c9,trivial⟩,⟨u9,u9,u9,u9,trivial⟩⟩ ?_
      refine a1g 4 908 900 rfl rfl ?_;refine gy ?_;(iterate 2 refine qy ?_);refine a6 ?_
      first | (refine ⟨a + 1, ?_, ?_, ?_⟩
               · show a + 1 ≤ _;omega
               · first | omega | (dsimp only;omega)
               · exact ⟨⟨⟨_,rfl,(cw (qt hn))⟩,zy,c9,c9,c9,c9,c9,c9,c9,c9,trivial⟩,⟨⟨_,rfl,(cg (qt hn))⟩,⟨_,rfl,(m7 (cg (l:=(dl (prs t.rows) t.attrs.length a (fk i a a))) (l':=(dl (prs t.rows) t.attrs.length a (i + 1))) (by rw [l5];exact a4r hil hn)))⟩,u9,u9,trivial⟩⟩)
            | (refine ⟨a + 1, ?_, ?_, ?_⟩
               · show a + 1 ≤ _;omega
               · first | omega | (dsimp only;omega)
               · exact ⟨⟨⟨_,rfl,(dj (qr hn))⟩,zy,c9,c9,c9,c9,c9,c9,c9,c9,trivial⟩,⟨⟨_,rfl,(j0 (qr hn) (CoP.refl _) (CoP.of_eq (congrArg (fun z=>PV.raw (.int .u32 z)) (vk 1 a))))⟩,⟨_,rfl,(m7 (ec (l:=(dl (prs t.rows) t.attrs.length a (fk i a a))) (l':=(dl (prs t.rows) t.attrs.length a (i + 1))) (by rw [l5];exact a4w hil hn) (CoP.refl _)))⟩,u9,u9,trivial⟩⟩)
     ·
      have h3:=r3
      have h3:=bj r2 h3
      have h3:=of_decide_eq_false h3
      try simp only [ty] at h3
      have hb2:=arw (by omega) h3
      (iterate 3 refine qy ?_ (hg:=(gff r3)))
      refine rq (out:=⟨_, .v (.one (.ref 906 (dl (prs t.rows) t.attrs.length a (fk i a a)).length))⟩) rfl rfl rfl (congrArg (fun z=>some (Out.mk _ (HR.v (HC.one z)))) (rg hd 906 a (dl (prs t.rows) t.attrs.length a (fk i a a)).length 0)) (gff r3) ?_
      refine qy ?_ (hg:=(gff r3))
      refine rc rfl rfl rfl rfl rfl rfl aaw (aey (dl (prs t.rows) t.attrs.length a (fk i a a)) 77 1 (fun j=>[bx (asC ((d9 (b9 (t.attrs.length:Nat))).getD i default))].getD j .any) (fun y=>decide (sub y ((d9 (b9 (t.attrs.length:Nat))).getD i default))) apx (fun y=>aut y ((d9 (b9 (t.attrs.length:Nat))).getD i default))) (CoL.refl _) rfl (gff r3) ?_
      refine qy ?_;refine a6 ?_;refine a8 _ rfl (fun r4=>?_) (fun r4=>?_)
      ·
       have h4:=r4
       have h4:=bj r3 h4
       have hn:nwB (prs t.rows) t.attrs.length i a = false:=am9 (b:=true) hb1 hb2 (bj (by assumption) r4)
       refine am ?_
       refine kg ⟨[(0,some _),(3,some _),(4,some _),(6,some _),(7,some _),(19,some _),(20,some _),(21,some _),(48,some _),(49,some _)],[(1000,some _),(901,some _),(905,some _),(900,some _),(906,some _),(907,some _)]⟩ ⟨⟨c9,c9,c9,c9,c9,c9,c9,c9,c9,c9,trivial⟩,⟨u9,u9,u9,u9,u9,u9,trivial⟩⟩ ?_
       refine ye 4 900 906 907 908 hbf rfl rfl rfl rfl (by omega) (by first | exact rg _ _ _ _ _ | exact a5h) (fun b _ hne=>by first | exact tf hne | exact a5q hne) ?_
       refine kg ⟨[(0,some _),(3,some _),(4,some _),(6,some _),(7,some _),(19,some _),(20,some _),(21,some _),(48,some _),(49,some _)],[(1000,some _),(901,some _),(905,some _),(908,some _)]⟩ ⟨⟨c9,c9,c9,c9,c9,c9,c9,c9,c9,c9,trivial⟩,⟨u9,u9,u9,u9,trivial⟩⟩ ?_
       refine a1g 4 908 900 rfl rfl ?_;refine gy ?_;(iterate 2 refine qy ?_);refine a6 ?_
       first | (refine ⟨a + 1, ?_, ?_, ?_⟩
                · show a + 1 ≤ _;omega
                · first | omega | (dsimp only;omega)
                · exact ⟨⟨⟨_,rfl,(cw (qt hn))⟩,zy,c9,c9,c9,c9,c9,c9,c9,c9,trivial⟩,⟨⟨_,rfl,(cg (qt hn))⟩,⟨_,rfl,(m7 (cg (l:=(dl (prs t.rows) t.attrs.length a (fk i a a))) (l':=(dl (prs t.rows) t.attrs.length a (i + 1))) (by rw [l5];exact a4r hil hn)))⟩,u9,u9,trivial⟩⟩)
             | (refine ⟨a + 1, ?_, ?_, ?_⟩
                · show a + 1 ≤ _;omega
                · first | omega | (dsimp only;omega)
                · exact ⟨⟨⟨_,rfl,(dj (qr hn))⟩,zy,c9,c9,c9,c9,c9,c9,c9,c9,trivial⟩,⟨⟨_,rfl,(j0 (qr hn) (CoP.refl _) (CoP.of_eq (congrArg (fun z=>PV.raw (.int .u32 z)) (vk 1 a))))⟩,⟨_,rfl,(m7 (ec (l:=(dl (prs t.rows) t.attrs.length a (fk i a a))) (l':=(dl (prs t.rows) t.attrs.length a (i + 1))) (by rw [l5];exact a4w hil hn) (CoP.refl _)))⟩,u9,u9,trivial⟩⟩)
      ·
       have h4:=r4
       have h4:=bj r3 h4
       have hn:nwB (prs t.rows) t.attrs.length i a = true:=am9 (b:=false) hb1 hb2 (bj (by assumption) r4)
       refine aa ?_;refine a7 ?_;refine aw (E:=b5) ae al [0,1,2,3,4,5,6,7,8,9,10] ?_;(iterate 5 refine qy ?_)
       refine rq (out:=⟨_, .v (.one (.ref 906 (dl (prs t.rows) t.attrs.length a (fk i a a)).length))⟩) rfl rfl rfl (congrArg (fun z=>some (Out.mk _ (HR.v (HC.one z)))) (rg hd 906 a (dl (prs t.rows) t.attrs.length a (fk i a a)).length 0)) rfl ?_
       refine qy ?_;refine m9 3 ?_;refine ra 4 true rfl rfl rfl rfl rfl rfl ?_;refine qy ?_;refine s9 ?_;refine a6 ?_;refine ⟨by kernel_rfl, ?_⟩
       refine aw (E:=b5) ae al [0,1,2,3,4,5,6,7] ?_;(iterate 5 refine qy ?_);refine m9 5 ?_;refine ra 6 true rfl rfl rfl rfl rfl rfl ?_;refine qy ?_;refine a6 ?_
       refine ⟨by kernel_rfl, ?_⟩
       refine kg ⟨[(0,some _),(3,some _),(4,some _),(6,some _),(7,some _),(19,some _),(20,some _),(21,some _),(48,some _),(49,some _)],[(1000,some _),(901,some _),(905,some _),(900,some _),(906,some _),(907,some _)]⟩ ⟨⟨c9,c9,c9,c9,c9,c9,c9,c9,c9,c9,trivial⟩,⟨u9,u9,u9,u9,u9,u9,trivial⟩⟩ ?_
       refine ye 4 900 906 907 908 hbf rfl rfl rfl rfl (by omega) (by first | exact rg _ _ _ _ _ | exact a5h) (fun b _ hne=>by first | exact tf hne | exact a5q hne) ?_
       refine kg ⟨[(0,some _),(3,some _),(4,some _),(6,some _),(7,some _),(19,some _),(20,some _),(21,some _),(48,some _),(49,some _)],[(1000,some _),(901,some _),(905,some _),(908,some _)]⟩ ⟨⟨c9,c9,c9,c9,c9,c9,c9,c9,c9,c9,trivial⟩,⟨u9,u9,u9,u9,trivial⟩⟩ ?_
       refine a1g 4 908 900 rfl rfl ?_;refine gy ?_;(iterate 2 refine qy ?_);refine a6 ?_
       first | (refine ⟨a + 1, ?_, ?_, ?_⟩
                · show a + 1 ≤ _;omega
                · first | omega | (dsimp only;omega)
                · exact ⟨⟨⟨_,rfl,(cw (qt hn))⟩,zy,c9,c9,c9,c9,c9,c9,c9,c9,trivial⟩,⟨⟨_,rfl,(cg (qt hn))⟩,⟨_,rfl,(m7 (cg (l:=(dl (prs t.rows) t.attrs.length a (fk i a a))) (l':=(dl (prs t.rows) t.attrs.length a (i + 1))) (by rw [l5];exact a4r hil hn)))⟩,u9,u9,trivial⟩⟩)
             | (refine ⟨a + 1, ?_, ?_, ?_⟩
                · show a + 1 ≤ _;omega
                · first | omega | (dsimp only;omega)
                · exact ⟨⟨⟨_,rfl,(dj (qr hn))⟩,zy,c9,c9,c9,c9,c9,c9,c9,c9,trivial⟩,⟨⟨_,rfl,(j0 (qr hn) (CoP.refl _) (CoP.of_eq (congrArg (fun z=>PV.raw (.int .u32 z)) (vk 1 a))))⟩,⟨_,rfl,(m7 (ec (l:=(dl (prs t.rows) t.attrs.length a (fk i a a))) (l':=(dl (prs t.rows) t.attrs.length a (i + 1))) (by rw [l5];exact a4w hil hn) (CoP.refl _)))⟩,u9,u9,trivial⟩⟩)
   ·
    have h1:=of_decide_eq_false r1
    try simp only [ty] at h1
    obtain rfl:a = t.attrs.length:=by omega
    refine am ?_;refine gy ?_;(iterate 2 refine qy ?_);refine a6 ?_;refine ⟨i + 1, ?_, ?_, ?_⟩
    · show i + 1 ≤ _;omega
    · first | omega | (dsimp only;omega)
    · exact ⟨⟨⟨_,rfl,(cw (a85 _ _ _).symm)⟩,zy,c9,c9,c9,c9,trivial⟩,⟨⟨_,rfl,(cg (a85 _ _ _).symm)⟩,⟨_,rfl,(ao4 _ _ _)⟩,u9,u9,trivial⟩⟩
  ·
   obtain ⟨k,rfl,hck,hy⟩:=o6 hv
   refine gf (E:=b5) (L1:=[1]) (L2:=[]) ae ?_;refine qy ?_;refine a6 ?_;refine ic ?_;refine a7 ?_;refine a8 _ rfl (fun _=>?_) (fun e=>by cases e);refine aa ?_;refine af ?_
   refine a7 ?_;refine fb [] [0,1,2] rfl ?_;refine a3p (mid:=901) (k:=0) (L:=[1,2]) rfl hf he hk hv hev ?_;refine gf (E:=b5) (L1:=[1,2]) (L2:=[]) ae ?_;(iterate 2 refine qy ?_)
   refine a6 ?_;refine ic ?_;refine sx7 ?_;(iterate 4 refine qy ?_);refine a6 ?_;refine a8 _ rfl (fun r5=>?_) (fun r5=>?_)
   ·
    have h5:=of_decide_eq_true r5
    try simp only [ty] at h5
    have hs:sub ((d9 (b9 (t.attrs.length:Nat))).getD i default) k:=gd.1 h5
    refine gy ?_;(iterate 4 refine qy ?_);refine a6 ?_
    first | (refine ⟨(s.push e.born, K ++ [k]), ?_, ?_, ?_⟩
             · exact uf hf hV he hk
             · exact left_shrinks es s e he
             · exact ⟨⟨⟨_,rfl,(ij (by rw [aiw hs,zg]))⟩,c9,c9,c9,c9,c9,c9,c9,c9,trivial⟩,⟨u9,u9,u9,u9,u9,trivial⟩⟩)
          | (refine ⟨(s.push e.born,K ++ [k]), ?_, ?_, ?_⟩
             · exact uf hf hV he hk
             · exact left_shrinks es s e he
             · exact ⟨⟨⟨_,rfl,(ij (by rw [ajd hs]))⟩,c9,c9,c9,c9,c9,c9,c9,c9,trivial⟩,⟨u9,u9,u9,u9,u9,trivial⟩⟩)
   ·
    have h5:=of_decide_eq_false r5
    try simp only [ty] at h5
    have hs:¬ sub ((d9 (b9 (t.attrs.length:Nat))).getD i default) k:=fun e=>h5 (gd.2 e)
    refine aa ?_
    first | (refine ⟨(s.push e.born, K ++ [k]), ?_, ?_, ?_⟩
             · exact uf hf hV he hk
             · exact left_shrinks es s e he
             · exact ⟨⟨⟨_,rfl,(ij (by rw [aiw hs,zg]))⟩,c9,c9,c9,c9,c9,c9,c9,c9,trivial⟩,⟨u9,u9,u9,u9,u9,trivial⟩⟩)
          | (refine ⟨(s.push e.born,K ++ [k]), ?_, ?_, ?_⟩
             · exact uf hf hV he hk
             · exact left_shrinks es s e he
             · exact ⟨⟨⟨_,rfl,(ij (by rw [ajd hs]))⟩,c9,c9,c9,c9,c9,c9,c9,c9,trivial⟩,⟨u9,u9,u9,u9,u9,trivial⟩⟩)
 ·
  have h0:=of_decide_eq_false r0
  try simp only [ty] at h0
  obtain rfl:i = (d9 (b9 (t.attrs.length:Nat))).length:=by omega
  refine am ?_;refine a7 ?_;refine dh 3 rfl rfl rfl ?_;refine gy ?_;(iterate 2 refine qy ?_);refine a6 ?_;refine au ?_;refine ⟨.inr rfl, ?_⟩
  exact ⟨_,_,rfl,(by (repeat' apply And.intro) <;> first | trivial | exact Nat.le_of_ble_eq_true rfl),CoR.refl _,⟨u9,u9,trivial⟩⟩
end Go.Hx
end
section
namespace Go.Hx
open Go.Proofs
set_option maxRecDepth 100000
theorem abg:ai Tryz.prog 52:=⟨Tryz.f52,Tryz.func52,by kernel_rfl,by kernel_rfl⟩
theorem ab5 (t:Tbl) (fds add rem:List Fd) (hna:t.attrs.length ≤ 8) (hf:fds.length ≤ 68719476736):cj Tryz.prog 52 [.one (.ptr 1000 0)] (mst t fds add rem).objs (.tup []) (oz t fds).objs [1000]:=by
 refine d7 (nt:=30) ae Tryz.func52 rfl rfl l9 rfl ?_
 have hfl:=eq hna
 refine sx7 ?_;(iterate 5 refine qy ?_);refine a6 ?_;refine sx7 ?_;(iterate 2 refine qy ?_);refine ay rfl rfl rfl rfl rfl rfl aiv (a9k t fds add rem hna) (br.refl _) ⟨u9,u9,trivial⟩ rfl rfl ?_
 (iterate 2 refine qy ?_);refine s9 ?_;refine a6 ?_;refine aw (E:=b5) ae al [0,1,2,3,4,5,6,7,8,9,10,11,12,13,14,15,16,17,18,19] ?_;(iterate 7 refine qy ?_)
 refine rc rfl rfl rfl rfl rfl rfl aj6 (aba (b8 t) fds hfl hf) (CoL.refl _) rfl rfl ?_;(iterate 5 refine qy ?_);refine rc rfl rfl rfl rfl rfl rfl aj6 (aba fds (b8 t) hf hfl) (CoL.refl _) rfl rfl ?_
 (iterate 2 refine qy ?_);refine s9 ?_;(iterate 2 refine qy ?_);refine s9 ?_;refine a6 ?_;refine ⟨by kernel_rfl, ?_⟩;refine ⟨.inl rfl, ?_⟩
 exact ⟨_,_,rfl,(by (repeat' apply And.intro) <;> first | trivial | exact Nat.le_of_ble_eq_true rfl),CoR.refl _,⟨u9,u9,trivial⟩⟩
theorem abj:ai Tryz.prog 18:=⟨Tryz.f18,Tryz.func18,by kernel_rfl,by kernel_rfl⟩
theorem af3 (t:Tbl) (fds add rem:List Fd) (ht:TOk t) (hna:t.attrs.length ≤ 8) (hf:fds.length ≤ 68719476736) (r:Row):cj Tryz.prog 18 [.one (.ptr 1000 0),r.pc.toH] (mst t fds add rem).objs (.v (.one (.p (.raw (.int .i64 (ew t r)))))) (yi (mst t fds add rem) r).objs [1000]:=by
 refine d7 (nt:=35) ae Tryz.func18 rfl rfl l9 rfl ?_
 have hnr:=ht.nr
 refine sx7 ?_;refine m9 0 ?_;refine qy ?_;refine a6 ?_;refine a7 ?_;refine aw (E:=b5) ae al [0,1,2,3,4,5,6,7,8,9,10,11] ?_;(iterate 5 refine qy ?_)
 refine rc rfl rfl rfl rfl rfl rfl aqu (c70 t r) (CoL.refl _) rfl rfl ?_;(iterate 3 refine qy ?_);refine m9 1 ?_;refine s9 ?_;refine qy ?_;refine a6 ?_;refine ⟨by kernel_rfl, ?_⟩;refine a7 ?_;refine sx7 ?_
 (iterate 2 refine qy ?_);refine a6 ?_;refine a8 _ rfl (fun r0=>?_) (fun r0=>?_)
 ·
  have h0:=r0
  have h0:=of_decide_eq_false (az h0)
  try simp only [ty] at h0
  refine sx7 ?_;(iterate 2 refine qy ?_);refine a6 ?_;refine au ?_;refine ⟨.inr rfl, ?_⟩
  have hh:=arc (x:=(mst t fds add rem)) (r:=r) rfl (by omega)
  rw [hh.1,hh.2]
  exact ⟨_,_,rfl,(by (repeat' apply And.intro) <;> first | trivial | exact Nat.le_of_ble_eq_true rfl),CoR.refl _,⟨u9,u9,trivial⟩⟩
 ·
  have h0:=r0
  have h0:=of_decide_eq_true (b4 h0)
  try simp only [ty] at h0
  have h0e:bz t r = 0:=by omega
  have hV:=a52 h0e
  have hna2:(ef t r).attrs.length ≤ 8:=by rw [j9 h0e];exact hna
  have hr2:r.vals.length = (ef t r).attrs.length:=by rw [j9 h0e];exact (a2k h0e).2.1
  refine aa ?_;refine a7 ?_;refine sx7 ?_;(iterate 7 refine qy ?_);refine a6 ?_;refine a8 _ rfl (fun r1=>?_) (fun r1=>?_)
  ·
   have h1:=of_decide_eq_true r1
   try simp only [ty] at h1
   refine sx7 ?_;refine qy ?_;refine a6 ?_;refine au ?_;refine ⟨.inr rfl, ?_⟩
   have hh:=asu (x:=(mst t fds add rem)) (r:=r) h0e (by show 200 ≤ t.rows.length;omega)
   rw [hh.1,hh.2]
   exact ⟨_,_,rfl,(by (repeat' apply And.intro) <;> first | trivial | exact Nat.le_of_ble_eq_true rfl),CoR.refl _,⟨u9,u9,trivial⟩⟩
  ·
   have h1:=of_decide_eq_false r1
   try simp only [ty] at h1
   refine aa ?_;refine sx7 ?_;(iterate 4 refine qy ?_);refine s9 ?_;refine a6 ?_;refine sx7 ?_;(iterate 2 refine qy ?_)
   refine ay rfl rfl rfl rfl rfl rfl a3y (a5s ⟨ef t r,d8 t.rows,fds,add,rem⟩ r (1) (.inl rfl) hV hr2 (a18 (by omega))) (br.refl _) ⟨u9,u9,trivial⟩ rfl rfl ?_;refine a6 ?_
   rw [show (⟨ef t r,ez (ef t r).rows r 1 (d8 t.rows),fds,add,rem⟩:MSt) = mst (ef t r) fds add rem from congrArg (fun c=>MSt.mk (ef t r) c fds add rem) (ael h0e)]
   refine sx7 ?_;refine qy ?_;refine ay rfl rfl rfl rfl rfl rfl abg (ab5 (ef t r) fds add rem hna2 hf) (br.refl _) ⟨u9,u9,trivial⟩ rfl rfl ?_;refine a6 ?_;refine sx7 ?_;refine qy ?_;refine a6 ?_
   refine au ?_;refine ⟨.inr rfl, ?_⟩
   have hh:=aq1 (x:=(mst t fds add rem)) (r:=r) h0e (by show ¬ 200 ≤ t.rows.length;omega)
   rw [hh.1,hh.2]
   exact ⟨_,_,rfl,(by (repeat' apply And.intro) <;> first | trivial | exact Nat.le_of_ble_eq_true rfl),CoR.refl _,⟨u9,u9,trivial⟩⟩
end Go.Hx
end
section
namespace Go.Hx
open Go.Proofs
set_option maxRecDepth 100000
theorem arj:ai Tryz.prog 33:=⟨Tryz.f33,Tryz.func33,by kernel_rfl,by kernel_rfl⟩
theorem aur (t:Tbl) (fds add rem:List Fd) (ht:TOk t) (hna:t.attrs.length ≤ 8) (hf:fds.length ≤ 68719476736) (id:Int):cj Tryz.prog 33 [.one (.ptr 1000 0), .one (.p (.raw (.int .i64 (id))))] (mst t fds add rem).objs (.v (.one (.p (.raw (.int .i64 (dm t id)))))) (aar (mst t fds add rem) id).objs [1000]:=by
 refine d7 (nt:=46) ae Tryz.func33 rfl rfl l9 rfl ?_
 have hnr:=ht.nr
 refine sx7 ?_;refine qy ?_;refine a6 ?_;refine sx7 ?_;(iterate 5 refine qy ?_);refine rc rfl rfl rfl rfl rfl rfl aq9 (c71 t id) (CoL.refl _) rfl rfl ?_;(iterate 3 refine qy ?_);refine m9 0 ?_;refine s9 ?_
 refine qy ?_;refine a6 ?_;refine a7 ?_;refine sx7 ?_;(iterate 2 refine qy ?_);refine a6 ?_;refine a8 _ rfl (fun r0=>?_) (fun r0=>?_)
 ·
  have h0:=r0
  have h0:=of_decide_eq_false (az h0)
  try simp only [ty] at h0
  refine sx7 ?_;(iterate 2 refine qy ?_);refine a6 ?_;refine au ?_;refine ⟨.inr rfl, ?_⟩
  rw [show aar (mst t fds add rem) id = (mst t fds add rem) from if_neg (by assumption)]
  exact ⟨_,_,rfl,(by (repeat' apply And.intro) <;> first | trivial | exact Nat.le_of_ble_eq_true rfl),CoR.refl _,⟨u9,u9,trivial⟩⟩
 ·
  have h0:=r0
  have h0:=of_decide_eq_true (b4 h0)
  try simp only [ty] at h0
  have h0e:dm t id = 0:=by omega
  have hV:=aam h0e
  have hna2:(my t id).attrs.length ≤ 8:=by rw [o0 h0e];exact hna
  have hix:=a56 (a36 h0e).2
  have hmx:(max (ax t.rows id) 0).toNat < t.rows.length:=by rw [hix.1];exact hix.2
  have hr2:(t.rows.getD (max (ax t.rows id) 0).toNat default).vals.length = t.attrs.length:=ht.width hmx
  refine aa ?_;refine sx7 ?_;(iterate 5 refine qy ?_);refine rc rfl rfl rfl rfl rfl rfl zp (c68 t id) (CoL.refl _) rfl rfl ?_;(iterate 5 refine qy ?_);refine a6 ?_;refine sx7 ?_;(iterate 9 refine qy ?_)
  refine ay rfl rfl rfl rfl rfl rfl a3y (a5s (mst t fds add rem) (t.rows.getD (max (ax t.rows id) 0).toNat default) (-1) (.inr rfl) ht hr2 (a18 (by show t.rows.length ≤ 1000;omega))) (br.refl _) ⟨u9,u9,trivial⟩ rfl rfl ?_
  refine a6 ?_
  rw [show (⟨t,ez t.rows (t.rows.getD (max (ax t.rows id) 0).toNat default) (-1) (d8 t.rows),fds,add,rem⟩:MSt) = ⟨t,d8 (my t id).rows,fds,add,rem⟩ from congrArg (fun c=>MSt.mk t c fds add rem) (by rw [hix.1];exact ano h0e)]
  refine sx7 ?_;(iterate 4 refine qy ?_);refine s9 ?_;refine a6 ?_;refine sx7 ?_;refine qy ?_
  refine ay rfl rfl rfl rfl rfl rfl abg (ab5 (my t id) fds add rem hna2 hf) (br.refl _) ⟨u9,u9,trivial⟩ rfl rfl ?_;refine a6 ?_;refine sx7 ?_;refine qy ?_;refine a6 ?_;refine au ?_
  refine ⟨.inr rfl, ?_⟩
  rw [show aar (mst t fds add rem) id = oz (my t id) fds from if_pos h0e,h0e]
  exact ⟨_,_,rfl,(by (repeat' apply And.intro) <;> first | trivial | exact Nat.le_of_ble_eq_true rfl),CoR.refl _,⟨u9,u9,trivial⟩⟩
theorem at0:ai Tryz.prog 36:=⟨Tryz.f36,Tryz.func36,by kernel_rfl,by kernel_rfl⟩
theorem avk (t:Tbl) (fds add rem:List Fd) (ht:TOk t) (hna:t.attrs.length ≤ 8) (hf:fds.length ≤ 68719476736) (id a:Int) (v:Val):cj Tryz.prog 36 [.one (.ptr 1000 0), .agg [.p (.raw (.int .i64 id)), .p (.raw (.int .i64 a))],v.pc.toH] (mst t fds add rem).objs (.v (.one (.p (.raw (.int .i64 (ct t id a v)))))) (mCh (mst t fds add rem) id a v).objs [1000]:=by
 refine d7 (nt:=60) ae Tryz.func36 rfl rfl l9 rfl ?_
 have hnr:=ht.nr
 refine sx7 ?_;refine m9 0 ?_;refine m9 1 ?_;refine qy ?_;refine a6 ?_;refine a7 ?_;refine aw (E:=b5) ae al [0,1,2,3,4,5,6,7,8,9,10,11,12] ?_;(iterate 6 refine qy ?_)
 refine rc rfl rfl rfl rfl rfl rfl aso (c72 t id a v) (CoL.refl _) rfl rfl ?_;(iterate 3 refine qy ?_);refine m9 2 ?_;refine s9 ?_;refine qy ?_;refine a6 ?_;refine ⟨by kernel_rfl, ?_⟩;refine a7 ?_;refine sx7 ?_
 (iterate 2 refine qy ?_);refine a6 ?_;refine a8 _ rfl (fun r0=>?_) (fun r0=>?_)
 ·
  have h0:=r0
  have h0:=of_decide_eq_false (az h0)
  try simp only [ty] at h0
  refine sx7 ?_;(iterate 2 refine qy ?_);refine a6 ?_;refine au ?_;refine ⟨.inr rfl, ?_⟩
  rw [show mCh (mst t fds add rem) id a v = (mst t fds add rem) from if_neg (by assumption)]
  exact ⟨_,_,rfl,(by (repeat' apply And.intro) <;> first | trivial | exact Nat.le_of_ble_eq_true rfl),CoR.refl _,⟨u9,u9,trivial⟩⟩
 ·
  have h0:=r0
  have h0:=of_decide_eq_true (b4 h0)
  try simp only [ty] at h0
  have h0e:ct t id a v = 0:=by omega
  have hV:=a90 h0e
  have hna2:(chT t id a v).attrs.length ≤ 8:=by rw [qx h0e];exact hna
  have hix:=a56 (a0z h0e).2.1
  have hlc:=aci h0e
  have hmx:(max (ax t.rows id) 0).toNat < t.rows.length:=by rw [hix.1];exact hix.2
  have hmx2:(max (ax t.rows id) 0).toNat < (chT t id a v).rows.length:=by rw [hlc];exact hmx
  have hr2:(t.rows.getD (max (ax t.rows id) 0).toNat default).vals.length = t.attrs.length:=ht.width hmx
  have hr3:((chT t id a v).rows.getD (max (ax t.rows id) 0).toNat default).vals.length = (chT t id a v).attrs.length:=hV.width hmx2
  refine aa ?_;refine a7 ?_;refine aw (E:=b5) ae al [0,1,2,3,4,5,6,7,8,9,10,11] ?_;(iterate 6 refine qy ?_);refine rc rfl rfl rfl rfl rfl rfl zp (c68 t id) (CoL.refl _) rfl rfl ?_
  (iterate 5 refine qy ?_);refine a6 ?_;refine ⟨by kernel_rfl, ?_⟩;refine sx7 ?_;(iterate 9 refine qy ?_)
  refine ay rfl rfl rfl rfl rfl rfl a3y (a5s (mst t fds add rem) (t.rows.getD (max (ax t.rows id) 0).toNat default) (-1) (.inr rfl) ht hr2 (a18 (by show t.rows.length ≤ 1000;omega))) (br.refl _) ⟨u9,u9,trivial⟩ rfl rfl ?_
  refine a6 ?_
  rw [show (⟨t,ez t.rows (t.rows.getD (max (ax t.rows id) 0).toNat default) (-1) (d8 t.rows),fds,add,rem⟩:MSt) = ⟨t,d8 (t.rows.eraseIdx (ax t.rows id).toNat),fds,add,rem⟩ from congrArg (fun c=>MSt.mk t c fds add rem) (by rw [hix.1];exact ao8 h0e)]
  refine sx7 ?_;(iterate 4 refine qy ?_);refine s9 ?_;refine a6 ?_;refine sx7 ?_;(iterate 9 refine qy ?_)
  refine ay rfl rfl rfl rfl rfl rfl a3y (a5s ⟨(chT t id a v),d8 (t.rows.eraseIdx (ax t.rows id).toNat),fds,add,rem⟩ ((chT t id a v).rows.getD (max (ax t.rows id) 0).toNat default) (1) (.inl rfl) hV hr3 (a18 (by have:=(List.eraseIdx_sublist t.rows (ax t.rows id).toNat).length_le;omega))) (br.refl _) ⟨u9,u9,trivial⟩ rfl rfl ?_
  refine a6 ?_
  rw [show (⟨(chT t id a v),ez (chT t id a v).rows ((chT t id a v).rows.getD (max (ax t.rows id) 0).toNat default) 1 (d8 (t.rows.eraseIdx (ax t.rows id).toNat)),fds,add,rem⟩:MSt) = mst (chT t id a v) fds add rem from congrArg (fun c=>MSt.mk (chT t id a v) c fds add rem) (by rw [hix.1];exact ap2 h0e)]
  refine sx7 ?_;refine qy ?_;refine ay rfl rfl rfl rfl rfl rfl abg (ab5 (chT t id a v) fds add rem hna2 hf) (br.refl _) ⟨u9,u9,trivial⟩ rfl rfl ?_;refine a6 ?_;refine sx7 ?_;refine qy ?_;refine a6 ?_
  refine au ?_;refine ⟨.inr rfl, ?_⟩
  rw [show mCh (mst t fds add rem) id a v = oz (chT t id a v) fds from if_pos h0e,h0e]
  exact ⟨_,_,rfl,(by (repeat' apply And.intro) <;> first | trivial | exact Nat.le_of_ble_eq_true rfl),CoR.refl _,⟨u9,u9,trivial⟩⟩
end Go.Hx
end
section
namespace Go.Hx
open Go.Proofs
set_option maxRecDepth 100000
theorem zz:ai Tryz.prog 26:=⟨Tryz.f26,Tryz.func26,by kernel_rfl,by kernel_rfl⟩
theorem a3w (t:Tbl) (fds add rem:List Fd) (hf:fds.length ≤ 68719476736) (hA:add.length ≤ 68719476736) (hR:rem.length ≤ 68719476736):cj Tryz.prog 26 [.one (.ptr 1000 0)] (mst t fds add rem).objs (.v (.one (.p (fdl fds)))) (mst t fds add rem).objs [1000]:=by
 refine d7 (nt:=8) ae Tryz.func26 rfl rfl l9 rfl ?_;refine sx7 ?_;refine qy ?_;refine a6 ?_;refine sx7 ?_;(iterate 4 refine qy ?_)
 refine rc rfl rfl rfl rfl rfl rfl abx (a3s fds.length false (lf Fd.c fds) (by omega)) (CoL.refl _) rfl rfl ?_;refine qy ?_;refine a6 ?_;refine au ?_;refine ⟨.inr rfl, ?_⟩
 exact ⟨_,_,rfl,(by (repeat' apply And.intro) <;> first | trivial | exact Nat.le_of_ble_eq_true rfl),CoR.refl _,⟨u9,u9,trivial⟩⟩
theorem a4g:ai Tryz.prog 14:=⟨Tryz.f14,Tryz.func14,by kernel_rfl,by kernel_rfl⟩
theorem a9a (t:Tbl) (fds add rem:List Fd) (hf:fds.length ≤ 68719476736) (hA:add.length ≤ 68719476736) (hR:rem.length ≤ 68719476736):cj Tryz.prog 14 [.one (.ptr 1000 0)] (mst t fds add rem).objs (.tup [.one (.p (fdl add)), .one (.p (fdl rem))]) (mst t fds add rem).objs [1000]:=by
 refine d7 (nt:=14) ae Tryz.func14 rfl rfl l9 rfl ?_;refine sx7 ?_;(iterate 2 refine qy ?_);refine a6 ?_;refine a7 ?_;refine aw (E:=b5) ae al [0,1,2,3,4,5,6,7,8,9,10,11] ?_
 (iterate 4 refine qy ?_);refine rc rfl rfl rfl rfl rfl rfl abx (a3s add.length false (lf Fd.c add) (by omega)) (CoL.refl _) rfl rfl ?_;(iterate 4 refine qy ?_)
 refine rc rfl rfl rfl rfl rfl rfl abx (a3s rem.length false (lf Fd.c rem) (by omega)) (CoL.refl _) rfl rfl ?_;(iterate 2 refine qy ?_);refine a6 ?_;refine ⟨by kernel_rfl, ?_⟩;refine au ?_;refine ⟨.inr rfl, ?_⟩
 exact ⟨_,_,rfl,(by (repeat' apply And.intro) <;> first | trivial | exact Nat.le_of_ble_eq_true rfl),CoR.refl _,⟨u9,u9,trivial⟩⟩
theorem aqm:ai Tryz.prog 37:=⟨Tryz.f37,Tryz.func37,by kernel_rfl,by kernel_rfl⟩
theorem att (t:Tbl) (fds add rem:List Fd) (ht:TOk t):cj Tryz.prog 37 [.one (.ptr 1000 0)] (mst t fds add rem).objs (.v t.pc.toH) (mst t fds add rem).objs [1000]:=by
 refine d7 (nt:=41) ae Tryz.func37 rfl rfl l9 rfl ?_
 have hnr:=ht.nr
 have hna:=ht.na
 have hw:=fun i (h:i < t.rows.length)=>ht.width h
 refine sx7 ?_;refine m9 0 ?_;refine a6 ?_;refine a7 ?_;refine aw (E:=b5) ae al [0,1,2,3,4,5,6,7,8,9,10,11,12,13] ?_;(iterate 10 refine qy ?_)
 refine rc rfl rfl rfl rfl rfl rfl rj (pg t.attrs.length false (lf ue t.attrs) (by omega)) (CoL.refl _) rfl rfl ?_;refine qy ?_;refine m9 1 ?_;refine s9 ?_;refine a6 ?_;refine ⟨by kernel_rfl, ?_⟩
 refine a7 ?_;refine sx7 ?_;(iterate 7 refine qy ?_);refine a6 ?_;refine af ?_
 refine gm 1 2 905 true 2 48 (lf Row.c t.rows) (by decide) rfl rfl (CoP.sl rfl (.inr rfl) (fun h=>h) (fun i j hi _=>absurd hi (Nat.not_lt_zero i))) (.inr rfl) rfl rfl ?_
 refine ap (ι:=Nat) ⟨[(2,some _),(3,some _),(22,some _),(23,some _)],[(1000,some _),(901,some _),(0,some _)]⟩ ⟨⟨c9,c9,c9,c9,trivial⟩,⟨u9,u9,u9,trivial⟩⟩ (fun i=>⟨[(24,some (vI i))],[(1,some (.box [.p (t.c 0), .p (t.c 1), .ref 905 i])),(905,some (.arr true 2 48 i (lf Row.c t.rows)))]⟩) (fun i=>i ≤ t.rows.length) (fun i=>t.rows.length - i) (0) (Nat.zero_le _) ⟨⟨zy,trivial⟩,⟨u9,u9,trivial⟩⟩ ?_
 rintro i hi
 refine sx7 ?_;refine qy ?_;refine a6 ?_;refine a7 ?_;refine a8 _ rfl (fun r0=>?_) (fun r0=>?_)
 ·
  have h0:=of_decide_eq_true r0
  try simp only [ty] at h0
  refine aa ?_;refine a7 ?_;refine af ?_;refine sx7 ?_;(iterate 2 refine qy ?_);refine m9 2 ?_;refine s9 ?_;refine a6 ?_
  refine aw (E:=b5) ae al [0,1,2,3,4,5,6,7,8,9,10,11] ?_;(iterate 6 refine qy ?_)
  refine rc rfl rfl rfl rfl rfl rfl a9s (aa7 (t.rows.getD i default).vals.length false (lf Val.c (t.rows.getD i default).vals) (by rw [hw i (by omega)];omega)) (CoL.refl _) rfl rfl ?_;refine qy ?_;refine m9 3 ?_
  refine ra 4 true rfl rfl rfl rfl rfl rfl ?_;refine qy ?_;refine s9 ?_;refine a6 ?_;refine ⟨by kernel_rfl, ?_⟩;refine gy ?_;(iterate 2 refine qy ?_);refine a6 ?_;refine ⟨i + 1, ?_, ?_, ?_⟩
  · show i + 1 ≤ _;omega
  · first | omega | (dsimp only;omega)
  · exact ⟨⟨zy,c9,c9,c9,c9,trivial⟩,⟨⟨_,rfl,⟨CoH.refl _,CoH.refl _,CoH.refl _,trivial⟩⟩,⟨_,rfl,(kz (fun h=>h) (lt2 (CoP.refl _) (CoP.refl _)))⟩,u9,u9,u9,trivial⟩⟩
 ·
  have h0:=of_decide_eq_false r0
  try simp only [ty] at h0
  obtain rfl:i = t.rows.length:=by omega
  refine am ?_;refine a7 ?_;refine jw 1 2 rfl rfl rfl rfl rfl ?_;refine gy ?_;refine qy ?_;refine s9 ?_;refine a6 ?_;refine au ?_;refine ⟨.inr rfl, ?_⟩
  exact ⟨_,_,rfl,(by (repeat' apply And.intro) <;> first | trivial | exact Nat.le_of_ble_eq_true rfl),CoR.refl _,⟨u9,u9,trivial⟩⟩
theorem abi:ai Tryz.prog 22:=⟨Tryz.f22,Tryz.func22,by kernel_rfl,by kernel_rfl⟩
theorem au7 (t:Tbl) (fds add rem:List Fd) (ht:TOk t) (hna:t.attrs.length ≤ 8) (hf:fds.length ≤ 68719476736) (o:MOp):cj Tryz.prog 22 [.one (.ptr 1000 0), .one (.p (.raw (.int .i64 ((t.attrs.length:Nat))))),o.pc.toH] (mst t fds add rem).objs (.v (.one (.p (.raw (.int .i64 (opE t o)))))) (yn (mst t fds add rem) o).objs [1000]:=by
 refine d7 (nt:=37) ae Tryz.func22 rfl rfl l9 rfl ?_
 have hk:=o.kind.toNat_lt
 have hid:=o.id.toNat_lt
 have hat:=ht.na
 refine sx7 ?_;refine m9 0 ?_;refine qy ?_;refine a6 ?_;refine a7 ?_;refine sx7 ?_;(iterate 3 refine qy ?_);refine a6 ?_;refine af ?_;refine sx7 ?_;(iterate 2 refine qy ?_);refine a6 ?_
 refine a8 _ rfl (fun r0=>?_) (fun r0=>?_)
 ·
  have h0:=of_decide_eq_true r0
  try simp only [ty] at h0
  refine sx7 ?_;(iterate 5 refine qy ?_)
  refine ay rfl rfl rfl rfl rfl rfl arj (aur t fds add rem ht hna hf (ia o)) (⟨l8.refl _,(by exact CoP.of_eq (by unfold ia;first | rfl | (congr 2;omega))),trivial⟩) ⟨u9,u9,trivial⟩ rfl rfl ?_;refine qy ?_
  refine a6 ?_;refine au ?_;refine ⟨.inr rfl, ?_⟩
  first | rw [(wh (x:=(mst t fds add rem)) (o:=o) (by omega)).1,(wh (x:=(mst t fds add rem)) (o:=o) (by omega)).2] | rw [(xf (x:=(mst t fds add rem)) (o:=o) (by omega) (by omega)).1,(xf (x:=(mst t fds add rem)) (o:=o) (by omega) (by omega)).2] | rw [(xi (x:=(mst t fds add rem)) (o:=o) (by omega) (by omega)).1,(xi (x:=(mst t fds add rem)) (o:=o) (by omega) (by omega)).2] | skip
  exact ⟨_,_,rfl,(by (repeat' apply And.intro) <;> first | trivial | exact Nat.le_of_ble_eq_true rfl),CoR.refl _,⟨u9,u9,trivial⟩⟩
 ·
  have h0:=of_decide_eq_false r0
  try simp only [ty] at h0
  refine sx7 ?_;(iterate 2 refine qy ?_);refine a6 ?_;refine a8 _ rfl (fun r1=>?_) (fun r1=>?_)
  ·
   have h1:=of_decide_eq_true r1
   try simp only [ty] at h1
   refine sx7 ?_;(iterate 2 refine qy ?_);refine rc rfl rfl rfl rfl rfl rfl agx (aed t.attrs.length o hat) (CoL.refl _) rfl rfl ?_;(iterate 3 refine qy ?_);refine m9 1 ?_;refine m9 2 ?_;(iterate 2 refine s9 ?_)
   refine a6 ?_;refine sx7 ?_;(iterate 3 refine qy ?_);refine ay rfl rfl rfl rfl rfl rfl at0 (avk t fds add rem ht hna hf (ia o) (ot t.attrs.length o) (mj o)) (br.refl _) ⟨u9,u9,trivial⟩ rfl rfl ?_
   refine qy ?_;refine a6 ?_;refine au ?_;refine ⟨.inr rfl, ?_⟩
   first | rw [(wh (x:=(mst t fds add rem)) (o:=o) (by omega)).1,(wh (x:=(mst t fds add rem)) (o:=o) (by omega)).2] | rw [(xf (x:=(mst t fds add rem)) (o:=o) (by omega) (by omega)).1,(xf (x:=(mst t fds add rem)) (o:=o) (by omega) (by omega)).2] | rw [(xi (x:=(mst t fds add rem)) (o:=o) (by omega) (by omega)).1,(xi (x:=(mst t fds add rem)) (o:=o) (by omega) (by omega)).2] | skip
   exact ⟨_,_,rfl,(by (repeat' apply And.intro) <;> first | trivial | exact Nat.le_of_ble_eq_true rfl),CoR.refl _,⟨u9,u9,trivial⟩⟩
  ·
   have h1:=of_decide_eq_false r1
   try simp only [ty] at h1
   refine aa ?_;refine sx7 ?_;(iterate 3 refine qy ?_);refine rc rfl rfl rfl rfl rfl rfl ahn (ah1 t.attrs.length o hat) (CoL.refl _) rfl rfl ?_
   refine ay rfl rfl rfl rfl rfl rfl abj (af3 t fds add rem ht hna hf (jh t.attrs.length o)) (br.refl _) ⟨u9,u9,trivial⟩ rfl rfl ?_;refine qy ?_;refine a6 ?_;refine au ?_;refine ⟨.inr rfl, ?_⟩
   first | rw [(wh (x:=(mst t fds add rem)) (o:=o) (by omega)).1,(wh (x:=(mst t fds add rem)) (o:=o) (by omega)).2] | rw [(xf (x:=(mst t fds add rem)) (o:=o) (by omega) (by omega)).1,(xf (x:=(mst t fds add rem)) (o:=o) (by omega) (by omega)).2] | rw [(xi (x:=(mst t fds add rem)) (o:=o) (by omega) (by omega)).1,(xi (x:=(mst t fds add rem)) (o:=o) (by omega) (by omega)).2] | skip
   exact ⟨_,_,rfl,(by (repeat' apply And.intro) <;> first | trivial | exact Nat.le_of_ble_eq_true rfl),CoR.refl _,⟨u9,u9,trivial⟩⟩
end Go.Hx
end

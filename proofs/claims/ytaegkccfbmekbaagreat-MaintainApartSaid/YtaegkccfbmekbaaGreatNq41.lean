/- A part of the proof: Mw13 Ms7 Mw14 Mw23. -/
import Derived.Test.YtaegkccfbmekbaaGreatNq26
import Derived.Test.YtaegkccfbmekbaaGreatNq40
set_option linter.all false
section
namespace Go.Hx
open Go.Proofs
set_option maxRecDepth 100000
theorem rg:aj Tryz.prog 20:=⟨Tryz.f20,Tryz.func20,by kernel_rfl,by kernel_rfl⟩
theorem a11 (x:Scr) (hx:12 < x.ops.length):ce Tryz.prog 20 [x.pc.toH] [] (.tup [.one (.p (.raw (.pointer none))),T0.pc.toH, .one (.p (.raw (.bool false)))]) [] []:=by
 refine ct (nt:=38) ae Tryz.func20 rfl rfl l9 rfl ?_;refine sx7 ?_;refine m9 0 ?_;refine qy ?_;refine m9 1 ?_;refine qy ?_;refine a6 ?_;refine a7 ?_;refine sx7 ?_;(iterate 4 refine qy ?_)
 refine a6 ?_;refine a8 _ rfl (fun r0=>?_) (fun r0=>?_)
 ·
  have h0:=of_decide_eq_true r0
  try simp only [ty] at h0
  refine sx7 ?_;(iterate 2 refine qy ?_);refine s9 ?_;refine qy ?_;refine a6 ?_;refine aw ?_;refine ⟨.inr rfl, ?_⟩
  exact ⟨_,_,rfl,(by (repeat' apply And.intro) <;> first | trivial | exact Nat.le_of_ble_eq_true rfl),⟨pn.refl _,⟨CoP.refl _,bd,bd,trivial⟩,pn.refl _,trivial⟩,trivial⟩
 ·
  have h0:=of_decide_eq_false r0
  try simp only [ty] at h0
  exfalso
  omega
theorem a17 (x:Scr) (hx:¬ 12 < x.ops.length):ce Tryz.prog 20 [x.pc.toH] [] (.tup [.one (.ptr 902 0),(gf sR (nmS x)).pc.toH, .one (.p (.raw (.bool true)))]) ((as1 sR (nmS x)).objsAt 902) []:=by
 refine ct (nt:=38) ae Tryz.func20 rfl rfl l9 rfl ?_
 have hn5:=x.n.toNat_lt
 have eT:a0n sR (nmS x) = gf sR (nmS x):=if_pos (ai8 x)
 refine sx7 ?_;refine m9 0 ?_;refine qy ?_;refine m9 1 ?_;refine qy ?_;refine a6 ?_;refine a7 ?_;refine sx7 ?_;(iterate 4 refine qy ?_);refine a6 ?_;refine a8 _ rfl (fun r0=>?_) (fun r0=>?_)
 ·
  have h0:=of_decide_eq_true r0
  try simp only [ty] at h0
  exfalso
  omega
 ·
  have h0:=of_decide_eq_false r0
  try simp only [ty] at h0
  refine aa ?_;refine sx7 ?_;(iterate 4 refine qy ?_);refine rc rfl rfl rfl rfl rfl rfl as2 (as7 (x.n.toNat % 5) (by omega)) (CoL.refl _) rfl rfl ?_;refine qy ?_;refine a6 ?_;refine sx7 ?_;refine qy ?_
  refine ay rfl rfl rfl rfl rfl rfl agk (aii sR (nmS x) (by have:=a6y x;omega) (ai8 x)) (bs.refl _) trivial rfl rfl ?_;(iterate 5 refine qy ?_);refine a6 ?_;refine sx7 ?_;refine qy ?_
  refine rc rfl rfl rfl rfl rfl rfl ark (au3 sR (nmS x) (by have:=a6y x;omega)) (CoL.refl _) rfl rfl ?_;(iterate 3 refine qy ?_);refine m9 2 ?_;refine s9 ?_;refine qy ?_;refine a6 ?_;refine a7 ?_
  refine ax (E:=aq) ae ak [0,1,2,3,4,5,6,7,8,9,10] ?_;(iterate 5 refine qy ?_);refine b5 rfl rfl (fun r1=>?_) (fun r1=>?_)
  ·
   have h1:=of_decide_eq_true r1
   try simp only [ty] at h1
   (iterate 2 refine qy ?_ (hg:=(gtt r1)));(iterate 2 refine qy ?_);refine s9 ?_;refine qy ?_;refine a6 ?_;refine ⟨by kernel_rfl, ?_⟩;refine aw ?_;refine ⟨.inr rfl, ?_⟩
   rw [eT]
   exact ⟨_,_,rfl,(by (repeat' apply And.intro) <;> first | trivial | exact Nat.le_of_ble_eq_true rfl),CoR.refl _,⟨u9,u9,trivial⟩⟩
  ·
   have h1:=of_decide_eq_false r1
   try simp only [ty] at h1
   exact absurd trivial h1
theorem av2:ce Tryz.prog 18 [.one (.ptr 1000 0),rA1.pc.toH] (mst tA0 (bg tA0) [] []).objs (.v (.one (.p (.raw (.int .i64 (0)))))) (oo tA1 (bg tA0)).objs [1000]:=by
 have h:=af7 tA0 (bg tA0) [] [] ar4 (by decide) amh rA1
 rw [au1,as8] at h
 exact h
theorem avo:ce Tryz.prog 18 [.one (.ptr 1000 0),rA2.pc.toH] (oo tA1 (bg tA0)).objs (.v (.one (.p (.raw (.int .i64 (0)))))) (oo tA2 (bg tA1)).objs [1000]:=by
 have h:=af7 tA1 (bg tA1) (er (bg tA1) (bg tA0)) (er (bg tA0) (bg tA1)) aqo (by decide) a96 rA2
 rw [au5,asb] at h
 exact h
theorem a4p:aj Tryz.prog 10:=⟨Tryz.f10,Tryz.func10,by kernel_rfl,by kernel_rfl⟩
theorem yj  : ap Tryz.prog 10 [] (b4 [pB true]):=by
 refine ah (nt:=73) ae Tryz.func10 rfl rfl l9 ?_;refine sx7 ?_;refine qy ?_;refine a6 ?_;refine a7 ?_;refine c7 [0] [1,2,3,4,5,6] rfl ?_;refine cj (E:=aq) ae ?_;refine m9 100 ?_
 refine a6 ?_;refine gt ?_;refine zl 6 rfl rfl rfl ?_;refine dp ?_;refine cj (E:=aq) (L1:=[1,2,3,4,5,6]) (L2:=[]) ae ?_
 refine ay rfl rfl rfl rfl rfl rfl agk (aii sR [⟨#[97]⟩,⟨#[98]⟩] (by decide) avr) (⟨pn.refl _,ws (CoP.refl _) (CoP.refl _),trivial⟩) trivial rfl rfl ?_;(iterate 5 refine qy ?_);refine a6 ?_
 refine dm ?_;(iterate 2 refine a7 ?_);refine c7 [0,1,2,3,4,5,6,7,8] [9,10,11,12,13] rfl ?_;refine cj (E:=aq) ae ?_;(iterate 3 refine qy ?_)
 refine b5 rfl rfl (fun r0=>?_) (fun r0=>?_)
 ·
  have h0:=r0
  have h0:=of_decide_eq_false (be h0)
  try simp only [ty] at h0
  exfalso
  simp_all
 ·
  have h0:=r0
  have h0:=of_decide_eq_true (bf h0)
  try simp only [ty] at h0
  (iterate 2 refine qy ?_ (hg:=(gff r0)));(iterate 2 refine qy ?_);refine b5 rfl rfl (fun r1=>?_) (fun r1=>?_)
  ·
   have h1:=r1
   have h1:=bv r0 h1
   exfalso
   simp_all
  ·
   have h1:=r1
   have h1:=bv r0 h1
   refine qy ?_ (hg:=(gff r1));refine rm 101 rfl rfl rfl rfl rfl (gff r1) ?_;refine a6 ?_;refine gt ?_;refine zl 18 rfl rfl rfl ?_;refine dp ?_
   refine cj (E:=aq) (L1:=[9,10,11,12,13]) (L2:=[]) ae ?_;refine rc rfl rfl rfl rfl rfl rfl aji (amd [1,1] (by decide)) (⟨CoC.one (ws (CoP.refl _) (CoP.refl _)),trivial⟩) rfl (gff r1) ?_
   refine qy ?_ (hg:=(gff r1));refine ay rfl rfl rfl rfl rfl rfl aa4 ((av2).swap 1000 902) (bs.refl _) ⟨u9,u9,trivial⟩ rfl (gff r1) ?_;refine qy ?_ (hg:=(gff r1));refine qy ?_;refine a6 ?_
   refine dm ?_;refine a8 _ rfl (fun r2=>?_) (fun r2=>?_)
   ·
    have h2:=r2
    have h2:=bv r1 h2
    have h2:=of_decide_eq_false (be h2)
    try simp only [ty] at h2
    exfalso
    simp_all
   ·
    have h2:=r2
    have h2:=bv r1 h2
    have h2:=of_decide_eq_true (bf h2)
    try simp only [ty] at h2
    refine aa ?_;(iterate 2 refine a7 ?_);refine c7 [0,1,2,3,4,5,6,7,8,9,10,11,12,13,14,15,16] [17,18,19,20,21] rfl ?_;refine cj (E:=aq) ae ?_;refine qy ?_
    refine ay rfl rfl rfl rfl rfl rfl a3w ((af8 tA1 (bg tA1) (er (bg tA1) (bg tA0)) (er (bg tA0) (bg tA1)) a96 au0 aup).swap 1000 902) (bs.refl _) ⟨u9,u9,trivial⟩ rfl rfl ?_
    (iterate 2 refine qy ?_);refine m9 102 ?_
    refine rc rfl rfl rfl rfl rfl rfl a3x (a4e (bg tA1) [⟨0,1⟩,⟨0,2⟩]) (⟨CoC.refl _,CoC.one (at8 (CoP.refl _) (CoP.refl _) (CoP.refl _) (CoP.refl _)),trivial⟩) rfl rfl ?_;(iterate 2 refine qy ?_)
    refine b5 rfl rfl (fun r3=>?_) (fun r3=>?_)
    ·
     have h3:=r3
     have h3:=be h3
     exfalso
     simp [akx] at r3
    ·
     have h3:=r3
     have h3:=bf h3
     refine qy ?_ (hg:=(gff r3))
     refine ay rfl rfl rfl rfl rfl rfl a5j ((abr tA1 (bg tA1) (er (bg tA1) (bg tA0)) (er (bg tA0) (bg tA1)) (by decide)).swap 1000 902) (bs.refl _) ⟨u9,u9,trivial⟩ rfl (gff r3) ?_
     refine rm 103 rfl rfl rfl rfl rfl (gff r3) ?_;refine rc rfl rfl rfl rfl rfl rfl a9c (ak1 (o8 (prs tA1.rows) tA1.attrs.length) [0]) (⟨CoC.refl _,CoC.one (ama (CoP.refl _)),trivial⟩) rfl (gff r3) ?_
     refine qy ?_ (hg:=(gff r3));(iterate 2 refine qy ?_);refine b5 rfl rfl (fun r4=>?_) (fun r4=>?_)
     ·
      have h4:=r4
      have h4:=bv r3 h4
      have h4:=be h4
      exfalso
      simp [akx,asr] at r4
     ·
      have h4:=r4
      have h4:=bv r3 h4
      have h4:=bf h4
      refine qy ?_ (hg:=(gff r4));refine rm 104 rfl rfl rfl rfl rfl (gff r4) ?_;refine a6 ?_;refine gt ?_;refine zl 40 rfl rfl rfl ?_;refine dp ?_
      refine cj (E:=aq) (L1:=[17,18,19,20,21]) (L2:=[]) ae ?_;refine rc rfl rfl rfl rfl rfl rfl aji (amd [1,2] (by decide)) (⟨CoC.one (ws (CoP.refl _) (CoP.refl _)),trivial⟩) rfl (gff r4) ?_
      refine qy ?_ (hg:=(gff r4));refine ay rfl rfl rfl rfl rfl rfl aa4 ((avo).swap 1000 902) (bs.refl _) ⟨u9,u9,trivial⟩ rfl (gff r4) ?_;refine qy ?_ (hg:=(gff r4));refine qy ?_;refine a6 ?_
      refine dm ?_;refine a8 _ rfl (fun r5=>?_) (fun r5=>?_)
      ·
       have h5:=r5
       have h5:=bv r4 h5
       have h5:=of_decide_eq_false (be h5)
       try simp only [ty] at h5
       exfalso
       simp [akx,asr] at r5
      ·
       have h5:=r5
       have h5:=bv r4 h5
       have h5:=of_decide_eq_true (bf h5)
       try simp only [ty] at h5
       refine aa ?_;refine sx7 ?_;refine qy ?_
       refine ay rfl rfl rfl rfl rfl rfl age ((atz tA2 (bg tA2) (er (bg tA2) (bg tA1)) (er (bg tA1) (bg tA2)) aex amc amp).swap 1000 902) (bs.refl _) ⟨u9,u9,trivial⟩ rfl rfl ?_
       (iterate 5 refine qy ?_);refine a6 ?_;refine sx7 ?_;refine qy ?_
       refine ay rfl rfl rfl rfl rfl rfl a3w ((af8 tA2 (bg tA2) (er (bg tA2) (bg tA1)) (er (bg tA1) (bg tA2)) aex amc amp).swap 1000 902) (bs.refl _) ⟨u9,u9,trivial⟩ rfl rfl ?_
       refine qy ?_;refine m9 105 ?_;refine rc rfl rfl rfl rfl rfl rfl a3x (a4e (bg tA2) [⟨0,1⟩]) (⟨CoC.refl _,CoC.one (aj7 (CoP.refl _) (CoP.refl _)),trivial⟩) rfl rfl ?_;refine qy ?_
       refine b5 rfl rfl (fun r6=>?_) (fun r6=>?_)
       ·
        have h6:=r6
        refine qy ?_ (hg:=(gtt r6))
        refine ay rfl rfl rfl rfl rfl rfl a5j ((abr tA2 (bg tA2) (er (bg tA2) (bg tA1)) (er (bg tA1) (bg tA2)) (by decide)).swap 1000 902) (bs.refl _) ⟨u9,u9,trivial⟩ rfl (gtt r6) ?_
        refine rm 106 rfl rfl rfl rfl rfl (gtt r6) ?_;refine rc rfl rfl rfl rfl rfl rfl a9c (ak1 (o8 (prs tA2.rows) tA2.attrs.length) [2]) (⟨CoC.refl _,CoC.one (ama (CoP.refl _)),trivial⟩) rfl (gtt r6) ?_
        (iterate 2 refine qy ?_);refine b5 rfl rfl (fun r7=>?_) (fun r7=>?_)
        ·
         have h7:=r7
         have h7:=d4 r6 h7
         (iterate 3 refine qy ?_ (hg:=(gtt r7)));(iterate 2 refine qy ?_);refine b5 rfl rfl (fun r8=>?_) (fun r8=>?_)
         ·
          have h8:=r8
          have h8:=d4 r7 h8
          have h8:=of_decide_eq_true h8
          try simp only [ty] at h8
          (iterate 2 refine qy ?_ (hg:=(gtt r8)));refine rm 107 rfl rfl rfl rfl rfl (gtt r8) ?_
          refine rc rfl rfl rfl rfl rfl rfl a3x (a4e (er (bg tA1) (bg tA2)) [⟨0,2⟩]) (⟨CoC.refl _,CoC.one (aj7 (CoP.refl _) (CoP.refl _)),trivial⟩) rfl (gtt r8) ?_;(iterate 2 refine qy ?_)
          refine a6 ?_
          exact hx8 rfl rfl rfl (⟨ccb (by rw [aqc,avl];simp [aly,atn]),trivial⟩)
         ·
          have h8:=r8
          have h8:=d4 r7 h8
          have h8:=of_decide_eq_false h8
          try simp only [ty] at h8
          exact absurd (by rw [aqc];rfl) h8
        ·
         have h7:=r7
         have h7:=d4 r6 h7
         exfalso
         simp [aly,atn] at r7
       ·
        have h6:=r6
        exfalso
        simp [aly] at r6
end Go.Hx
end
section
namespace Go.Hx
theorem ahs {t:Tbl} {o:MOp} (h:¬ opE t o = 0):opT t o = t:=by
 by_cases k2:o.kind.toNat % 4 = 2
 · have hh:=op2 (t:=t) (o:=o) k2
   rw [hh.1] at h
   rw [hh.2,if_neg h]
 · by_cases k3:o.kind.toNat % 4 = 3
   · have hh:=op3 (t:=t) (o:=o) k2 k3
     rw [hh.1] at h
     rw [hh.2,if_neg h]
   · have hh:=op0 (t:=t) (o:=o) k2 k3
     rw [hh.1] at h
     rw [hh.2]
     unfold f3 at h
     unfold kp
     split
     · rfl
     · rename_i h1
       rw [if_neg h1] at h
       split
       · rfl
       · rename_i h2
         rw [if_neg h2] at h
         exact absurd rfl h
def nxA (t:Tbl) (o:MOp) (a:List Fd):List Fd:=if opE t o = 0 then er (bg (opT t o)) (bg t) else a
def nxR (t:Tbl) (o:MOp) (a:List Fd):List Fd:=if opE t o = 0 then er (bg t) (bg (opT t o)) else a
theorem ap9 (t:Tbl) (add rem:List Fd) (o:MOp):y5 (mst t (bg t) add rem) o = mst (opT t o) (bg (opT t o)) (nxA t o add) (nxR t o rem):=by
 unfold y5 nxA nxR
 by_cases h:opE t o = 0
 · rw [if_pos h,if_pos h,if_pos h]
 · rw [if_neg h,if_neg h,if_neg h,ahs h]
theorem aia {t:Tbl} {o:MOp} {a b:List Fd} (h:opE t o = 0):nxA t o a = er (bg (opT t o)) (bg t) ∧ nxR t o b = er (bg t) (bg (opT t o)):=⟨if_pos h,if_pos h⟩
theorem aix {t:Tbl} {o:MOp} {a b:List Fd} (h:¬ opE t o = 0):nxA t o a = a ∧ nxR t o b = b:=⟨if_neg h,if_neg h⟩
structure ROk (t:Tbl) (a r:List Fd):Prop where
 ok:TOk t
 na:t.attrs.length ≤ 8
 nr:t.rows.length ≤ 200
 la:a.length ≤ 68719476736
 lr:r.length ≤ 68719476736
theorem ROk.op {t:Tbl} {a r:List Fd} (h:ROk t a r) (o:MOp):ROk (opT t o) (nxA t o a) (nxR t o r):=by
 by_cases he:opE t o = 0
 · obtain ⟨h1,h2,_,h3⟩:=aur he h.nr
   have hn:(opT t o).attrs.length ≤ 8:=by rw [h2];exact h.na
   refine ⟨h1,hn,h3, ?_, ?_⟩
   · rw [(aia (b:=r) he).1];exact Nat.le_trans (ns _ _) (jd hn)
   · rw [(aia (a:=a) he).2];exact Nat.le_trans (ns _ _) (jd h.na)
 · rw [ahs he,(aix (b:=r) he).1,(aix (a:=a) he).2]
   exact h
theorem apd:∀ k,k < 5 → c6 (gf sR (ni.take k)) = 0:=by decide
theorem ROk.new (x:Scr):ROk (gf sR (nmS x)) [] []:=by
 have h:=a6y x
 refine ⟨ek.1 (apd _ (by omega)), ?_, ?_, ?_, ?_⟩
 · show (nmS x).length ≤ 8;omega
 · show (0:Nat) ≤ 200;omega
 · show (0:Nat) ≤ _;omega
 · show (0:Nat) ≤ _;omega
end Go.Hx
end
section
namespace Go.Hx
open Go.Proofs
set_option maxRecDepth 100000
theorem amt (t:Tbl) (a r:List Fd) (h:ROk t a r) (o:MOp):ce Tryz.prog 22 [.one (.ptr 1000 0), .one (.p (.raw (.int .i64 ((t.attrs.length:Nat))))),o.pc.toH] (mst t (bg t) a r).objs (.v (.one (.p (.raw (.int .i64 (opE t o)))))) (mst (opT t o) (bg (opT t o)) (nxA t o a) (nxR t o r)).objs [1000]:=by
 have h:=atu t (bg t) a r h.ok h.na (jd h.na) o
 rw [ap9] at h
 exact h
end Go.Hx
end
section
namespace Go.Hx
open Go.Proofs
set_option maxRecDepth 100000
set_option maxHeartbeats 1000000
def zt (u:Tbl × List Fd × List Fd):Prop:=ROk u.1 u.2.1 u.2.2
def rwG (hd:Nat → Value):Nat → Nat → PV:=fun q j=>if j = 1 then .raw (hd q) else .any
theorem ank (x:PV):CoP x .any:=fun _ _ h=>b9.oneCell h
theorem att {hd:Nat → Value} (q j:Nat):CoH (rwF hd q j) (.p (rwG hd q j)):=by
 unfold rwF rwG
 split <;> exact CoP.refl _
theorem aol {hd:Nat → Value} {k:Nat} {x:PV} (q j:Nat):CoP (fz (rwG hd) k 0 [x] q j) (rwG hd q j):=by
 unfold fz
 split
 · rename_i h
   obtain ⟨_,_,h3⟩:=h
   have:j = 0:=by simp at h3;omega
   subst this
   exact ank _
 · exact CoP.refl _
theorem a82 {F:Nat → Nat → HV} {k:Nat} {x:HV}:fq F k 1 [x] k 1 = x:=if_pos ⟨rfl,Nat.le_refl _,Nat.lt_succ_self 1⟩
theorem aev {F:Nat → Nat → HV} {k i j:Nat} {x:HV} (h:¬ (i = k ∧ j = 1)):fq F k 1 [x] i j = F i j:=if_neg fun ⟨h1,h2,h3⟩=>h ⟨h1,by simp at h3;omega⟩
theorem aog {hd:Nat → Value} {i:Nat} {x:Value} (q j:Nat):CoP (if q = i ∧ j = 1 then .raw x else rwG hd q j) (rwG (fun q=>if q = i then x else hd q) q j):=by
 unfold rwG
 by_cases e:j = 1
 · subst e
   by_cases e2:q = i
   · rw [if_pos ⟨e2,rfl⟩,if_pos rfl];dsimp only;rw [if_pos e2];exact CoP.refl _
   · rw [if_neg (fun h=>e2 h.1),if_pos rfl,if_pos rfl];dsimp only;rw [if_neg e2];exact CoP.refl _
 · rw [if_neg (fun h=>e h.2),if_neg e,if_neg e];exact CoP.refl _
theorem akk (x y:Scr) (hx:12 < x.ops.length) (hy:12 < y.ops.length):ap Tryz.prog 9 [x.pc,y.pc] (b4 [pB true]):=by
 refine ah (nt:=156) ae Tryz.func9 rfl rfl l9 ?_;refine sx7 ?_;refine m9 0 ?_;refine m9 1 ?_;refine qy ?_;refine a6 ?_;refine a7 ?_;refine sx7 ?_
 refine rc rfl rfl rfl rfl rfl rfl a4p (yj) (CoL.refl _) rfl rfl ?_;refine qy ?_;refine a6 ?_;refine a8 _ rfl (fun r0=>?_) (fun r0=>?_)
 ·
  have h0:=r0
  have h0:=be h0
  exfalso
  first | (simp_all;done) | omega | (simp_all;omega)
 ·
  have h0:=r0
  have h0:=bf h0
  refine aa ?_;refine sx7 ?_;refine qy ?_;refine ay rfl rfl rfl rfl rfl rfl rg (a11 x hx) (bs.refl _) trivial rfl rfl ?_;(iterate 4 refine qy ?_);refine m9 2 ?_;refine qy ?_;refine s9 ?_;refine qy ?_
  refine a6 ?_;refine sx7 ?_;refine qy ?_;refine ay rfl rfl rfl rfl rfl rfl rg (a11 y hy) (bs.refl _) trivial rfl rfl ?_;(iterate 4 refine qy ?_);refine m9 3 ?_;refine qy ?_;refine s9 ?_;refine qy ?_
  refine a6 ?_;refine a7 ?_;refine sx7 ?_;(iterate 3 refine qy ?_);refine b5 rfl rfl (fun r1=>?_) (fun r1=>?_)
  ·
   have h1:=r1
   have h1:=be h1
   (iterate 2 refine k9 (gtf r1) ?_);refine rq rfl rfl rfl rfl rfl ?_ (hp:=r1);refine a6 ?_;refine a8 _ rfl (fun _=>?_) (fun e=>by cases e);refine sx7 ?_;(iterate 5 refine qy ?_)
   refine b5 rfl rfl (fun r2=>?_) (fun r2=>?_)
   ·
    have h2:=of_decide_eq_true r2
    try simp only [ty] at h2
    (iterate 4 refine k9 (gtf r2) ?_);refine rq rfl rfl rfl rfl rfl ?_ (hp:=r2);refine qy ?_;refine a6 ?_
    exact hx8 rfl rfl rfl (⟨ccb (by cases hA:decide (12 < (x.ops.length:Int)) <;> first | rfl | exact decide_eq_true (by have:=of_decide_eq_false hA;omega) | (rw [hA];first | rfl | exact decide_eq_true (by have:=of_decide_eq_false hA;omega))),trivial⟩)
   ·
    have h2:=of_decide_eq_false r2
    try simp only [ty] at h2
    (iterate 4 refine qy ?_ (hg:=(gff r2)));(iterate 2 refine qy ?_);refine a6 ?_
    exact hx8 rfl rfl rfl (⟨ccb (by cases hA:decide (12 < (x.ops.length:Int)) <;> first | rfl | exact decide_eq_true (by have:=of_decide_eq_false hA;omega) | (rw [hA];first | rfl | exact decide_eq_true (by have:=of_decide_eq_false hA;omega))),trivial⟩)
  ·
   have h1:=r1
   have h1:=bf h1
   (iterate 2 refine qy ?_ (hg:=(gff r1)));refine qy ?_;refine a6 ?_;refine a8 _ rfl (fun r3=>?_) (fun r3=>?_)
   ·
    have h3:=r3
    have h3:=bv r1 h3
    have h3:=be h3
    refine sx7 ?_;(iterate 5 refine qy ?_);refine b5 rfl rfl (fun r4=>?_) (fun r4=>?_)
    ·
     have h4:=of_decide_eq_true r4
     try simp only [ty] at h4
     (iterate 4 refine k9 (gtf r4) ?_);refine rq rfl rfl rfl rfl rfl ?_ (hp:=r4);refine qy ?_;refine a6 ?_
     exact hx8 rfl rfl rfl (⟨ccb (by cases hA:decide (12 < (x.ops.length:Int)) <;> first | rfl | exact decide_eq_true (by have:=of_decide_eq_false hA;omega) | (rw [hA];first | rfl | exact decide_eq_true (by have:=of_decide_eq_false hA;omega))),trivial⟩)
    ·
     have h4:=of_decide_eq_false r4
     try simp only [ty] at h4
     (iterate 4 refine qy ?_ (hg:=(gff r4)));(iterate 2 refine qy ?_);refine a6 ?_
     exact hx8 rfl rfl rfl (⟨ccb (by cases hA:decide (12 < (x.ops.length:Int)) <;> first | rfl | exact decide_eq_true (by have:=of_decide_eq_false hA;omega) | (rw [hA];first | rfl | exact decide_eq_true (by have:=of_decide_eq_false hA;omega))),trivial⟩)
   ·
    have h3:=r3
    have h3:=bv r1 h3
    have h3:=bf h3
    exfalso
    first | (simp_all;done) | omega | (simp_all;omega)
theorem alr (x y:Scr) (hx:12 < x.ops.length) (hy:¬ 12 < y.ops.length):ap Tryz.prog 9 [x.pc,y.pc] (b4 [pB true]):=by
 refine ah (nt:=156) ae Tryz.func9 rfl rfl l9 ?_;refine sx7 ?_;refine m9 0 ?_;refine m9 1 ?_;refine qy ?_;refine a6 ?_;refine a7 ?_;refine sx7 ?_
 refine rc rfl rfl rfl rfl rfl rfl a4p (yj) (CoL.refl _) rfl rfl ?_;refine qy ?_;refine a6 ?_;refine a8 _ rfl (fun r0=>?_) (fun r0=>?_)
 ·
  have h0:=r0
  have h0:=be h0
  exfalso
  first | (simp_all;done) | omega | (simp_all;omega)
 ·
  have h0:=r0
  have h0:=bf h0
  refine aa ?_;refine sx7 ?_;refine qy ?_;refine ay rfl rfl rfl rfl rfl rfl rg (a11 x hx) (bs.refl _) trivial rfl rfl ?_;(iterate 4 refine qy ?_);refine m9 2 ?_;refine qy ?_;refine s9 ?_;refine qy ?_
  refine a6 ?_;refine sx7 ?_;refine qy ?_;refine ay rfl rfl rfl rfl rfl rfl rg (((a17 y hy).swap 902 912).swap 901 911) (bs.refl _) trivial rfl rfl ?_;(iterate 4 refine qy ?_);refine m9 3 ?_;refine qy ?_
  refine s9 ?_;refine qy ?_;refine a6 ?_;refine a7 ?_;refine sx7 ?_;(iterate 3 refine qy ?_);refine b5 rfl rfl (fun r1=>?_) (fun r1=>?_)
  ·
   have h1:=r1
   have h1:=be h1
   (iterate 2 refine k9 (gtf r1) ?_);refine rq rfl rfl rfl rfl rfl ?_ (hp:=r1);refine a6 ?_;refine a8 _ rfl (fun _=>?_) (fun e=>by cases e);refine sx7 ?_;(iterate 5 refine qy ?_)
   refine b5 rfl rfl (fun r2=>?_) (fun r2=>?_)
   ·
    have h2:=of_decide_eq_true r2
    try simp only [ty] at h2
    (iterate 4 refine k9 (gtf r2) ?_);refine rq rfl rfl rfl rfl rfl ?_ (hp:=r2);refine qy ?_;refine a6 ?_
    exact hx8 rfl rfl rfl (⟨ccb (by cases hA:decide (12 < (x.ops.length:Int)) <;> first | rfl | exact decide_eq_true (by have:=of_decide_eq_false hA;omega) | (rw [hA];first | rfl | exact decide_eq_true (by have:=of_decide_eq_false hA;omega))),trivial⟩)
   ·
    have h2:=of_decide_eq_false r2
    try simp only [ty] at h2
    (iterate 4 refine qy ?_ (hg:=(gff r2)));(iterate 2 refine qy ?_);refine a6 ?_
    exact hx8 rfl rfl rfl (⟨ccb (by cases hA:decide (12 < (x.ops.length:Int)) <;> first | rfl | exact decide_eq_true (by have:=of_decide_eq_false hA;omega) | (rw [hA];first | rfl | exact decide_eq_true (by have:=of_decide_eq_false hA;omega))),trivial⟩)
  ·
   have h1:=r1
   have h1:=bf h1
   (iterate 2 refine qy ?_ (hg:=(gff r1)));refine qy ?_;refine a6 ?_;refine a8 _ rfl (fun r3=>?_) (fun r3=>?_)
   ·
    have h3:=r3
    have h3:=bv r1 h3
    have h3:=be h3
    refine sx7 ?_;(iterate 5 refine qy ?_);refine b5 rfl rfl (fun r4=>?_) (fun r4=>?_)
    ·
     have h4:=of_decide_eq_true r4
     try simp only [ty] at h4
     (iterate 4 refine k9 (gtf r4) ?_);refine rq rfl rfl rfl rfl rfl ?_ (hp:=r4);refine qy ?_;refine a6 ?_
     exact hx8 rfl rfl rfl (⟨ccb (by cases hA:decide (12 < (x.ops.length:Int)) <;> first | rfl | exact decide_eq_true (by have:=of_decide_eq_false hA;omega) | (rw [hA];first | rfl | exact decide_eq_true (by have:=of_decide_eq_false hA;omega))),trivial⟩)
    ·
     have h4:=of_decide_eq_false r4
     try simp only [ty] at h4
     (iterate 4 refine qy ?_ (hg:=(gff r4)));(iterate 2 refine qy ?_);refine a6 ?_
     exact hx8 rfl rfl rfl (⟨ccb (by cases hA:decide (12 < (x.ops.length:Int)) <;> first | rfl | exact decide_eq_true (by have:=of_decide_eq_false hA;omega) | (rw [hA];first | rfl | exact decide_eq_true (by have:=of_decide_eq_false hA;omega))),trivial⟩)
   ·
    have h3:=r3
    have h3:=bv r1 h3
    have h3:=bf h3
    exfalso
    first | (simp_all;done) | omega | (simp_all;omega)
theorem am3 (x y:Scr) (hx:¬ 12 < x.ops.length) (hy:12 < y.ops.length):ap Tryz.prog 9 [x.pc,y.pc] (b4 [pB true]):=by
 refine ah (nt:=156) ae Tryz.func9 rfl rfl l9 ?_;refine sx7 ?_;refine m9 0 ?_;refine m9 1 ?_;refine qy ?_;refine a6 ?_;refine a7 ?_;refine sx7 ?_
 refine rc rfl rfl rfl rfl rfl rfl a4p (yj) (CoL.refl _) rfl rfl ?_;refine qy ?_;refine a6 ?_;refine a8 _ rfl (fun r0=>?_) (fun r0=>?_)
 ·
  have h0:=r0
  have h0:=be h0
  exfalso
  first | (simp_all;done) | omega | (simp_all;omega)
 ·
  have h0:=r0
  have h0:=bf h0
  refine aa ?_;refine sx7 ?_;refine qy ?_;refine ay rfl rfl rfl rfl rfl rfl rg (a17 x hx) (bs.refl _) trivial rfl rfl ?_;(iterate 4 refine qy ?_);refine m9 2 ?_;refine qy ?_;refine s9 ?_;refine qy ?_
  refine a6 ?_;refine sx7 ?_;refine qy ?_;refine ay rfl rfl rfl rfl rfl rfl rg (a11 y hy) (bs.refl _) trivial rfl rfl ?_;(iterate 4 refine qy ?_);refine m9 3 ?_;refine qy ?_;refine s9 ?_;refine qy ?_
  refine a6 ?_;refine a7 ?_;refine sx7 ?_;(iterate 3 refine qy ?_);refine b5 rfl rfl (fun r1=>?_) (fun r1=>?_)
  ·
   have h1:=r1
   have h1:=be h1
   (iterate 2 refine k9 (gtf r1) ?_);refine rq rfl rfl rfl rfl rfl ?_ (hp:=r1);refine a6 ?_;refine a8 _ rfl (fun _=>?_) (fun e=>by cases e);refine sx7 ?_;(iterate 5 refine qy ?_)
   refine b5 rfl rfl (fun r2=>?_) (fun r2=>?_)
   ·
    have h2:=of_decide_eq_true r2
    try simp only [ty] at h2
    (iterate 4 refine k9 (gtf r2) ?_);refine rq rfl rfl rfl rfl rfl ?_ (hp:=r2);refine qy ?_;refine a6 ?_
    exact hx8 rfl rfl rfl (⟨ccb (by cases hA:decide (12 < (x.ops.length:Int)) <;> first | rfl | exact decide_eq_true (by have:=of_decide_eq_false hA;omega) | (rw [hA];first | rfl | exact decide_eq_true (by have:=of_decide_eq_false hA;omega))),trivial⟩)
   ·
    have h2:=of_decide_eq_false r2
    try simp only [ty] at h2
    (iterate 4 refine qy ?_ (hg:=(gff r2)));(iterate 2 refine qy ?_);refine a6 ?_
    exact hx8 rfl rfl rfl (⟨ccb (by cases hA:decide (12 < (x.ops.length:Int)) <;> first | rfl | exact decide_eq_true (by have:=of_decide_eq_false hA;omega) | (rw [hA];first | rfl | exact decide_eq_true (by have:=of_decide_eq_false hA;omega))),trivial⟩)
  ·
   have h1:=r1
   have h1:=bf h1
   (iterate 2 refine qy ?_ (hg:=(gff r1)));refine qy ?_;refine a6 ?_;refine a8 _ rfl (fun r3=>?_) (fun r3=>?_)
   ·
    have h3:=r3
    have h3:=bv r1 h3
    have h3:=be h3
    refine sx7 ?_;(iterate 5 refine qy ?_);refine b5 rfl rfl (fun r4=>?_) (fun r4=>?_)
    ·
     have h4:=of_decide_eq_true r4
     try simp only [ty] at h4
     (iterate 4 refine k9 (gtf r4) ?_);refine rq rfl rfl rfl rfl rfl ?_ (hp:=r4);refine qy ?_;refine a6 ?_
     exact hx8 rfl rfl rfl (⟨ccb (by cases hA:decide (12 < (x.ops.length:Int)) <;> first | rfl | exact decide_eq_true (by have:=of_decide_eq_false hA;omega) | (rw [hA];first | rfl | exact decide_eq_true (by have:=of_decide_eq_false hA;omega))),trivial⟩)
    ·
     have h4:=of_decide_eq_false r4
     try simp only [ty] at h4
     (iterate 4 refine qy ?_ (hg:=(gff r4)));(iterate 2 refine qy ?_);refine a6 ?_
     exact hx8 rfl rfl rfl (⟨ccb (by cases hA:decide (12 < (x.ops.length:Int)) <;> first | rfl | exact decide_eq_true (by have:=of_decide_eq_false hA;omega) | (rw [hA];first | rfl | exact decide_eq_true (by have:=of_decide_eq_false hA;omega))),trivial⟩)
   ·
    have h3:=r3
    have h3:=bv r1 h3
    have h3:=bf h3
    exfalso
    first | (simp_all;done) | omega | (simp_all;omega)
theorem al4 (x y:Scr) (hx:¬ 12 < x.ops.length) (hy:¬ 12 < y.ops.length):ap Tryz.prog 9 [x.pc,y.pc] (b4 [pB true]):=by
 refine ah (nt:=156) ae Tryz.func9 rfl rfl l9 ?_
 have hk0:=ROk.new x
 have hk20:=ROk.new y
 refine sx7 ?_;refine m9 0 ?_;refine m9 1 ?_;refine qy ?_;refine a6 ?_;refine a7 ?_;refine sx7 ?_;refine rc rfl rfl rfl rfl rfl rfl a4p (yj) (CoL.refl _) rfl rfl ?_;refine qy ?_;refine a6 ?_
 refine a8 _ rfl (fun r0=>?_) (fun r0=>?_)
 ·
  have h0:=r0
  have h0:=be h0
  exfalso
  first | (simp_all;done) | omega | (simp_all;omega)
 ·
  have h0:=r0
  have h0:=bf h0
  refine aa ?_;refine sx7 ?_;refine qy ?_;refine ay rfl rfl rfl rfl rfl rfl rg (a17 x hx) (bs.refl _) trivial rfl rfl ?_;(iterate 4 refine qy ?_);refine m9 2 ?_;refine qy ?_;refine s9 ?_;refine qy ?_
  refine a6 ?_;refine sx7 ?_;refine qy ?_;refine ay rfl rfl rfl rfl rfl rfl rg (((a17 y hy).swap 902 912).swap 901 911) (bs.refl _) trivial rfl rfl ?_;(iterate 4 refine qy ?_);refine m9 3 ?_;refine qy ?_
  refine s9 ?_;refine qy ?_;refine a6 ?_;refine a7 ?_;refine sx7 ?_;(iterate 3 refine qy ?_);refine b5 rfl rfl (fun r1=>?_) (fun r1=>?_)
  ·
   have h1:=r1
   have h1:=be h1
   exfalso
   first | (simp_all;done) | omega | (simp_all;omega)
  ·
   have h1:=r1
   have h1:=bf h1
   (iterate 2 refine qy ?_ (hg:=(gff r1)));refine qy ?_;refine a6 ?_;refine a8 _ rfl (fun r2=>?_) (fun r2=>?_)
   ·
    have h2:=r2
    have h2:=bv r1 h2
    have h2:=be h2
    exfalso
    first | (simp_all;done) | omega | (simp_all;omega)
   ·
    have h2:=r2
    have h2:=bv r1 h2
    have h2:=bf h2
    refine aa ?_;refine a7 ?_;refine sx7 ?_;(iterate 8 refine qy ?_);refine a6 ?_;refine af ?_
    refine av (ι:=(Nat × (Tbl × List Fd × List Fd) × (Tbl × List Fd × List Fd))) ⟨[(2,some _),(3,some _),(5,some _),(6,some _),(8,some _),(9,some _),(55,some _)],[(0,some _),(1,some _)]⟩ ⟨⟨c9,c9,c9,c9,c9,c9,c9,trivial⟩,⟨u9,u9,trivial⟩⟩ (fun q=>⟨[(56,some (vI q.1))],[(2,some (.box [.p (q.2.1.1.c 0), .p (q.2.1.1.c 1), .p (q.2.1.1.c 2)])),(3,some (.box [.p (q.2.2.1.c 0), .p (q.2.2.1.c 1), .p (q.2.2.1.c 2)])),(902,some (akg q.2.1.1 (bg q.2.1.1) q.2.1.2.1 q.2.1.2.2)),(901,some (a6b (cw q.2.1.1.rows))),(912,some (.box [.p (q.2.2.1.c 0), .p (q.2.2.1.c 1), .p (q.2.2.1.c 2), .ref 911 0, .p (fdl (bg q.2.2.1)), .p (fdl q.2.2.2.1), .p (fdl q.2.2.2.2)])),(911,some (a6b (cw q.2.2.1.rows)))]⟩) (fun q=>q.1 ≤ (max x.ops.length y.ops.length) ∧ zt q.2.1 ∧ zt q.2.2) (fun q=>(max x.ops.length y.ops.length) - q.1) ((0,(gf sR (nmS x),[],[]),(gf sR (nmS y),[],[]))) (⟨Nat.zero_le _,hk0,hk20⟩) ⟨⟨zy,trivial⟩,⟨u9,u9,u9,u9,u9,u9,trivial⟩⟩ ?_
    rintro ⟨i,⟨t,a,r⟩,⟨t2,a2,r2⟩⟩ ⟨hi,hk,hk2⟩
    dsimp only at hi hk hk2 ⊢
    have hk:ROk t a r:=hk
    have hk2:ROk t2 a2 r2:=hk2
    refine sx7 ?_;refine qy ?_;refine a6 ?_;refine a7 ?_;refine a8 _ rfl (fun r3=>?_) (fun r3=>?_)
    ·
     have h3:=of_decide_eq_true r3
     try simp only [ty] at h3
     refine aa ?_;refine a7 ?_;refine af ?_;refine sx7 ?_;(iterate 2 refine qy ?_);refine a6 ?_
     refine db (ι:=(Tbl × List Fd × List Fd)) ⟨[(2,some _),(3,some _),(5,some _),(6,some _),(8,some _),(9,some _),(11,some _),(55,some _),(56,some _)],[(3,some _),(912,some _),(911,some _),(0,some _),(1,some _)]⟩ ⟨⟨c9,c9,c9,c9,c9,c9,c9,c9,c9,trivial⟩,⟨u9,u9,u9,u9,u9,trivial⟩⟩ (fun u=>⟨[],[(2,some (.box [.p (u.1.c 0), .p (u.1.c 1), .p (u.1.c 2)])),(902,some (akg u.1 (bg u.1) u.2.1 u.2.2)),(901,some (a6b (cw u.1.rows)))]⟩) (fun u=>zt u) ?_ ?_
     ·
      refine sx7 ?_;(iterate 5 refine qy ?_);refine a6 ?_;refine a8 _ rfl (fun r4=>?_) (fun r4=>?_)
      ·
       have h4:=of_decide_eq_true r4
       try simp only [ty] at h4
       refine a7 ?_;refine ax (E:=aq) ae ak [0,1,2,3,4,5,6,7,8,9] ?_;(iterate 9 refine qy ?_)
       refine ay rfl rfl rfl rfl rfl rfl ah3 ((amt t a r hk (x.ops.getD i default)).swap 1000 902) (bs.refl _) ⟨u9,u9,trivial⟩ rfl rfl ?_;refine a6 ?_;refine ⟨by kernel_rfl, ?_⟩
       refine ax (E:=aq) ae ak [0,1,2,3,4,5,6,7,8,9,10] ?_;(iterate 6 refine qy ?_)
       refine rc rfl rfl rfl rfl rfl rfl ail (aav t (x.ops.getD i default) (by have:=hk.na;omega)) (CoL.refl _) rfl rfl ?_;(iterate 3 refine qy ?_);refine s9 ?_;refine a6 ?_;refine ⟨by kernel_rfl, ?_⟩
       have hJ:zt (opT t (x.ops.getD i default),nxA t (x.ops.getD i default) a,nxR t (x.ops.getD i default) r):=hk.op (x.ops.getD i default)
       exact ⟨_,hJ,⟨⟨c9,c9,c9,c9,c9,c9,c9,c9,c9,trivial⟩,⟨u9,u9,u9,u9,u9,u9,u9,u9,trivial⟩⟩⟩
      ·
       have h4:=of_decide_eq_false r4
       try simp only [ty] at h4
       have hJ:zt (t,a,r):=hk
       refine aa ?_
       exact ⟨_,hJ,⟨⟨c9,c9,c9,c9,c9,c9,c9,c9,c9,trivial⟩,⟨u9,u9,u9,u9,u9,u9,u9,u9,trivial⟩⟩⟩
     · rintro ⟨t,a,r⟩ hj
       have hk:ROk t a r:=hj
       clear hj
       dsimp only
       refine db (ι:=(Tbl × List Fd × List Fd)) ⟨[(2,some _),(3,some _),(5,some _),(6,some _),(8,some _),(9,some _),(55,some _),(56,some _)],[(2,some _),(902,some _),(901,some _),(0,some _),(1,some _)]⟩ ⟨⟨c9,c9,c9,c9,c9,c9,c9,c9,trivial⟩,⟨u9,u9,u9,u9,u9,trivial⟩⟩ (fun u=>⟨[],[(3,some (.box [.p (u.1.c 0), .p (u.1.c 1), .p (u.1.c 2)])),(912,some (.box [.p (u.1.c 0), .p (u.1.c 1), .p (u.1.c 2), .ref 911 0, .p (fdl (bg u.1)), .p (fdl u.2.1), .p (fdl u.2.2)])),(911,some (a6b (cw u.1.rows)))]⟩) (fun u=>zt u) ?_ ?_
       ·
        refine sx7 ?_;(iterate 5 refine qy ?_);refine a6 ?_;refine a8 _ rfl (fun r5=>?_) (fun r5=>?_)
        ·
         have h5:=of_decide_eq_true r5
         try simp only [ty] at h5
         refine a7 ?_;refine ax (E:=aq) ae ak [0,1,2,3,4,5,6,7,8,9] ?_;(iterate 9 refine qy ?_)
         refine ay rfl rfl rfl rfl rfl rfl ah3 (((amt t2 a2 r2 hk2 (y.ops.getD i default)).swap 1000 912).swap 901 911) (bs.refl _) ⟨u9,u9,trivial⟩ rfl rfl ?_;refine a6 ?_;refine ⟨by kernel_rfl, ?_⟩
         refine ax (E:=aq) ae ak [0,1,2,3,4,5,6,7,8,9,10] ?_;(iterate 6 refine qy ?_)
         refine rc rfl rfl rfl rfl rfl rfl ail (aav t2 (y.ops.getD i default) (by have:=hk2.na;omega)) (CoL.refl _) rfl rfl ?_;(iterate 3 refine qy ?_);refine s9 ?_;refine a6 ?_;refine ⟨by kernel_rfl, ?_⟩
         have hJ:zt (opT t2 (y.ops.getD i default),nxA t2 (y.ops.getD i default) a2,nxR t2 (y.ops.getD i default) r2):=hk2.op (y.ops.getD i default)
         exact ⟨_,hJ,⟨⟨c9,c9,c9,c9,c9,c9,c9,c9,trivial⟩,⟨u9,u9,u9,u9,u9,u9,u9,u9,trivial⟩⟩⟩
        ·
         have h5:=of_decide_eq_false r5
         try simp only [ty] at h5
         have hJ:zt (t2,a2,r2):=hk2
         refine aa ?_
         exact ⟨_,hJ,⟨⟨c9,c9,c9,c9,c9,c9,c9,c9,trivial⟩,⟨u9,u9,u9,u9,u9,u9,u9,u9,trivial⟩⟩⟩
       · rintro ⟨t2,a2,r2⟩ hj
         have hk2:ROk t2 a2 r2:=hj
         clear hj
         dsimp only
         refine sx7 ?_;refine qy ?_;refine ay rfl rfl rfl rfl rfl rfl aiu ((are t (bg t) a r hk.ok).swap 1000 902) (bs.refl _) ⟨u9,u9,trivial⟩ rfl rfl ?_;refine qy ?_
         refine ay rfl rfl rfl rfl rfl rfl ait (((ak3 t (bg t) a r (by have:=hk.nr;omega)).swap 1000 902).swap 905 920) (bs.refl _) ⟨u9,u9,trivial⟩ rfl rfl ?_;refine qy ?_
         refine ay rfl rfl rfl rfl rfl rfl a3w (((atl t (bg t) a r (jd hk.na) hk.la hk.lr).swap 1000 902).swap 905 921) (bs.refl _) ⟨u9,u9,trivial⟩ rfl rfl ?_;refine qy ?_
         refine ay rfl rfl rfl rfl rfl rfl a5j (((apt t (bg t) a r hk.na).swap 1000 902).swap 905 922) (bs.refl _) ⟨u9,u9,trivial⟩ rfl rfl ?_;refine m9 4 ?_;refine s9 ?_;(iterate 3 refine qy ?_)
         refine a6 ?_;(iterate 2 refine a7 ?_);refine a1e (ah6 906 908 rfl (by have:=hk.nr;unfold maxLen;omega) fun B0 ms hd0 hR0=>dp ?_);refine gy ?_;(iterate 4 refine qy ?_);refine a6 ?_
         refine af ?_
         refine av (ι:=(Nat × (Nat → Option Obj) × (Nat → Value))) ⟨[(2,some _),(3,some _),(5,some _),(6,some _),(8,some _),(9,some _),(12,some _),(13,some _),(14,some _),(15,some _),(55,some _),(56,some _),(119,some _)],[(3,some _),(912,some _),(911,some _),(2,some _),(902,some _),(901,some _),(0,some _),(1,some _),(4,some _),(905,some _),(920,some _),(921,some _),(922,some _)]⟩ ⟨⟨c9,c9,c9,c9,c9,c9,c9,c9,c9,c9,c9,c9,c9,trivial⟩,⟨u9,u9,u9,u9,u9,u9,u9,u9,u9,u9,u9,u9,u9,trivial⟩⟩ (fun z=>⟨[(120,some (vI z.1))],[(906,some (.arr true 2 48 t.rows.length (rwG z.2.2))),(908,some (.bun z.2.1))]⟩) (fun z=>z.1 ≤ t.rows.length ∧ jm 81 z.2.1 t.rows.length ms z.2.2) (fun z=>t.rows.length - z.1) ((0,B0,hd0)) (⟨Nat.zero_le _,hR0⟩) ⟨⟨zy,trivial⟩,⟨⟨_,rfl,⟨rfl,rfl,rfl,fun q j _ _=>att q j⟩⟩,u9,trivial⟩⟩ ?_
         rintro ⟨k,B,hd⟩ ⟨hkk,hR⟩
         dsimp only at hkk hR ⊢
         refine sx7 ?_;refine qy ?_;refine a6 ?_;refine a7 ?_;refine a8 _ rfl (fun r6=>?_) (fun r6=>?_)
         ·
          have h6:=of_decide_eq_true r6
          try simp only [ty] at h6
          have hkn:k < t.rows.length:=by omega
          have hnr:=hk.nr
          refine aa ?_;refine a7 ?_;refine af ?_;refine sx7 ?_;(iterate 2 refine qy ?_);refine a6 ?_;refine sx7 ?_;(iterate 5 refine qy ?_);refine s9 ?_;refine a6 ?_
          refine ahj 906 (.arrh 2 48 t.rows.length [] fun q j=>.p (rwG hd q j)) rfl ⟨.inl rfl,rfl,rfl,rfl,fun q j _ _=>aol q j⟩ ?_
          refine a1e (ag4 906 908 907 k 1 rfl rfl hkn (by decide) rfl (hR.h k hkn) (by decide) fun B1 hB1=>dp ?_);refine c7 [0,1,2,3,4,5] [6] rfl ?_;refine cj (E:=aq) ae ?_
          (iterate 5 refine qy ?_);refine rq (out:=⟨_, .v (.one (.ref 907 (ms k)))⟩) rfl rfl rfl (congrArg (fun z=>some (Out.mk _ (HR.v (HC.one z)))) a82) rfl ?_;refine a6 ?_;refine gt ?_
          refine lq 133 907 rfl rfl ?_;refine dp ?_;refine cj (E:=aq) (L1:=[6]) (L2:=[]) ae ?_;refine ra 5 true rfl rfl rfl rfl rfl rfl ?_;refine a6 ?_;refine dm ?_
          refine a1e (abk 906 908 907 k 1 (rwG hd) rfl rfl rfl hkn (by decide) a82 (fun i jj _ _ hn=>aev hn) fun B2 hx2 hH hN=>dp ?_);refine gy ?_;(iterate 2 refine qy ?_);refine a6 ?_
          refine ⟨(k + 1,B2,fun q=>if q = k then hx2 else hd q), ?_, ?_, ?_⟩
          · exact ⟨by show k + 1 ≤ _;omega,hR.put hkn hB1 hH hN⟩
          · first | omega | (dsimp only;omega)
          · exact ⟨⟨zy,c9,c9,c9,c9,c9,c9,c9,c9,c9,c9,c9,c9,c9,trivial⟩,⟨⟨_,rfl,⟨fun h=>h,rfl,rfl,rfl,fun q j _ _=>aog q j⟩⟩,u9,u9,u9,u9,u9,u9,u9,u9,u9,u9,u9,u9,u9,u9,trivial⟩⟩
         ·
          have h6:=of_decide_eq_false r6
          try simp only [ty] at h6
          refine au ?_;refine a7 ?_;refine c7 [0,1] [2] rfl ?_;refine cj (E:=aq) ae ?_;(iterate 2 refine qy ?_);refine a6 ?_;refine gt ?_;refine lq 136 905 rfl rfl ?_
          refine dp ?_;refine cj (E:=aq) (L1:=[2]) (L2:=[]) ae ?_;refine ra 6 true rfl rfl rfl rfl rfl rfl ?_;refine a6 ?_;refine dm ?_;refine a7 ?_;refine c7 [0] [1] rfl ?_
          refine cj (E:=aq) ae ?_;refine qy ?_;refine a6 ?_;refine gt ?_;refine lq 137 920 rfl rfl ?_;refine dp ?_;refine cj (E:=aq) (L1:=[1]) (L2:=[]) ae ?_
          refine ra 7 true rfl rfl rfl rfl rfl rfl ?_;refine a6 ?_;refine dm ?_;refine a7 ?_;refine c7 [0] [1] rfl ?_;refine cj (E:=aq) ae ?_;refine qy ?_;refine a6 ?_
          refine gt ?_;refine lq 138 921 rfl rfl ?_;refine dp ?_;refine cj (E:=aq) (L1:=[1]) (L2:=[]) ae ?_;refine ra 8 true rfl rfl rfl rfl rfl rfl ?_;refine a6 ?_;refine dm ?_
          refine a7 ?_;refine c7 [0] [1] rfl ?_;refine cj (E:=aq) ae ?_;refine qy ?_;refine a6 ?_;refine gt ?_;refine lq 139 922 rfl rfl ?_;refine dp ?_
          refine cj (E:=aq) (L1:=[1]) (L2:=[]) ae ?_;refine ra 9 true rfl rfl rfl rfl rfl rfl ?_;refine a6 ?_;refine dm ?_;refine sx7 ?_;refine qy ?_
          refine ay rfl rfl rfl rfl rfl rfl age ((((at9 t (bg t) a r (jd hk.na) hk.la hk.lr).swap 1000 902).swap 905 923).swap 906 924) (bs.refl _) ⟨u9,u9,trivial⟩ rfl rfl ?_;(iterate 5 refine qy ?_)
          refine a6 ?_;refine a7 ?_;refine c7 [0] [1] rfl ?_;refine cj (E:=aq) ae ?_;refine qy ?_;refine a6 ?_;refine gt ?_;refine lq 145 923 rfl rfl ?_;refine dp ?_
          refine cj (E:=aq) (L1:=[1]) (L2:=[]) ae ?_;refine ra 10 true rfl rfl rfl rfl rfl rfl ?_;refine a6 ?_;refine dm ?_;refine c7 [0] [1] rfl ?_;refine cj (E:=aq) ae ?_
          refine qy ?_;refine a6 ?_;refine gt ?_;refine lq 146 924 rfl rfl ?_;refine dp ?_;refine cj (E:=aq) (L1:=[1]) (L2:=[]) ae ?_;refine ra 11 true rfl rfl rfl rfl rfl rfl ?_
          refine a6 ?_;refine dm ?_;refine gy ?_;(iterate 2 refine qy ?_);refine a6 ?_;refine ⟨(i + 1,(t,a,r),(t2,a2,r2)), ?_, ?_, ?_⟩
          · exact ⟨by dsimp only;omega,hk,hk2⟩
          · first | omega | (dsimp only;omega)
          · exact ⟨⟨zy,c9,c9,c9,c9,c9,c9,c9,trivial⟩,⟨u9,u9,u9,u9,u9,u9,u9,u9,trivial⟩⟩
    ·
     have h3:=of_decide_eq_false r3
     try simp only [ty] at h3
     refine au ?_;refine sx7 ?_;(iterate 2 refine qy ?_);refine ay rfl rfl rfl rfl rfl rfl ai4 ((ahu t a r hk.ok hk.na hk.nr hk.la hk.lr).swap 1000 902) (bs.refl _) ⟨u9,u9,trivial⟩ rfl rfl ?_
     refine qy ?_;refine b5 rfl rfl (fun r7=>?_) (fun r7=>?_)
     ·
      have h7:=r7
      (iterate 2 refine qy ?_ (hg:=(gtt r7)))
      refine ay rfl rfl rfl rfl rfl rfl ai4 (((ahu t2 a2 r2 hk2.ok hk2.na hk2.nr hk2.la hk2.lr).swap 1000 912).swap 901 911) (bs.refl _) ⟨u9,u9,trivial⟩ rfl (gtt r7) ?_;(iterate 2 refine qy ?_)
      refine a6 ?_
      exact hx8 rfl rfl rfl (CoL.refl _)
     ·
      have h7:=r7
      exfalso
      first | (simp_all;done) | omega | (simp_all;omega)
theorem asu (x y:Scr):ap Tryz.prog 9 [x.pc,y.pc] (b4 [pB true]):=by
 by_cases hx:12 < x.ops.length
 · by_cases hy:12 < y.ops.length
   · exact akk x y hx hy
   · exact alr x y hx hy
 · by_cases hy:12 < y.ops.length
   · exact am3 x y hx hy
   · exact al4 x y hx hy
end Go.Hx
end

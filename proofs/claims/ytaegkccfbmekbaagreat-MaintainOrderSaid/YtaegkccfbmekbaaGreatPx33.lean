/- A part of the proof: Mw2 Mw3. -/
import Derived.Test.YtaegkccfbmekbaaGreatPx22
import Derived.Test.YtaegkccfbmekbaaGreatPx23
import Derived.Test.YtaegkccfbmekbaaGreatPx32
set_option linter.all false
section
namespace Go.Hx
open Go.Proofs
set_option maxRecDepth 100000
set_option maxHeartbeats 1000000
theorem ao6:ai Tryz.prog 156:=⟨Tryz.f156,Tryz.func156,by kernel_rfl,by kernel_rfl⟩
theorem arv (t:Tbl) (x r:AS) (ht:TOk t):al Tryz.prog 156 [t.pc,(⟨x,r⟩:Fd).pc] (az [pB (ol t.rows x r)]):=by
 refine ag (nt:=48) ae Tryz.func156 rfl rfl l9 ?_
 have hnr:=ht.nr
 have hna:=ht.na
 have hsq:t.rows.length * t.rows.length ≤ 1000000:=Nat.mul_le_mul hnr hnr
 refine sx7 ?_;refine m9 0 ?_;refine m9 1 ?_;refine qy ?_;refine a6 ?_;refine a7 ?_;refine sx7 ?_;refine qy ?_;refine a6 ?_;refine af ?_
 refine av (ι:=Nat) ⟨[(2,some _),(3,some _)],[(0,some _),(1,some _)]⟩ ⟨⟨c9,c9,trivial⟩,⟨u9,u9,trivial⟩⟩ (fun i=>⟨[(5,some (vI i))],[]⟩) (fun i=>t.rows.length ≥ i ∧ ∀ j,j < i → as1 t.rows x r j = true) (fun i=>t.rows.length - i) (0) (⟨Nat.zero_le _,dm⟩) ⟨⟨zy,trivial⟩,trivial⟩ ?_
 rintro i ⟨hi,hI⟩
 refine a7 ?_;refine sx7 ?_;(iterate 5 refine qy ?_);refine a6 ?_;refine a8 _ rfl (fun r0=>?_) (fun r0=>?_)
 ·
  have h0:=of_decide_eq_true r0
  try simp only [ty] at h0
  refine aa ?_;refine a7 ?_;refine af ?_;refine sx7 ?_;refine qy ?_;refine a6 ?_;refine af ?_
  refine av (ι:=Nat) ⟨[(2,some _),(3,some _),(5,some _)],[(0,some _),(1,some _)]⟩ ⟨⟨c9,c9,c9,trivial⟩,⟨u9,u9,trivial⟩⟩ (fun k=>⟨[(6,some (vI k))],[]⟩) (fun k=>k ≤ i ∧ ∀ j,j < k → a6y t.rows x r i j = true) (fun k=>i - k) (0) (⟨Nat.zero_le _,dm⟩) ⟨⟨zy,trivial⟩,trivial⟩ ?_
  rintro k ⟨hk,hK⟩
  refine a7 ?_;refine sx7 ?_;(iterate 3 refine qy ?_);refine a6 ?_;refine a8 _ rfl (fun r1=>?_) (fun r1=>?_)
  ·
   have h1:=of_decide_eq_true r1
   try simp only [ty] at h1
   refine aa ?_;refine a7 ?_;refine af ?_;refine a7 ?_
   refine ay (E:=b5) ae ak [0,1,2,3,4,5,6,7,8,9,10,11,12,13,14,15,16,17,18,19,20,21,22,23,24,25,26,27,28] ?_;(iterate 12 refine qy ?_)
   refine rc rfl rfl rfl rfl rfl rfl a7i (ajt (t.rows.getD i default) (t.rows.getD k default) x (ht.rows i (by omega)) (ht.rows k (by omega))) (CoL.refl _) rfl rfl ?_;refine qy ?_
   refine b4 rfl rfl (fun r2=>?_) (fun r2=>?_)
   ·
    have h2:=r2
    (iterate 12 refine qy ?_ (hg:=(gtt r2)));refine rc rfl rfl rfl rfl rfl rfl a7i (ajt (t.rows.getD i default) (t.rows.getD k default) r (ht.rows i (by omega)) (ht.rows k (by omega))) (CoL.refl _) rfl (gtt r2) ?_
    refine qy ?_ (hg:=(gtt r2));refine qy ?_;refine a6 ?_;refine ⟨by kernel_rfl, ?_⟩;refine a8 _ rfl (fun r3=>?_) (fun r3=>?_)
    ·
     have h3:=r3
     have h3:=ci r2 h3
     have h3:=b8 h3
     refine sx7 ?_;refine qy ?_;refine a6 ?_
     exact hx8 rfl rfl rfl (⟨ccb (atu (i:=i) (k:=k) (by omega) (by omega) (by unfold a6y;simp_all)).symm,trivial⟩)
    ·
     have h3:=r3
     have h3:=ci r2 h3
     have h3:=b9 h3
     refine aa ?_;refine gy ?_;(iterate 3 refine qy ?_);refine a6 ?_;refine ⟨k + 1, ?_, ?_, ?_⟩
     · exact ⟨by omega,d8 hK (by first | assumption | (unfold a6y;simp_all) | (unfold a3t;simp_all))⟩
     · first | omega | (dsimp only;omega)
     · exact ⟨⟨zy,c9,c9,c9,trivial⟩,⟨u9,u9,trivial⟩⟩
   ·
    have h2:=r2
    (iterate 14 refine k9 (gft r2) ?_);refine rq rfl rfl rfl rfl rfl ?_ (hp:=r2);refine a6 ?_;refine ⟨by kernel_rfl, ?_⟩;refine a8 _ rfl (fun e=>by cases e) (fun _=>?_);refine aa ?_;refine gy ?_
    (iterate 3 refine qy ?_);refine a6 ?_;refine ⟨k + 1, ?_, ?_, ?_⟩
    · exact ⟨by omega,d8 hK (by first | assumption | (unfold a6y;simp_all) | (unfold a3t;simp_all))⟩
    · first | omega | (dsimp only;omega)
    · exact ⟨⟨zy,c9,c9,c9,trivial⟩,⟨u9,u9,trivial⟩⟩
  ·
   have h1:=of_decide_eq_false r1
   try simp only [ty] at h1
   refine aq ?_;refine gy ?_;(iterate 3 refine qy ?_);refine a6 ?_;refine ⟨i + 1, ?_, ?_, ?_⟩
   · exact ⟨by omega,d8 hI (jn fun j hj=>hK j (by omega))⟩
   · first | omega | (dsimp only;omega)
   · exact ⟨⟨zy,c9,c9,trivial⟩,⟨u9,u9,trivial⟩⟩
 ·
  have h0:=of_decide_eq_false r0
  try simp only [ty] at h0
  refine aq ?_;refine sx7 ?_;refine qy ?_;refine a6 ?_
  exact hx8 rfl rfl rfl (⟨ccb (as2 fun j hj=>hI j (by omega)).symm,trivial⟩)
theorem apl:ai Tryz.prog 129:=⟨Tryz.f129,Tryz.func129,by kernel_rfl,by kernel_rfl⟩
theorem awb (t:Tbl) (s:AS) (a:Nat) (ht:TOk t):al Tryz.prog 129 [t.pc,pA s,pI a] (az [pB (ol t.rows s ((1:AS) <<< a))]):=by
 refine ag (nt:=13) ae Tryz.func129 rfl rfl l9 ?_;refine sx7 ?_;refine m9 0 ?_;refine qy ?_;refine a6 ?_;refine a7 ?_;refine ay (E:=b5) ae ak [0,1,2,3,4,5,6] ?_
 (iterate 5 refine qy ?_)
 refine rc rfl rfl rfl rfl rfl rfl ao6 (arv t s ((1:AS) <<< a) ht) (⟨CoC.refl _,CoC.agg ⟨CoP.refl _,CoP.of_eq (congrArg (fun z=>PV.raw (.int .u32 z)) (show IntKind.wrap .u32 (1 * 2 ^ (min a 32)) = asI ((1:AS) <<< a) from vv 1 a)),trivial⟩,trivial⟩) rfl rfl ?_
 refine qy ?_;refine a6 ?_;refine ⟨by kernel_rfl, ?_⟩
 exact hx8 rfl rfl rfl (CoL.refl _)
theorem anf:ai Tryz.prog 100:=⟨Tryz.f100,Tryz.func100,by kernel_rfl,by kernel_rfl⟩
theorem ash (t:Tbl) (a:Nat) (h28:nc t = 0) (ha:a < t.attrs.length):al Tryz.prog 100 [t.pc,pI a] (az [pP (asl (om t.rows t.attrs.length a)),pI 0]):=by
 refine ag (nt:=54) ae Tryz.func100 rfl rfl l9 ?_
 obtain ⟨ht,h200,h10⟩:=a9s h28
 have hsl:=rj (b7 (t.attrs.length:Nat) &&& ~~~((1:AS) <<< a))
 refine sx7 ?_;refine m9 0 ?_;(iterate 2 refine qy ?_);refine a6 ?_;refine a7 ?_;refine sx7 ?_;refine qy ?_;refine rc rfl rfl rfl rfl rfl rfl agu (agk t) (CoL.refl _) rfl rfl ?_;refine qy ?_;refine a6 ?_
 refine sx7 ?_;(iterate 2 refine qy ?_);refine a6 ?_;refine a8 _ rfl (fun r0=>?_) (fun r0=>?_)
 ·
  have h0:=r0
  have h0:=of_decide_eq_false (b8 h0)
  try simp only [ty] at h0
  exact absurd h28 h0
 ·
  have h0:=r0
  have h0:=of_decide_eq_true (b9 h0)
  try simp only [ty] at h0
  refine aa ?_;refine a7 ?_;refine sx7 ?_;(iterate 3 refine qy ?_);refine b4 rfl rfl (fun r1=>?_) (fun r1=>?_)
  ·
   have h1:=of_decide_eq_true r1
   try simp only [ty] at h1
   exfalso
   omega
  ·
   have h1:=of_decide_eq_false r1
   try simp only [ty] at h1
   (iterate 5 refine qy ?_ (hg:=(gff r1)));refine qy ?_;refine a6 ?_;refine a8 _ rfl (fun r2=>?_) (fun r2=>?_)
   ·
    have h2:=r2
    have h2:=bp r1 h2
    have h2:=of_decide_eq_true h2
    try simp only [ty] at h2
    exfalso
    omega
   ·
    have h2:=r2
    have h2:=bp r1 h2
    have h2:=of_decide_eq_false h2
    try simp only [ty] at h2
    refine aa ?_;refine a7 ?_;refine ay (E:=b5) ae ak [0,1,2,3,4,5,6,7,8] ?_;(iterate 3 refine qy ?_)
    refine rc rfl rfl rfl rfl rfl rfl agq (aia t.attrs.length) (CoL.refl _) rfl rfl ?_;(iterate 3 refine qy ?_)
    refine rc rfl rfl rfl rfl rfl rfl apn (atm (b7 (t.attrs.length:Nat) &&& ~~~((1:AS) <<< a))) (⟨cci (by rw [← arl];exact congrArg (fl .andNot .u32 (asI _)) (vv 1 a)),trivial⟩) rfl rfl ?_;refine qy ?_
    refine a6 ?_;refine ⟨by kernel_rfl, ?_⟩;refine sx7 ?_;refine qy ?_;refine a6 ?_;refine a7 ?_;refine sx7 ?_;refine qy ?_;refine a6 ?_;refine af ?_
    refine ec 8 900 true 1 69 (lf sC []) (by decide) rfl (CoP.sl rfl (.inr rfl) (fun h=>h) (fun i j hi _=>absurd hi (Nat.not_lt_zero i))) (.inr rfl) rfl ?_
    refine av (ι:=Nat) ⟨[(1,some _),(2,some _),(7,some _)],[(0,some _)]⟩ ⟨⟨c9,c9,c9,trivial⟩,⟨u9,trivial⟩⟩ (fun i=>⟨[(8,some (.v (.one (.ref 900 (s4 (fun x=>ol t.rows x ((1:AS) <<< a)) (da (b7 (t.attrs.length:Nat) &&& ~~~((1:AS) <<< a))) i).length)))),(9,some (vI i))],[(900,some (.arr true 1 69 (s4 (fun x=>ol t.rows x ((1:AS) <<< a)) (da (b7 (t.attrs.length:Nat) &&& ~~~((1:AS) <<< a))) i).length (lf sC (s4 (fun x=>ol t.rows x ((1:AS) <<< a)) (da (b7 (t.attrs.length:Nat) &&& ~~~((1:AS) <<< a))) i))))]⟩) (fun i=>i ≤ (da (b7 (t.attrs.length:Nat) &&& ~~~((1:AS) <<< a))).length) (fun i=>(da (b7 (t.attrs.length:Nat) &&& ~~~((1:AS) <<< a))).length - i) (0) (Nat.zero_le _) ⟨⟨zy,zy,trivial⟩,⟨u9,trivial⟩⟩ ?_
    rintro i hi
    have hlen:=ajo (fun x=>ol t.rows x ((1:AS) <<< a)) (da (b7 (t.attrs.length:Nat) &&& ~~~((1:AS) <<< a))) i
    refine a7 ?_;refine sx7 ?_;(iterate 4 refine qy ?_);refine a6 ?_;refine a8 _ rfl (fun r3=>?_) (fun r3=>?_)
    ·
     have h3:=of_decide_eq_true r3
     try simp only [ty] at h3
     refine aa ?_;refine a7 ?_;refine af ?_;refine a7 ?_;refine ay (E:=b5) ae ak [0,1,2,3,4,5,6] ?_;(iterate 6 refine qy ?_)
     refine rc rfl rfl rfl rfl rfl rfl apl (awb t ((da (b7 (t.attrs.length:Nat) &&& ~~~((1:AS) <<< a))).getD i default) a ht) (CoL.refl _) rfl rfl ?_;refine a6 ?_;refine ⟨by kernel_rfl, ?_⟩
     refine a8 _ rfl (fun r4=>?_) (fun r4=>?_)
     ·
      have h4:=r4
      refine gy ?_;(iterate 5 refine qy ?_);refine m9 1 ?_;refine ra 2 true rfl rfl rfl rfl rfl rfl ?_;refine qy ?_;refine a6 ?_;refine gy ?_;(iterate 3 refine qy ?_);refine a6 ?_
      first | (refine ⟨i + 1, ?_, ?_, ?_⟩
               · show i + 1 ≤ _;omega
               · first | omega | (dsimp only;omega)
               · exact ⟨⟨⟨_,rfl,(dt (a4u (by omega) (by assumption)))⟩,zy,c9,c9,c9,trivial⟩,⟨⟨_,rfl,(ek (a4u (by omega) (by assumption)) (CoP.refl _))⟩,u9,trivial⟩⟩)
            | (refine ⟨i + 1, ?_, ?_, ?_⟩
               · show i + 1 ≤ _;omega
               · first | omega | (dsimp only;omega)
               · exact ⟨⟨⟨_,rfl,(d9 (a5r (by omega) (by assumption)))⟩,zy,c9,c9,c9,trivial⟩,⟨⟨_,rfl,(cr (a5r (by omega) (by assumption)))⟩,u9,trivial⟩⟩)
     ·
      have h4:=r4
      refine aa ?_;refine gy ?_;(iterate 3 refine qy ?_);refine a6 ?_
      first | (refine ⟨i + 1, ?_, ?_, ?_⟩
               · show i + 1 ≤ _;omega
               · first | omega | (dsimp only;omega)
               · exact ⟨⟨⟨_,rfl,(dt (a4u (by omega) (by assumption)))⟩,zy,c9,c9,c9,trivial⟩,⟨⟨_,rfl,(ek (a4u (by omega) (by assumption)) (CoP.refl _))⟩,u9,trivial⟩⟩)
            | (refine ⟨i + 1, ?_, ?_, ?_⟩
               · show i + 1 ≤ _;omega
               · first | omega | (dsimp only;omega)
               · exact ⟨⟨⟨_,rfl,(d9 (a5r (by omega) (by assumption)))⟩,zy,c9,c9,c9,trivial⟩,⟨⟨_,rfl,(cr (a5r (by omega) (by assumption)))⟩,u9,trivial⟩⟩)
    ·
     have h3:=of_decide_eq_false r3
     try simp only [ty] at h3
     obtain rfl:i = (da (b7 (t.attrs.length:Nat) &&& ~~~((1:AS) <<< a))).length:=by omega
     refine aq ?_;refine a7 ?_;refine dp 8 rfl rfl rfl ?_;refine gy ?_;refine qy ?_
     refine rc rfl rfl rfl rfl rfl rfl aip (a8e ((da (b7 (t.attrs.length:Nat) &&& ~~~((1:AS) <<< a))).filter (fun x=>ol t.rows x ((1:AS) <<< a))) (Nat.le_trans (List.length_filter_le _ _) (by omega))) (⟨CoC.one (CoP.of_eq (by rw [ajk (Nat.le_refl _)];rfl)),trivial⟩) rfl rfl ?_
     (iterate 2 refine qy ?_);refine a6 ?_
     exact hx8 rfl rfl rfl (⟨CoC.refl _,CoC.refl _,trivial⟩)
theorem aoq:ai Tryz.prog 130:=⟨Tryz.f130,Tryz.func130,by kernel_rfl,by kernel_rfl⟩
theorem asz (a b:Fd):al Tryz.prog 130 [a.pc,b.pc] (az [pB (gl a b)]):=by
 refine ag (nt:=20) ae Tryz.func130 rfl rfl l9 ?_;refine sx7 ?_;refine m9 0 ?_;refine m9 1 ?_;refine qy ?_;refine a6 ?_;refine a7 ?_;refine sx7 ?_;(iterate 5 refine qy ?_);refine a6 ?_
 refine a8 _ rfl (fun r0=>?_) (fun r0=>?_)
 ·
  have h0:=r0
  have h0:=of_decide_eq_false (b8 h0)
  try simp only [ty] at h0
  refine sx7 ?_;(iterate 4 refine qy ?_);refine rc rfl rfl rfl rfl rfl rfl aea (ae3 _ _) (CoL.refl _) rfl rfl ?_;refine qy ?_;refine a6 ?_
  exact hx8 rfl rfl rfl (⟨ccb (amu (by assumption)),trivial⟩)
 ·
  have h0:=r0
  have h0:=of_decide_eq_true (b9 h0)
  try simp only [ty] at h0
  refine aa ?_;refine sx7 ?_;(iterate 6 refine qy ?_);refine a6 ?_
  exact hx8 rfl rfl rfl (⟨ccb (ai8 (by assumption)),trivial⟩)
theorem aox:ai Tryz.prog 101:=⟨Tryz.f101,Tryz.func101,by kernel_rfl,by kernel_rfl⟩
theorem ago (l:List Fd) (hn:l.Nodup) (hl:l.length ≤ 8589934592000):al Tryz.prog 101 [pP (fdl l)] (az [pP (fdl (fy l))]):=by
 refine ag (nt:=49) ae Tryz.func101 rfl rfl l9 ?_;refine sx7 ?_;refine qy ?_;refine a6 ?_;refine sx7 ?_;refine m9 0 ?_;refine qy ?_;refine ra 1 true rfl rfl rfl rfl rfl rfl ?_;refine qy ?_;refine a6 ?_
 refine abq ⟨[(3,some (.v (.one (.ref 0 l.length))))],[(0,some (.arr true 2 71 l.length (lf Fd.c l)))]⟩ ⟨⟨⟨_,rfl,CoR.of_eq (by rw [Nat.zero_add])⟩,trivial⟩,⟨⟨_,rfl,akl⟩,trivial⟩⟩ ?_;refine a7 ?_
 refine sx7 ?_;refine qy ?_;refine a6 ?_;refine af ?_
 refine av (ι:=Nat) ⟨[(3,some _)],[]⟩ ⟨⟨c9,trivial⟩,trivial⟩ (fun i=>⟨[(4,some (vI i))],[(0,some (.arr true 2 71 l.length (lf Fd.c (yg l i))))]⟩) (fun i=>1 ≤ i ∧ (i ≤ l.length ∨ i = 1)) (fun i=>l.length - i) (1) (⟨Nat.le_refl _, .inr rfl⟩) ⟨⟨zy,trivial⟩,⟨⟨_,rfl,(ml (ake l) rfl)⟩,trivial⟩⟩ ?_
 rintro i ⟨hi1,hi2⟩
 refine a7 ?_;refine sx7 ?_;(iterate 4 refine qy ?_);refine a6 ?_;refine a8 _ rfl (fun r0=>?_) (fun r0=>?_)
 ·
  have h0:=of_decide_eq_true r0
  try simp only [ty] at h0
  refine aa ?_;refine a7 ?_;refine af ?_;refine sx7 ?_;(iterate 2 refine qy ?_);refine a6 ?_;refine af ?_
  refine av (ι:=Nat) ⟨[(3,some _),(4,some _)],[]⟩ ⟨⟨c9,c9,trivial⟩,trivial⟩ (fun k=>⟨[(5,some (vI k))],[(0,some (.arr true 2 71 l.length (lf Fd.c (gw l i k))))]⟩) (fun k=>k ≤ i ∧ ∀ j,k ≤ j → j < i → gl (l.getD i default) ((fy (l.take i)).getD j default) = true) (fun k=>k) (i) (⟨Nat.le_refl _,fun j h1 h2=>by omega⟩) ⟨⟨zy,trivial⟩,⟨⟨_,rfl,(ml (aey hn (by omega)) rfl)⟩,trivial⟩⟩ ?_
  rintro k ⟨hk,hK⟩
  (iterate 2 refine a7 ?_);refine ay (E:=b5) ae ak [0,1,2,3,4,5,6,7,8,9,10,11,12,13] ?_;(iterate 3 refine qy ?_);refine b4 rfl rfl (fun r1=>?_) (fun r1=>?_)
  ·
   have h1:=of_decide_eq_true r1
   try simp only [ty] at h1
   (iterate 9 refine qy ?_ (hg:=(gtt r1)));refine rc rfl rfl rfl rfl rfl rfl aoq (asz _ _) (CoL.refl _) rfl (gtt r1) ?_;refine qy ?_;refine a6 ?_;refine ⟨by kernel_rfl, ?_⟩
   refine a8 _ rfl (fun r2=>?_) (fun r2=>?_)
   ·
    have h2:=r2
    have h2:=ci r1 h2
    have hb:=ahc hn (by omega) (by omega) hk h2 (by omega) (by omega)
    refine aa ?_;refine a7 ?_;refine af ?_;refine ay (E:=b5) ae ak [0,1,5,6,7,8,9,10,11,12,13,14,15,2,3,4,16,17] ?_;(iterate 12 refine qy ?_);refine s9 ?_
    (iterate 4 refine qy ?_);refine s9 ?_;refine a6 ?_;refine ⟨by kernel_rfl, ?_⟩;refine gy ?_;(iterate 3 refine qy ?_);refine a6 ?_;refine ⟨k - 1, ?_, ?_, ?_⟩
    · refine ⟨by omega,fun j h1 h2=>?_⟩
      by_cases hj:j = k - 1
      · rw [hj];exact hb
      · exact hK j (by omega) h2
    · show k - 1 < k
      omega
    · exact ⟨⟨zy,c9,c9,trivial⟩,⟨⟨_,rfl,(alb hn (by omega) (by omega) hk (by omega) (by omega) rfl)⟩,trivial⟩⟩
   ·
    have h2:=r2
    have h2:=ci r1 h2
    have hb:=ahc hn (by omega) (by omega) hk h2 (by omega) (by omega)
    have hfin:=aaq hn (by omega) hk hK (.inr hb)
    refine aq ?_;refine gy ?_;(iterate 3 refine qy ?_);refine a6 ?_;refine ⟨i + 1, ?_, ?_, ?_⟩
    · exact ⟨by omega, .inl (by omega)⟩
    · first | omega | (dsimp only;omega)
    · exact ⟨⟨zy,c9,trivial⟩,⟨⟨_,rfl,(ml hfin.symm rfl)⟩,trivial⟩⟩
  ·
   have h1:=of_decide_eq_false r1
   try simp only [ty] at h1
   have hfin:=aaq hn (by omega) hk hK (.inl (by omega))
   (iterate 10 refine k9 (gft r1) ?_);refine rq rfl rfl rfl rfl rfl ?_ (hp:=r1);refine a6 ?_;refine ⟨by kernel_rfl, ?_⟩;refine a8 _ rfl (fun e=>by cases e) (fun _=>?_);refine aq ?_;refine gy ?_
   (iterate 3 refine qy ?_);refine a6 ?_;refine ⟨i + 1, ?_, ?_, ?_⟩
   · exact ⟨by omega, .inl (by omega)⟩
   · first | omega | (dsimp only;omega)
   · exact ⟨⟨zy,c9,trivial⟩,⟨⟨_,rfl,(ml hfin.symm rfl)⟩,trivial⟩⟩
 ·
  have h0:=of_decide_eq_false r0
  try simp only [ty] at h0
  have hil:l.length ≤ i:=by omega
  refine aq ?_;refine sx7 ?_;(iterate 2 refine qy ?_);refine a6 ?_;refine dp 2 rfl rfl rfl ?_
  exact hx8 rfl rfl rfl (⟨CoC.one (CoP.of_eq (by rw [aji hil,← a87 hn];rfl)),trivial⟩)
end Go.Hx
end
section
namespace Go.Hx
open Go.Proofs
set_option maxRecDepth 100000
set_option maxHeartbeats 1000000
theorem ar4:ai Tryz.prog 87:=⟨Tryz.f87,Tryz.func87,by kernel_rfl,by kernel_rfl⟩
theorem aua (t:Tbl) (x:AS) (ht:TOk t):al Tryz.prog 87 [t.pc,pA x] (az [pB (yp t.rows x)]):=by
 refine ag (nt:=31) ae Tryz.func87 rfl rfl l9 ?_
 have hnr:=ht.nr
 have hna:=ht.na
 have hsq:t.rows.length * t.rows.length ≤ 1000000:=Nat.mul_le_mul hnr hnr
 refine sx7 ?_;refine m9 0 ?_;refine qy ?_;refine a6 ?_;refine a7 ?_;refine sx7 ?_;refine qy ?_;refine a6 ?_;refine af ?_
 refine av (ι:=Nat) ⟨[(1,some _),(2,some _)],[(0,some _)]⟩ ⟨⟨c9,c9,trivial⟩,⟨u9,trivial⟩⟩ (fun i=>⟨[(5,some (vI i))],[]⟩) (fun i=>t.rows.length ≥ i ∧ ∀ j,j < i → asw t.rows x j = true) (fun i=>t.rows.length - i) (0) (⟨Nat.zero_le _,dm⟩) ⟨⟨zy,trivial⟩,trivial⟩ ?_
 rintro i ⟨hi,hI⟩
 refine a7 ?_;refine sx7 ?_;(iterate 5 refine qy ?_);refine a6 ?_;refine a8 _ rfl (fun r0=>?_) (fun r0=>?_)
 ·
  have h0:=of_decide_eq_true r0
  try simp only [ty] at h0
  refine aa ?_;refine a7 ?_;refine af ?_;refine sx7 ?_;refine qy ?_;refine a6 ?_;refine af ?_
  refine av (ι:=Nat) ⟨[(1,some _),(2,some _),(5,some _)],[(0,some _)]⟩ ⟨⟨c9,c9,c9,trivial⟩,⟨u9,trivial⟩⟩ (fun k=>⟨[(6,some (vI k))],[]⟩) (fun k=>k ≤ i ∧ ∀ j,j < k → a3t t.rows x i j = true) (fun k=>i - k) (0) (⟨Nat.zero_le _,dm⟩) ⟨⟨zy,trivial⟩,trivial⟩ ?_
  rintro k ⟨hk,hK⟩
  refine a7 ?_;refine sx7 ?_;(iterate 3 refine qy ?_);refine a6 ?_;refine a8 _ rfl (fun r1=>?_) (fun r1=>?_)
  ·
   have h1:=of_decide_eq_true r1
   try simp only [ty] at h1
   refine aa ?_;refine a7 ?_;refine af ?_;refine a7 ?_;refine ay (E:=b5) ae ak [0,1,2,3,4,5,6,7,8,9,10,11] ?_;(iterate 11 refine qy ?_)
   refine rc rfl rfl rfl rfl rfl rfl a7i (ajt (t.rows.getD i default) (t.rows.getD k default) x (ht.rows i (by omega)) (ht.rows k (by omega))) (CoL.refl _) rfl rfl ?_;refine a6 ?_;refine ⟨by kernel_rfl, ?_⟩
   refine a8 _ rfl (fun r2=>?_) (fun r2=>?_)
   ·
    have h2:=r2
    refine sx7 ?_;refine qy ?_;refine a6 ?_
    exact hx8 rfl rfl rfl (⟨ccb (aro (i:=i) (k:=k) (by omega) (by omega) (by unfold a3t;simp_all)).symm,trivial⟩)
   ·
    have h2:=r2
    refine aa ?_;refine gy ?_;(iterate 3 refine qy ?_);refine a6 ?_;refine ⟨k + 1, ?_, ?_, ?_⟩
    · exact ⟨by omega,d8 hK (by first | assumption | (unfold a3t;simp_all))⟩
    · first | omega | (dsimp only;omega)
    · exact ⟨⟨zy,c9,c9,c9,trivial⟩,⟨u9,trivial⟩⟩
  ·
   have h1:=of_decide_eq_false r1
   try simp only [ty] at h1
   refine aq ?_;refine gy ?_;(iterate 3 refine qy ?_);refine a6 ?_;refine ⟨i + 1, ?_, ?_, ?_⟩
   · exact ⟨by omega,d8 hI (jn fun j hj=>hK j (by omega))⟩
   · first | omega | (dsimp only;omega)
   · exact ⟨⟨zy,c9,c9,trivial⟩,⟨u9,trivial⟩⟩
 ·
  have h0:=of_decide_eq_false r0
  try simp only [ty] at h0
  refine aq ?_;refine sx7 ?_;refine qy ?_;refine a6 ?_
  exact hx8 rfl rfl rfl (⟨ccb (aq2 fun j hj=>hI j (by omega)).symm,trivial⟩)
theorem ate:ai Tryz.prog 48:=⟨Tryz.f48,Tryz.func48,by kernel_rfl,by kernel_rfl⟩
theorem aq1 (t:Tbl) (ht:TOk t):al Tryz.prog 48 [t.pc] (az [pP (asl (a60 t.rows t.attrs.length))]):=by
 refine ag (nt:=22) ae Tryz.func48 rfl rfl l9 ?_
 have hna:=ht.na
 have hfl:(b7 (t.attrs.length:Nat)).toNat + 1 ≤ 65536:=aof hna
 refine sx7 ?_;refine m9 0 ?_;refine qy ?_;refine a6 ?_;refine sx7 ?_;refine qy ?_;refine a6 ?_;refine a7 ?_;refine sx7 ?_;refine qy ?_;refine a6 ?_;refine af ?_
 refine ec 3 900 true 1 69 (lf sC []) (by decide) rfl (CoP.sl rfl (.inr rfl) (fun h=>h) (fun i j hi _=>absurd hi (Nat.not_lt_zero i))) (.inr rfl) rfl ?_
 refine av (ι:=Nat) ⟨[(1,some _)],[(0,some _)]⟩ ⟨⟨c9,trivial⟩,⟨u9,trivial⟩⟩ (fun k=>⟨[(3,some (.v (.one (.ref 900 (upT t.rows k).length)))),(4,some (vA (BitVec.ofNat 32 k)))],[(900,some (.arr true 1 69 (upT t.rows k).length (lf sC (upT t.rows k))))]⟩) (fun k=>k ≤ (b7 (t.attrs.length:Nat)).toNat + 1) (fun k=>(b7 (t.attrs.length:Nat)).toNat + 1 - k) (0) (Nat.zero_le _) ⟨⟨zy,zy,trivial⟩,⟨u9,trivial⟩⟩ ?_
 rintro k hk
 have hlen:=adj t.rows k
 refine a7 ?_;refine sx7 ?_;(iterate 4 refine qy ?_);refine rc rfl rfl rfl rfl rfl rfl agq (aia t.attrs.length) (CoL.refl _) rfl rfl ?_;refine qy ?_;refine a6 ?_
 refine a8 _ rfl (fun r0=>?_) (fun r0=>?_)
 ·
  have h0:=of_decide_eq_true r0
  try simp only [ty] at h0
  have hk2:k ≤ (b7 (t.attrs.length:Nat)).toNat:=by
   have q:asI (BitVec.ofNat 32 k) ≤ asI (b7 (t.attrs.length:Nat)):=h0
   rw [iq (by omega)] at q
   exact Int.ofNat_le.1 q
  refine aa ?_;refine a7 ?_;refine af ?_;refine sx7 ?_;(iterate 2 refine qy ?_);refine rc rfl rfl rfl rfl rfl rfl ar4 (aua t (BitVec.ofNat 32 k) ht) (CoL.refl _) rfl rfl ?_;refine a6 ?_
  refine a8 _ rfl (fun r1=>?_) (fun r1=>?_)
  ·
   have h1:=r1
   refine gy ?_;(iterate 2 refine qy ?_);refine m9 1 ?_;refine ra 2 true rfl rfl rfl rfl rfl rfl ?_;refine qy ?_;refine a6 ?_;refine gy ?_;refine qy ?_
   refine rq rfl rfl rfl rfl rfl ?_ (hp:=by have q:=iq (k:=k) (by omega);rw [q];simp only [inR,jy,lg];omega);refine qy ?_;refine a6 ?_
   first | (refine ⟨k + 1, ?_, ?_, ?_⟩
            · show k + 1 ≤ _;omega
            · first | omega | (dsimp only;omega)
            · exact ⟨⟨⟨_,rfl,(dt (a8w (by assumption)))⟩,⟨_,rfl,(io (by rw [iq (by omega),iq (by omega)];omega))⟩,c9,trivial⟩,⟨⟨_,rfl,(ek (a8w (by assumption)) (CoP.refl _))⟩,u9,trivial⟩⟩)
         | (refine ⟨k + 1, ?_, ?_, ?_⟩
            · show k + 1 ≤ _;omega
            · first | omega | (dsimp only;omega)
            · exact ⟨⟨⟨_,rfl,(d9 (a94 (by assumption)))⟩,⟨_,rfl,(io (by rw [iq (by omega),iq (by omega)];omega))⟩,c9,trivial⟩,⟨⟨_,rfl,(cr (a94 (by assumption)))⟩,u9,trivial⟩⟩)
  ·
   have h1:=r1
   refine aa ?_;refine gy ?_;refine qy ?_;refine rq rfl rfl rfl rfl rfl ?_ (hp:=by have q:=iq (k:=k) (by omega);rw [q];simp only [inR,jy,lg];omega);refine qy ?_;refine a6 ?_
   first | (refine ⟨k + 1, ?_, ?_, ?_⟩
            · show k + 1 ≤ _;omega
            · first | omega | (dsimp only;omega)
            · exact ⟨⟨⟨_,rfl,(dt (a8w (by assumption)))⟩,⟨_,rfl,(io (by rw [iq (by omega),iq (by omega)];omega))⟩,c9,trivial⟩,⟨⟨_,rfl,(ek (a8w (by assumption)) (CoP.refl _))⟩,u9,trivial⟩⟩)
         | (refine ⟨k + 1, ?_, ?_, ?_⟩
            · show k + 1 ≤ _;omega
            · first | omega | (dsimp only;omega)
            · exact ⟨⟨⟨_,rfl,(d9 (a94 (by assumption)))⟩,⟨_,rfl,(io (by rw [iq (by omega),iq (by omega)];omega))⟩,c9,trivial⟩,⟨⟨_,rfl,(cr (a94 (by assumption)))⟩,u9,trivial⟩⟩)
 ·
  have h0:=of_decide_eq_false r0
  try simp only [ty] at h0
  obtain rfl:k = (b7 (t.attrs.length:Nat)).toNat + 1:=by
   have q:¬ asI (BitVec.ofNat 32 k) ≤ asI (b7 (t.attrs.length:Nat)):=h0
   rw [iq (by omega)] at q
   have q2:¬ k ≤ (b7 (t.attrs.length:Nat)).toNat:=fun e=>q (Int.ofNat_le.2 e)
   omega
  refine aq ?_;refine a7 ?_;refine dp 3 rfl rfl rfl ?_;refine gy ?_;refine qy ?_
  refine rc rfl rfl rfl rfl rfl rfl aip (a8e (upT t.rows ((b7 (t.attrs.length:Nat)).toNat + 1)) (Nat.le_trans (adj _ _) (by omega))) (⟨CoC.refl _,trivial⟩) rfl rfl ?_;refine qy ?_;refine a6 ?_
  exact hx8 rfl rfl rfl (⟨CoC.one (CoP.of_eq (by rw [apk])),trivial⟩)
theorem at7:ai Tryz.prog 57:=⟨Tryz.f57,Tryz.func57,by kernel_rfl,by kernel_rfl⟩
theorem aqq (t:Tbl):al Tryz.prog 57 [t.pc] (az [pP (fdl (a40 t)),pI (nc t)]):=by
 refine ag (nt:=46) ae Tryz.func57 rfl rfl l9 ?_;refine sx7 ?_;refine m9 0 ?_;(iterate 2 refine qy ?_);refine a6 ?_;refine a7 ?_;refine sx7 ?_;refine qy ?_
 refine rc rfl rfl rfl rfl rfl rfl agu (agk t) (CoL.refl _) rfl rfl ?_;refine qy ?_;refine a6 ?_;refine sx7 ?_;(iterate 2 refine qy ?_);refine a6 ?_;refine a8 _ rfl (fun r0=>?_) (fun r0=>?_)
 ·
  have h0:=r0
  have h0:=of_decide_eq_false (b8 h0)
  try simp only [ty] at h0
  refine sx7 ?_;(iterate 3 refine qy ?_);refine a6 ?_
  exact hx8 rfl rfl rfl (⟨CoC.one (by rw [show a40 t = [] from if_neg (by assumption)];exact bc),CoC.refl _,trivial⟩)
 ·
  have h0:=r0
  have h0:=of_decide_eq_true (b9 h0)
  try simp only [ty] at h0
  obtain ⟨ht,h200,h10⟩:=a9s h0
  refine aa ?_;refine sx7 ?_;refine qy ?_;refine a6 ?_;refine a7 ?_;refine sx7 ?_;refine qy ?_;refine a6 ?_;refine af ?_
  refine ec 5 900 true 2 71 (lf Fd.c []) (by decide) rfl (CoP.sl rfl (.inr rfl) (fun h=>h) (fun i j hi _=>absurd hi (Nat.not_lt_zero i))) (.inr rfl) rfl ?_
  refine av (ι:=Nat) ⟨[(1,some _)],[(0,some _)]⟩ ⟨⟨c9,trivial⟩,⟨u9,trivial⟩⟩ (fun a=>⟨[(5,some (.v (.one (.ref 900 (kg t.rows t.attrs.length a 0).length)))),(6,some (vI a))],[(900,some (.arr true 2 71 (kg t.rows t.attrs.length a 0).length (lf Fd.c (kg t.rows t.attrs.length a 0))))]⟩) (fun a=>a ≤ t.attrs.length) (fun a=>t.attrs.length - a) (0) (Nat.zero_le _) ⟨⟨zy,zy,trivial⟩,⟨u9,trivial⟩⟩ ?_
  rintro a ha
  have hlen:=a3w t.rows t.attrs.length a 0 h10 ha
  have hfl:=a3z t.rows t.attrs.length a h10
  refine a7 ?_;refine sx7 ?_;(iterate 5 refine qy ?_);refine a6 ?_;refine a8 _ rfl (fun r1=>?_) (fun r1=>?_)
  ·
   have h1:=of_decide_eq_true r1
   try simp only [ty] at h1
   refine aa ?_;refine a7 ?_;refine af ?_;refine sx7 ?_;(iterate 2 refine qy ?_);refine rc rfl rfl rfl rfl rfl rfl anf (ash t a (by assumption) (by omega)) (CoL.refl _) rfl rfl ?_
   (iterate 5 refine qy ?_);refine a6 ?_;refine sx7 ?_;refine qy ?_;refine a6 ?_;refine af ?_
   refine av (ι:=Nat) ⟨[(1,some _),(6,some _),(7,some _)],[(0,some _)]⟩ ⟨⟨c9,c9,c9,trivial⟩,⟨u9,trivial⟩⟩ (fun k=>⟨[(5,some (.v (.one (.ref 900 (kg t.rows t.attrs.length a k).length)))),(9,some (vI k))],[(900,some (.arr true 2 71 (kg t.rows t.attrs.length a k).length (lf Fd.c (kg t.rows t.attrs.length a k))))]⟩) (fun k=>k ≤ (om t.rows t.attrs.length a).length) (fun k=>(om t.rows t.attrs.length a).length - k) (0) (Nat.zero_le _) ⟨⟨zy,zy,trivial⟩,⟨u9,trivial⟩⟩ ?_
   rintro k hk
   have hlen2:=a3w t.rows t.attrs.length a k h10 ha
   refine a7 ?_;refine sx7 ?_;(iterate 4 refine qy ?_);refine a6 ?_;refine a8 _ rfl (fun r2=>?_) (fun r2=>?_)
   ·
    have h2:=of_decide_eq_true r2
    try simp only [ty] at h2
    refine aa ?_;refine a7 ?_;refine af ?_;refine ay (E:=b5) ae ak [0,1,2,3,4,5,6,7,8,9,10] ?_;(iterate 8 refine qy ?_);refine m9 1 ?_
    refine ra 2 true rfl rfl rfl rfl rfl rfl ?_;refine qy ?_;refine a6 ?_;refine ⟨by kernel_rfl, ?_⟩;refine gy ?_;(iterate 3 refine qy ?_);refine a6 ?_;refine ⟨k + 1, ?_, ?_, ?_⟩
    · show k + 1 ≤ _;omega
    · first | omega | (dsimp only;omega)
    · exact ⟨⟨⟨_,rfl,(dt (a7t (by omega)))⟩,zy,c9,c9,c9,trivial⟩,⟨⟨_,rfl,(ku (a7t (by omega)) (CoP.refl _) (CoP.of_eq (congrArg (fun z=>PV.raw (.int .u32 z)) (vv 1 a))))⟩,u9,trivial⟩⟩
   ·
    have h2:=of_decide_eq_false r2
    try simp only [ty] at h2
    have hkl:(om t.rows t.attrs.length a).length ≤ k:=by omega
    refine aq ?_;refine gy ?_;(iterate 3 refine qy ?_);refine a6 ?_;refine ⟨a + 1, ?_, ?_, ?_⟩
    · show a + 1 ≤ _;omega
    · first | omega | (dsimp only;omega)
    · exact ⟨⟨⟨_,rfl,(d9 (a8m hkl).symm)⟩,zy,c9,trivial⟩,⟨⟨_,rfl,(cr (a8m hkl).symm)⟩,u9,trivial⟩⟩
  ·
   have h1:=of_decide_eq_false r1
   try simp only [ty] at h1
   obtain rfl:a = t.attrs.length:=by omega
   refine aq ?_;refine a7 ?_;refine dp 5 rfl rfl rfl ?_;refine gy ?_;refine qy ?_
   refine rc rfl rfl rfl rfl rfl rfl aox (ago (kg t.rows t.attrs.length t.attrs.length 0) (ah2 _ _ (by omega)) (by have:=a3w t.rows t.attrs.length t.attrs.length 0 h10 (Nat.le_refl _);omega)) (⟨CoC.refl _,trivial⟩) rfl rfl ?_
   (iterate 2 refine qy ?_);refine a6 ?_
   exact hx8 rfl rfl rfl (⟨CoC.one (CoP.of_eq (by rw [akd,show a40 t = aa4 t.rows t.attrs.length from if_pos (by assumption)])),cci (by omega),trivial⟩)
theorem asf:ai Tryz.prog 24:=⟨Tryz.f24,Tryz.func24,by kernel_rfl,by kernel_rfl⟩
theorem av9 (t:Tbl):al Tryz.prog 24 [t.pc] (az [pP (fdl (a40 t))]):=by
 refine ag (nt:=11) ae Tryz.func24 rfl rfl l9 ?_;refine sx7 ?_;refine m9 0 ?_;refine qy ?_;refine a6 ?_;refine sx7 ?_;refine qy ?_;refine rc rfl rfl rfl rfl rfl rfl at7 (aqq t) (CoL.refl _) rfl rfl ?_
 (iterate 5 refine qy ?_);refine a6 ?_;refine sx7 ?_;(iterate 2 refine qy ?_);refine a6 ?_
 exact hx8 rfl rfl rfl (CoL.refl _)
theorem ars:ai Tryz.prog 53:=⟨Tryz.f53,Tryz.func53,by kernel_rfl,by kernel_rfl⟩
theorem aqk (n:Nat) (hn:n ≤ 8):al Tryz.prog 53 [pI n] (az [pP (i6 (fv.take n))]):=by
 refine ag (nt:=8) ae Tryz.func53 rfl rfl l9 ?_;refine sx7 ?_;refine qy ?_;refine a6 ?_;refine sx7 ?_;refine m9 0 ?_;refine m9 1 ?_;refine qy ?_;refine alt rfl rfl rfl rfl rfl ?_
 refine ra 2 true rfl rfl rfl rfl rfl rfl ?_;refine qy ?_;refine a6 ?_;refine dp 2 rfl rfl rfl ?_
 exact hx8 rfl rfl rfl (⟨CoC.one (asu hn),trivial⟩)
theorem atv:ai Tryz.prog 13:=⟨Tryz.f13,Tryz.func13,by kernel_rfl,by kernel_rfl⟩
theorem aum (s:ByteArray) (l:List ByteArray) (hl:l.length ≤ 1000000):al Tryz.prog 13 [pS s,pP (i6 l)] (az [(a14 s l).pc,pI (ig s l)]):=by
 refine ag (nt:=24) ae Tryz.func13 rfl rfl l9 ?_;refine sx7 ?_;refine m9 0 ?_;refine qy ?_;refine a6 ?_;refine sx7 ?_;refine qy ?_;refine m9 1 ?_;refine qy ?_;refine ra 2 true rfl rfl rfl rfl rfl rfl ?_
 refine qy ?_;refine m9 3 ?_;refine s9 ?_;refine a6 ?_;refine gn 3 1 rfl rfl rfl rfl rfl ?_;refine a7 ?_;refine sx7 ?_;refine qy ?_
 refine rc rfl rfl rfl rfl rfl rfl xf (c82 (fq s l)) (⟨CoC.agg ⟨CoP.refl _,sv,bc,trivial⟩,trivial⟩) rfl rfl ?_;refine qy ?_;refine a6 ?_;refine sx7 ?_;(iterate 2 refine qy ?_);refine a6 ?_
 refine a8 _ rfl (fun r0=>?_) (fun r0=>?_)
 ·
  have h0:=r0
  have h0:=of_decide_eq_false (b8 h0)
  try simp only [ty] at h0
  refine sx7 ?_;(iterate 2 refine qy ?_);refine s9 ?_;refine qy ?_;refine a6 ?_;refine aw ?_;refine ⟨.inr rfl, ?_⟩
  have hh:=ar1 h0
  exact f9 rfl rfl (⟨by rw [hh.2];exact CoC.agg ⟨CoP.refl _,bc,bc,trivial⟩,cci hh.1.symm,trivial⟩)
 ·
  have h0:=r0
  have h0:=of_decide_eq_true (b9 h0)
  try simp only [ty] at h0
  refine aa ?_;refine a7 ?_;refine sx7 ?_;(iterate 3 refine qy ?_);refine a6 ?_;refine a8 _ rfl (fun r1=>?_) (fun r1=>?_)
  ·
   have h1:=of_decide_eq_true r1
   try simp only [ty] at h1
   refine sx7 ?_;refine qy ?_;refine s9 ?_;refine qy ?_;refine a6 ?_;refine aw ?_;refine ⟨.inr rfl, ?_⟩
   have hh:=aqx h0 (by omega)
   exact f9 rfl rfl (⟨by rw [hh.2];exact CoC.agg ⟨CoP.refl _,bc,bc,trivial⟩,cci hh.1.symm,trivial⟩)
  ·
   have h1:=of_decide_eq_false r1
   try simp only [ty] at h1
   refine aa ?_;refine sx7 ?_;refine qy ?_;refine s9 ?_;refine qy ?_;refine a6 ?_;refine aw ?_;refine ⟨.inr rfl, ?_⟩
   have hh:=awi h0 (by omega)
   exact f9 rfl rfl (⟨by rw [hh.2];exact CoC.agg ⟨CoP.refl _,sv,bc,trivial⟩,cci hh.1.symm,trivial⟩)
theorem as7:ai Tryz.prog 56:=⟨Tryz.f56,Tryz.func56,by kernel_rfl,by kernel_rfl⟩
theorem aue (t:Tbl) (r:Row):al Tryz.prog 56 [t.pc,r.pc] (az [(l3 t r).pc,pI (dh t r)]):=by
 refine ag (nt:=24) ae Tryz.func56 rfl rfl l9 ?_;refine sx7 ?_;refine m9 0 ?_;refine m9 1 ?_;refine m9 2 ?_;refine qy ?_;refine a6 ?_;refine sx7 ?_;(iterate 2 refine qy ?_)
 refine rc rfl rfl rfl rfl rfl rfl aqo (c61 t r) (CoL.refl _) rfl rfl ?_;(iterate 3 refine qy ?_);refine m9 3 ?_;refine s9 ?_;refine qy ?_;refine a6 ?_;refine a7 ?_;refine sx7 ?_;(iterate 2 refine qy ?_)
 refine a6 ?_;refine a8 _ rfl (fun r0=>?_) (fun r0=>?_)
 ·
  have h0:=r0
  have h0:=of_decide_eq_false (b8 h0)
  try simp only [ty] at h0
  refine sx7 ?_;(iterate 2 refine qy ?_);refine s9 ?_;refine qy ?_;refine a6 ?_
  exact hx8 rfl rfl rfl (⟨CoC.of_eq (by unfold l3;rw [if_pos (by assumption)]),cci (by unfold dh;rw [if_pos (by assumption)]),trivial⟩)
 ·
  have h0:=r0
  have h0:=of_decide_eq_true (b9 h0)
  try simp only [ty] at h0
  refine aa ?_;refine a7 ?_;refine sx7 ?_;(iterate 4 refine qy ?_);refine a6 ?_;refine a8 _ rfl (fun r1=>?_) (fun r1=>?_)
  ·
   have h1:=of_decide_eq_true r1
   try simp only [ty] at h1
   refine sx7 ?_;refine qy ?_;refine s9 ?_;refine qy ?_;refine a6 ?_
   exact hx8 rfl rfl rfl (⟨CoC.of_eq (by unfold l3;rw [if_neg (by simpa using h0),if_pos (by omega)]),cci (by unfold dh;rw [if_neg (by simpa using h0),if_pos (by omega)]),trivial⟩)
  ·
   have h1:=of_decide_eq_false r1
   try simp only [ty] at h1
   refine aa ?_;refine sx7 ?_;refine qy ?_;refine s9 ?_;refine qy ?_;refine a6 ?_
   exact hx8 rfl rfl rfl (⟨CoC.of_eq (by unfold l3;rw [if_neg (by simpa using h0),if_neg (by omega)]),cci (by unfold dh;rw [if_neg (by simpa using h0),if_neg (by omega)]),trivial⟩)
theorem aci:ai Tryz.prog 32:=⟨Tryz.f32,Tryz.func32,by kernel_rfl,by kernel_rfl⟩
theorem abz (n:Nat) (o:MOp) (hn:n ≤ 16):al Tryz.prog 32 [pI n,o.pc] (az [(ja n o).pc]):=by
 refine ag (nt:=46) ae Tryz.func32 rfl rfl l9 ?_;refine sx7 ?_;refine m9 0 ?_;refine m9 1 ?_;refine a6 ?_;refine sx7 ?_;(iterate 5 refine qy ?_);refine m9 2 ?_;refine s9 ?_;refine a6 ?_
 refine a7 ?_;refine sx7 ?_;refine qy ?_;refine a6 ?_;refine af ?_
 refine ez 2 1 9 true 3 81 (lf Val.c (fb o.codes n)) (by decide) rfl rfl (CoP.sl rfl (.inr rfl) (fun h=>h) (fun i j hi _=>absurd hi (Nat.not_lt_zero i))) (.inr rfl) rfl rfl ?_
 refine av (ι:=Nat) ⟨[(0,some _),(3,some _),(4,some _),(5,some _)],[(0,some _),(1,some _)]⟩ ⟨⟨c9,c9,c9,c9,trivial⟩,⟨u9,u9,trivial⟩⟩ (fun k=>⟨[(6,some (vI k))],[(2,some (.box [.p (.raw (.int .i64 (dv o))), .ref 9 k])),(9,some (.arr true 3 81 k (lf Val.c (fb o.codes n))))]⟩) (fun k=>k ≤ n) (fun k=>n - k) (0) (Nat.zero_le _) ⟨⟨zy,trivial⟩,⟨u9,u9,trivial⟩⟩ ?_
 rintro k hk
 refine a7 ?_;refine sx7 ?_;(iterate 3 refine qy ?_);refine a6 ?_;refine a8 _ rfl (fun r0=>?_) (fun r0=>?_)
 ·
  have h0:=of_decide_eq_true r0
  try simp only [ty] at h0
  refine aa ?_;refine a7 ?_;refine af ?_;refine sx7 ?_;refine qy ?_;refine a6 ?_;refine a7 ?_;refine sx7 ?_;(iterate 5 refine qy ?_);refine a6 ?_
  refine a8 _ rfl (fun r1=>?_) (fun r1=>?_)
  ·
   have h1:=of_decide_eq_true r1
   try simp only [ty] at h1
   refine gy ?_;(iterate 6 refine qy ?_);refine a6 ?_;refine ay (E:=b5) ae ak [0,1,2,3,4,5,6,7] ?_;(iterate 3 refine qy ?_)
   refine rc rfl rfl rfl rfl rfl rfl wt (c49 _ (by omega)) (CoL.refl _) rfl rfl ?_;refine m9 3 ?_;refine ra 4 true rfl rfl rfl rfl rfl rfl ?_;refine qy ?_;refine s9 ?_;refine a6 ?_;refine ⟨by kernel_rfl, ?_⟩
   refine gy ?_;(iterate 3 refine qy ?_);refine a6 ?_;refine ⟨k + 1, ?_, ?_, ?_⟩
   · show k + 1 ≤ _
     omega
   · first | omega | (dsimp only;omega)
   · exact ⟨⟨zy,c9,c9,c9,c9,trivial⟩,⟨u9,⟨_,rfl,(iu (fun h=>h) (by first | (intro j hj;rw [qx (by omega)];revert j;exact lt3 (CoP.refl _) (CoP.refl _) (CoP.refl _)) | (intro j hj;rw [qx (by omega),a1k (by omega)];revert j;exact lt3 (CoP.refl _) (CoP.refl _) (CoP.refl _))))⟩,u9,u9,trivial⟩⟩
  ·
   have h1:=of_decide_eq_false r1
   try simp only [ty] at h1
   refine aa ?_;refine ay (E:=b5) ae ak [0,1,2,3,4,5,6,7] ?_;(iterate 3 refine qy ?_);refine rc rfl rfl rfl rfl rfl rfl wt (c49 _ (by omega)) (CoL.refl _) rfl rfl ?_;refine m9 5 ?_
   refine ra 6 true rfl rfl rfl rfl rfl rfl ?_;refine qy ?_;refine s9 ?_;refine a6 ?_;refine ⟨by kernel_rfl, ?_⟩;refine gy ?_;(iterate 3 refine qy ?_);refine a6 ?_;refine ⟨k + 1, ?_, ?_, ?_⟩
   · show k + 1 ≤ _
     omega
   · first | omega | (dsimp only;omega)
   · exact ⟨⟨zy,c9,c9,c9,c9,trivial⟩,⟨u9,⟨_,rfl,(iu (fun h=>h) (by first | (intro j hj;rw [qx (by omega)];revert j;exact lt3 (CoP.refl _) (CoP.refl _) (CoP.refl _)) | (intro j hj;rw [qx (by omega),a1k (by omega)];revert j;exact lt3 (CoP.refl _) (CoP.refl _) (CoP.refl _))))⟩,u9,u9,trivial⟩⟩
 ·
  have h0:=of_decide_eq_false r0
  try simp only [ty] at h0
  obtain rfl:n = k:=by omega
  refine aq ?_;refine a7 ?_;refine sx7 ?_;(iterate 4 refine qy ?_);refine a6 ?_;refine a8 _ rfl (fun r2=>?_) (fun r2=>?_)
  ·
   have h2:=of_decide_eq_true r2
   try simp only [ty] at h2
   refine gy ?_;(iterate 3 refine qy ?_);refine m9 7 ?_;refine ra 8 true rfl rfl rfl rfl rfl rfl ?_;refine qy ?_;refine s9 ?_;refine a6 ?_;refine sx7 ?_;refine qy ?_;refine s9 ?_;refine a6 ?_
   exact hx8 rfl rfl rfl (⟨CoC.agg ⟨CoP.refl _,by first | (rw [show (ja n o).c 1 = vals (fb o.codes n ++ [V0]) from by unfold ja ach;rw [if_pos (by omega)];rfl];exact aed x6.symm rfl (fun _ _ _ _=>CoP.refl _) (ajx (lt3 (CoP.refl _) (CoP.refl _) (CoP.refl _)))) | (rw [show (ja n o).c 1 = vals (fb o.codes n) from by unfold ja ach;rw [if_neg (by omega)];rfl];exact CoP.sl x6 (.inl rfl) (fun h=>h) (fun _ _ _ _=>CoP.refl _)),trivial⟩,trivial⟩)
  ·
   have h2:=of_decide_eq_false r2
   try simp only [ty] at h2
   refine aa ?_;refine sx7 ?_;refine qy ?_;refine s9 ?_;refine a6 ?_
   exact hx8 rfl rfl rfl (⟨CoC.agg ⟨CoP.refl _,by first | (rw [show (ja n o).c 1 = vals (fb o.codes n ++ [V0]) from by unfold ja ach;rw [if_pos (by omega)];rfl];exact aed x6.symm rfl (fun _ _ _ _=>CoP.refl _) (ajx (lt3 (CoP.refl _) (CoP.refl _) (CoP.refl _)))) | (rw [show (ja n o).c 1 = vals (fb o.codes n) from by unfold ja ach;rw [if_neg (by omega)];rfl];exact CoP.sl x6 (.inl rfl) (fun h=>h) (fun _ _ _ _=>CoP.refl _)),trivial⟩,trivial⟩)
theorem a5m:ai Tryz.prog 34:=⟨Tryz.f34,Tryz.func34,by kernel_rfl,by kernel_rfl⟩
theorem a1f (n:Nat) (o:MOp) (hn:n ≤ 16):al Tryz.prog 34 [pI n,o.pc] (az [.agg [.raw (.int .i64 (dv o)), .raw (.int .i64 (ge n o))],(gj o).pc]):=by
 refine ag (nt:=29) ae Tryz.func34 rfl rfl l9 ?_
 have hat:=o.attr.toNat_lt
 refine sx7 ?_;refine m9 0 ?_;refine m9 1 ?_;refine m9 2 ?_;refine a6 ?_;refine sx7 ?_;refine qy ?_;refine m9 3 ?_;refine s9 ?_;refine a6 ?_;refine a7 ?_;refine sx7 ?_;(iterate 4 refine qy ?_)
 refine a6 ?_;refine a8 _ rfl (fun r0=>?_) (fun r0=>?_)
 ·
  have h0:=of_decide_eq_true r0
  try simp only [ty] at h0
  refine gy ?_;(iterate 4 refine qy ?_);refine rc rfl rfl rfl rfl rfl rfl wt (c49 _ (by omega)) (CoL.refl _) rfl rfl ?_;refine s9 ?_;refine a6 ?_;refine a7 ?_
  refine ay (E:=b5) ae ak [0,1,2,3,4,5,6,7,8,9,10,11,12,13] ?_;(iterate 12 refine qy ?_);(iterate 2 refine s9 ?_);refine a6 ?_;refine ⟨by kernel_rfl, ?_⟩
  exact hx8 rfl rfl rfl (⟨CoC.refl _,CoC.of_eq (by unfold gj;first | (rw [if_pos (by omega)];rfl) | (rw [if_neg (by omega)];rfl)),trivial⟩)
 ·
  have h0:=of_decide_eq_false r0
  try simp only [ty] at h0
  refine aa ?_;refine a7 ?_;refine ay (E:=b5) ae ak [0,1,2,3,4,5,6,7,8,9,10,11,12,13] ?_;(iterate 12 refine qy ?_);(iterate 2 refine s9 ?_);refine a6 ?_
  refine ⟨by kernel_rfl, ?_⟩
  exact hx8 rfl rfl rfl (⟨CoC.refl _,CoC.of_eq (by unfold gj;first | (rw [if_pos (by omega)];rfl) | (rw [if_neg (by omega)];rfl)),trivial⟩)
end Go.Hx
end

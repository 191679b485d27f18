/- A part of the proof: Mw0 Mw1 Mw2. -/
import Derived.Test.YtaegkccfbmekbaaGreatNq20
import Derived.Test.YtaegkccfbmekbaaGreatNq21
import Derived.Test.YtaegkccfbmekbaaGreatNq22
import Derived.Test.YtaegkccfbmekbaaGreatNq31
set_option linter.all false
section
namespace Go.Hx
open Go.Proofs
set_option maxRecDepth 100000
set_option maxHeartbeats 1000000
theorem at0 {a b:List AS} (hl:a.length = b.length) (h:∀ j,j < a.length → a.getD j default = b.getD j default):a = b:=by
 apply List.ext_getElem hl
 intro i h1 h2
 have:=h i h1
 rw [List.getD_eq_getElem?_getD,List.getD_eq_getElem?_getD,List.getElem?_eq_getElem h1,List.getElem?_eq_getElem h2] at this
 simpa using this
theorem ajb:aj Tryz.prog 88:=⟨Tryz.f88,Tryz.func88,by kernel_rfl,by kernel_rfl⟩
theorem a7v (l:List AS) (hl:l.length ≤ 8589934592):ap Tryz.prog 88 [pP (asl l)] (b4 [pP (asl (tq l))]):=by
 refine ah (nt:=49) ae Tryz.func88 rfl rfl l9 ?_;refine sx7 ?_;refine qy ?_;refine a6 ?_;refine sx7 ?_;refine qy ?_;refine a6 ?_;refine sx7 ?_;refine qy ?_
 refine rc rfl rfl rfl rfl rfl rfl agu (adl l hl) (CoL.refl _) rfl rfl ?_;refine qy ?_;refine a6 ?_;refine a7 ?_;refine sx7 ?_;refine qy ?_;refine a6 ?_;refine af ?_
 have hol:=t6 l
 refine dw 3 900 true 1 69 (lf sC []) (by decide) rfl (CoP.sl rfl (.inr rfl) (fun h=>h) (fun i j hi _=>absurd hi (Nat.not_lt_zero i))) (.inr rfl) rfl ?_
 refine av (ι:=Nat) ⟨[(4,some _)],[]⟩ ⟨⟨c9,trivial⟩,trivial⟩ (fun i=>⟨[(3,some (.v (.one (.ref 900 (mf l i).length)))),(5,some (vI i))],[(900,some (.arr true 1 69 (mf l i).length (lf sC (mf l i))))]⟩) (fun i=>i ≤ (ord l).length) (fun i=>(ord l).length - i) (0) (Nat.zero_le _) ⟨⟨zy,zy,trivial⟩,⟨u9,trivial⟩⟩ ?_
 rintro i hi
 have hlen:=aiz l i
 refine a7 ?_;refine sx7 ?_;(iterate 4 refine qy ?_);refine a6 ?_;refine a8 _ rfl (fun r0=>?_) (fun r0=>?_)
 ·
  have h0:=of_decide_eq_true r0
  try simp only [ty] at h0
  refine aa ?_;refine a7 ?_;refine af ?_;refine sx7 ?_;refine qy ?_;refine a6 ?_;refine a7 ?_;refine sx7 ?_;refine qy ?_;refine a6 ?_;refine af ?_
  refine av (ι:=Nat) ⟨[(3,some _),(4,some _),(5,some _)],[(900,some _)]⟩ ⟨⟨c9,c9,c9,trivial⟩,⟨u9,trivial⟩⟩ (fun k=>⟨[(6,some (vB (okM (ord l) i k))),(7,some (vI k))],[]⟩) (fun k=>k ≤ (ord l).length) (fun k=>(ord l).length - k) (0) (Nat.zero_le _) ⟨⟨⟨_,rfl,(cob rfl)⟩,zy,trivial⟩,trivial⟩ ?_
  rintro k hk
  refine a7 ?_;refine sx7 ?_;(iterate 4 refine qy ?_);refine a6 ?_;refine a8 _ rfl (fun r1=>?_) (fun r1=>?_)
  ·
   have h1:=of_decide_eq_true r1
   try simp only [ty] at h1
   refine aa ?_;refine a7 ?_;refine af ?_;refine ax (E:=aq) ae ak [0,1,2,3,4,5,6,7,8,9,10,11,12,13,14,15,16,17,18] ?_;(iterate 2 refine qy ?_)
   refine b5 rfl rfl (fun r2=>?_) (fun r2=>?_)
   ·
    have h2:=r2
    (iterate 4 refine qy ?_ (hg:=(gtt r2)));refine b5 rfl rfl (fun r3=>?_) (fun r3=>?_)
    ·
     have h3:=of_decide_eq_true r3
     try simp only [ty] at h3
     (iterate 10 refine k9 (gtf r3) ?_);refine rq rfl rfl rfl rfl (gtt r2) ?_ (hp:=r3);(iterate 2 refine qy ?_);refine a6 ?_;refine ⟨by kernel_rfl, ?_⟩;refine gy ?_;(iterate 3 refine qy ?_);refine a6 ?_
     refine ⟨k + 1, ?_, ?_, ?_⟩
     · show k + 1 ≤ _;omega
     · first | omega | (dsimp only;omega)
     · exact ⟨⟨⟨_,rfl,(cob (by rw [okM_succ'];simp_all only [tg];simp))⟩,zy,c9,c9,c9,trivial⟩,⟨u9,trivial⟩⟩
    ·
     have h3:=of_decide_eq_false r3
     try simp only [ty] at h3
     (iterate 8 refine qy ?_ (hg:=(gff r3)));refine rc rfl rfl rfl rfl rfl rfl ao3 (auc _ _) (CoL.refl _) rfl (gff r3) ?_;refine qy ?_ (hg:=(gff r3));refine qy ?_ (hg:=(gtt r2));(iterate 2 refine qy ?_)
     refine a6 ?_;refine ⟨by kernel_rfl, ?_⟩;refine gy ?_;(iterate 3 refine qy ?_);refine a6 ?_;refine ⟨k + 1, ?_, ?_, ?_⟩
     · show k + 1 ≤ _;omega
     · first | omega | (dsimp only;omega)
     · exact ⟨⟨⟨_,rfl,(cob (by rw [okM_succ'];simp_all only [tg];simp))⟩,zy,c9,c9,c9,trivial⟩,⟨u9,trivial⟩⟩
   ·
    have h2:=r2
    (iterate 4 refine k9 (gft r2) ?_);(iterate 10 refine k9 rfl ?_);refine k9 (gft r2) ?_;refine rq rfl rfl rfl rfl rfl ?_ (hp:=r2);refine qy ?_;refine a6 ?_;refine ⟨by kernel_rfl, ?_⟩;refine gy ?_
    (iterate 3 refine qy ?_);refine a6 ?_;refine ⟨k + 1, ?_, ?_, ?_⟩
    · show k + 1 ≤ _;omega
    · first | omega | (dsimp only;omega)
    · exact ⟨⟨⟨_,rfl,(cob (by rw [okM_succ'];simp_all only [tg];simp))⟩,zy,c9,c9,c9,trivial⟩,⟨u9,trivial⟩⟩
  ·
   have h1:=of_decide_eq_false r1
   try simp only [ty] at h1
   obtain rfl:k = (ord l).length:=by omega
   refine au ?_;refine sx7 ?_;refine qy ?_;refine a6 ?_;refine a8 _ rfl (fun r4=>?_) (fun r4=>?_)
   ·
    have h4:=r4
    refine gy ?_;(iterate 5 refine qy ?_);refine m9 0 ?_;refine ra 1 true rfl rfl rfl rfl rfl rfl ?_;refine qy ?_;refine a6 ?_;refine gy ?_;(iterate 3 refine qy ?_);refine a6 ?_
    first | (refine ⟨i + 1, ?_, ?_, ?_⟩
             · show i + 1 ≤ _;omega
             · first | omega | (dsimp only;omega)
             · exact ⟨⟨⟨_,rfl,(df (a13 (by omega) (by assumption)))⟩,zy,c9,trivial⟩,⟨⟨_,rfl,(dx (a13 (by omega) (by assumption)) (CoP.refl _))⟩,trivial⟩⟩)
          | (refine ⟨i + 1, ?_, ?_, ?_⟩
             · show i + 1 ≤ _;omega
             · first | omega | (dsimp only;omega)
             · exact ⟨⟨⟨_,rfl,(d5 (a1l (by omega) (by assumption)))⟩,zy,c9,trivial⟩,⟨⟨_,rfl,(ci (a1l (by omega) (by assumption)))⟩,trivial⟩⟩)
   ·
    have h4:=r4
    refine aa ?_;refine gy ?_;(iterate 3 refine qy ?_);refine a6 ?_
    first | (refine ⟨i + 1, ?_, ?_, ?_⟩
             · show i + 1 ≤ _;omega
             · first | omega | (dsimp only;omega)
             · exact ⟨⟨⟨_,rfl,(df (a13 (by omega) (by assumption)))⟩,zy,c9,trivial⟩,⟨⟨_,rfl,(dx (a13 (by omega) (by assumption)) (CoP.refl _))⟩,trivial⟩⟩)
          | (refine ⟨i + 1, ?_, ?_, ?_⟩
             · show i + 1 ≤ _;omega
             · first | omega | (dsimp only;omega)
             · exact ⟨⟨⟨_,rfl,(d5 (a1l (by omega) (by assumption)))⟩,zy,c9,trivial⟩,⟨⟨_,rfl,(ci (a1l (by omega) (by assumption)))⟩,trivial⟩⟩)
 ·
  have h0:=of_decide_eq_false r0
  try simp only [ty] at h0
  obtain rfl:i = (ord l).length:=by omega
  refine au ?_;refine sx7 ?_;(iterate 2 refine qy ?_);refine a6 ?_;refine dn 2 rfl rfl rfl ?_
  exact hx8 rfl rfl rfl (⟨CoC.one (CoP.of_eq (by rw [← ago];rfl)),trivial⟩)
theorem a9c:aj Tryz.prog 40:=⟨Tryz.f40,Tryz.func40,by kernel_rfl,by kernel_rfl⟩
theorem ak1 (a b:List AS):ap Tryz.prog 40 [pP (asl a),pP (asl b)] (b4 [pB (decide (a = b))]):=by
 refine ah (nt:=26) ae Tryz.func40 rfl rfl l9 ?_;refine sx7 ?_;refine qy ?_;refine a6 ?_;(iterate 2 refine a7 ?_)
 refine j0 0 rfl fun hn0=>?_
 refine j0 1 rfl fun hn1=>?_
 refine gy ?_;(iterate 5 refine qy ?_);refine a6 ?_;refine a8 _ rfl (fun r0=>?_) (fun r0=>?_)
 ·
  have h0:=r0
  have h0:=of_decide_eq_false (be h0)
  try simp only [ty] at h0
  refine sx7 ?_;refine qy ?_;refine a6 ?_
  exact hx8 rfl rfl rfl (⟨ccb (decide_eq_false fun e=>by subst e;omega).symm,trivial⟩)
 ·
  have h0:=r0
  have h0:=of_decide_eq_true (bf h0)
  try simp only [ty] at h0
  refine aa ?_;refine a7 ?_;refine sx7 ?_;(iterate 3 refine qy ?_);refine a6 ?_;refine af ?_
  refine av (ι:=Nat) ⟨[(0,some _),(1,some _),(12,some _)],[]⟩ ⟨⟨c9,c9,c9,trivial⟩,trivial⟩ (fun i=>⟨[(13,some (vI i))],[]⟩) (fun i=>i ≤ a.length ∧ ∀ j,j < i → a.getD j default = b.getD j default) (fun i=>a.length - i) (0) (⟨Nat.zero_le _,fun j hj=>absurd hj (Nat.not_lt_zero j)⟩) ⟨⟨⟨_,rfl,(CoR.refl _)⟩,trivial⟩,trivial⟩ ?_
  rintro i ⟨hi,hI⟩
  refine sx7 ?_;refine qy ?_;refine a6 ?_;refine a7 ?_;refine a8 _ rfl (fun r1=>?_) (fun r1=>?_)
  ·
   have h1:=of_decide_eq_true r1
   try simp only [ty] at h1
   refine aa ?_;refine a7 ?_;refine af ?_;refine sx7 ?_;(iterate 2 refine qy ?_);refine a6 ?_;refine a7 ?_;refine ax (E:=aq) ae ak [0,1,2,3,4,5,6,7,8] ?_
   (iterate 9 refine qy ?_);refine a6 ?_;refine ⟨by kernel_rfl, ?_⟩;refine a8 _ rfl (fun r2=>?_) (fun r2=>?_)
   ·
    have h2:=r2
    have h2:=of_decide_eq_false (be h2)
    try simp only [ty] at h2
    refine sx7 ?_;refine qy ?_;refine a6 ?_
    exact hx8 rfl rfl rfl (⟨ccb (decide_eq_false fun e=>by subst e;exact absurd rfl (by assumption:¬ asI _ = asI _)).symm,trivial⟩)
   ·
    have h2:=r2
    have h2:=of_decide_eq_true (bf h2)
    try simp only [ty] at h2
    refine aa ?_;refine gy ?_;(iterate 2 refine qy ?_);refine a6 ?_;refine ⟨i + 1, ?_, ?_, ?_⟩
    · refine ⟨by omega,fun j hj=>?_⟩
      by_cases e:j = i
      · subst e;exact im.1 (by assumption)
      · exact hI j (by omega)
    · first | omega | (dsimp only;omega)
    · exact ⟨⟨⟨_,rfl,(CoR.refl _)⟩,c9,c9,c9,trivial⟩,trivial⟩
  ·
   have h1:=of_decide_eq_false r1
   try simp only [ty] at h1
   obtain rfl:i = a.length:=by omega
   refine au ?_;refine sx7 ?_;refine qy ?_;refine a6 ?_
   exact hx8 rfl rfl rfl (⟨ccb (decide_eq_true (at0 (by omega) hI)).symm,trivial⟩)
end Go.Hx
end
section
namespace Go.Hx
open Go.Proofs
set_option maxRecDepth 100000
set_option maxHeartbeats 1000000
theorem as6:aj Tryz.prog 81:=⟨Tryz.f81,Tryz.func81,by kernel_rfl,by kernel_rfl⟩
theorem aqr (t:Tbl):ap Tryz.prog 81 [t.pc] (b4 [pI (qe t)]):=by
 refine ah (nt:=13) ae Tryz.func81 rfl rfl l9 ?_;refine sx7 ?_;refine m9 0 ?_;refine qy ?_;refine a6 ?_;refine a7 ?_;refine sx7 ?_;refine qy ?_
 refine rc rfl rfl rfl rfl rfl rfl x7 (c82 t) (CoL.refl _) rfl rfl ?_;refine qy ?_;refine a6 ?_;refine sx7 ?_;(iterate 2 refine qy ?_);refine a6 ?_;refine a8 _ rfl (fun r0=>?_) (fun r0=>?_)
 ·
  have h0:=r0
  have h0:=of_decide_eq_false (be h0)
  try simp only [ty] at h0
  refine sx7 ?_;(iterate 2 refine qy ?_);refine a6 ?_
  exact hx8 rfl rfl rfl (⟨cci (by unfold qe;simp [*] <;> omega),trivial⟩)
 ·
  have h0:=r0
  have h0:=of_decide_eq_true (bf h0)
  try simp only [ty] at h0
  refine aa ?_;refine a7 ?_;refine sx7 ?_;(iterate 4 refine qy ?_);refine a6 ?_;refine a8 _ rfl (fun r1=>?_) (fun r1=>?_)
  ·
   have h1:=of_decide_eq_true r1
   try simp only [ty] at h1
   refine sx7 ?_;refine qy ?_;refine a6 ?_
   exact hx8 rfl rfl rfl (⟨cci (by unfold qe;simp [*] <;> omega),trivial⟩)
  ·
   have h1:=of_decide_eq_false r1
   try simp only [ty] at h1
   refine aa ?_;refine sx7 ?_;refine qy ?_;refine a6 ?_
   exact hx8 rfl rfl rfl (⟨cci (by unfold qe;simp [*] <;> omega),trivial⟩)
theorem agb:aj Tryz.prog 99:=⟨Tryz.f99,Tryz.func99,by kernel_rfl,by kernel_rfl⟩
theorem ahg (t:Tbl):ap Tryz.prog 99 [t.pc] (b4 [pI (n4 t)]):=by
 refine ah (nt:=19) ae Tryz.func99 rfl rfl l9 ?_;refine sx7 ?_;refine m9 0 ?_;refine qy ?_;refine a6 ?_;refine a7 ?_;refine sx7 ?_;refine qy ?_
 refine rc rfl rfl rfl rfl rfl rfl x7 (c82 t) (CoL.refl _) rfl rfl ?_;refine qy ?_;refine a6 ?_;refine sx7 ?_;(iterate 2 refine qy ?_);refine a6 ?_;refine a8 _ rfl (fun r0=>?_) (fun r0=>?_)
 ·
  have h0:=r0
  have h0:=of_decide_eq_false (be h0)
  try simp only [ty] at h0
  refine sx7 ?_;(iterate 2 refine qy ?_);refine a6 ?_
  exact hx8 rfl rfl rfl (⟨cci (by unfold n4;simp [*] <;> omega),trivial⟩)
 ·
  have h0:=r0
  have h0:=of_decide_eq_true (bf h0)
  try simp only [ty] at h0
  refine aa ?_;refine a7 ?_;refine sx7 ?_;(iterate 5 refine qy ?_);refine b5 rfl rfl (fun r1=>?_) (fun r1=>?_)
  ·
   have h1:=of_decide_eq_true r1
   try simp only [ty] at h1
   (iterate 4 refine k9 (gtf r1) ?_);refine rq rfl rfl rfl rfl rfl ?_ (hp:=r1);refine a6 ?_;refine a8 _ rfl (fun _=>?_) (fun e=>by cases e);refine sx7 ?_;refine qy ?_;refine a6 ?_
   exact hx8 rfl rfl rfl (⟨cci (by unfold n4;simp [*] <;> omega),trivial⟩)
  ·
   have h1:=of_decide_eq_false r1
   try simp only [ty] at h1
   (iterate 4 refine qy ?_ (hg:=(gff r1)));refine qy ?_;refine a6 ?_;refine a8 _ rfl (fun r2=>?_) (fun r2=>?_)
   ·
    have h2:=r2
    have h2:=bv r1 h2
    have h2:=of_decide_eq_true h2
    try simp only [ty] at h2
    refine sx7 ?_;refine qy ?_;refine a6 ?_
    exact hx8 rfl rfl rfl (⟨cci (by unfold n4;simp [*] <;> omega),trivial⟩)
   ·
    have h2:=r2
    have h2:=bv r1 h2
    have h2:=of_decide_eq_false h2
    try simp only [ty] at h2
    refine aa ?_;refine sx7 ?_;refine qy ?_;refine a6 ?_
    exact hx8 rfl rfl rfl (⟨cci (by unfold n4;simp [*] <;> omega),trivial⟩)
theorem ani:aj Tryz.prog 117:=⟨Tryz.f117,Tryz.func117,by kernel_rfl,by kernel_rfl⟩
theorem apg (a b:Row) (hab:b.vals.length = a.vals.length) (hn:a.vals.length ≤ 16) (ra:a.ok) (rb:b.ok):ap Tryz.prog 117 [a.pc,b.pc] (b4 [pA (agR a b)]):=by
 refine ah (nt:=38) ae Tryz.func117 rfl rfl l9 ?_;refine sx7 ?_;refine m9 0 ?_;refine m9 1 ?_;refine qy ?_;refine a6 ?_;refine sx7 ?_;refine qy ?_;refine a6 ?_;refine a7 ?_;refine sx7 ?_
 refine qy ?_;refine a6 ?_;refine af ?_
 refine av (ι:=Nat) ⟨[(2,some _),(3,some _)],[(0,some _),(1,some _)]⟩ ⟨⟨c9,c9,trivial⟩,⟨u9,u9,trivial⟩⟩ (fun i=>⟨[(5,some (vA (agT a b i))),(6,some (vI i))],[]⟩) (fun i=>i ≤ a.vals.length) (fun i=>a.vals.length - i) (0) (Nat.zero_le _) ⟨⟨zy,zy,trivial⟩,trivial⟩ ?_
 rintro i hi
 refine a7 ?_;refine sx7 ?_;(iterate 6 refine qy ?_);refine b5 rfl rfl (fun r0=>?_) (fun r0=>?_)
 ·
  have h0:=of_decide_eq_true r0
  try simp only [ty] at h0
  (iterate 5 refine qy ?_ (hg:=(gtt r0)));refine qy ?_;refine a6 ?_;refine a8 _ rfl (fun r1=>?_) (fun r1=>?_)
  ·
   have h1:=r1
   have h1:=d4 r0 h1
   have h1:=of_decide_eq_true h1
   try simp only [ty] at h1
   refine aa ?_;refine a7 ?_;refine af ?_;refine a7 ?_;refine ax (E:=aq) ae ak [0,1,2,3,4,5,6,7,8,9,10,11] ?_;(iterate 10 refine qy ?_)
   refine rc rfl rfl rfl rfl rfl rfl adq (ar3 _ _ (ra.2 i (by omega)) (rb.2 i (by omega))) (CoL.refl _) rfl rfl ?_;refine qy ?_;refine a6 ?_;refine ⟨by kernel_rfl, ?_⟩
   refine a8 _ rfl (fun r2=>?_) (fun r2=>?_)
   ·
    have h2:=of_decide_eq_true r2
    try simp only [ty] at h2
    refine gy ?_;(iterate 5 refine qy ?_);refine a6 ?_;refine gy ?_;(iterate 3 refine qy ?_);refine a6 ?_
    first | (refine ⟨i + 1, ?_, ?_, ?_⟩
             · show i + 1 ≤ _;omega
             · first | omega | (dsimp only;omega)
             · exact ⟨⟨⟨_,rfl,(by simp only [Int.toNat_natCast];exact i6 (yh (by assumption)))⟩,zy,c9,c9,trivial⟩,⟨u9,u9,trivial⟩⟩)
          | (refine ⟨i + 1, ?_, ?_, ?_⟩
             · show i + 1 ≤ _;omega
             · first | omega | (dsimp only;omega)
             · exact ⟨⟨⟨_,rfl,(i6 (by rw [a8w (by assumption)]))⟩,zy,c9,c9,trivial⟩,⟨u9,u9,trivial⟩⟩)
   ·
    have h2:=of_decide_eq_false r2
    try simp only [ty] at h2
    refine aa ?_;refine gy ?_;(iterate 3 refine qy ?_);refine a6 ?_
    first | (refine ⟨i + 1, ?_, ?_, ?_⟩
             · show i + 1 ≤ _;omega
             · first | omega | (dsimp only;omega)
             · exact ⟨⟨⟨_,rfl,(by simp only [Int.toNat_natCast];exact i6 (yh (by assumption)))⟩,zy,c9,c9,trivial⟩,⟨u9,u9,trivial⟩⟩)
          | (refine ⟨i + 1, ?_, ?_, ?_⟩
             · show i + 1 ≤ _;omega
             · first | omega | (dsimp only;omega)
             · exact ⟨⟨⟨_,rfl,(i6 (by rw [a8w (by assumption)]))⟩,zy,c9,c9,trivial⟩,⟨u9,u9,trivial⟩⟩)
  ·
   have h1:=r1
   have h1:=d4 r0 h1
   have h1:=of_decide_eq_false h1
   try simp only [ty] at h1
   obtain rfl:i = a.vals.length:=by omega
   refine au ?_;refine sx7 ?_;(iterate 2 refine qy ?_);refine a6 ?_
   exact hx8 rfl rfl rfl (CoL.refl _)
 ·
  have h0:=of_decide_eq_false r0
  try simp only [ty] at h0
  obtain rfl:i = a.vals.length:=by omega
  (iterate 5 refine k9 (gft r0) ?_);refine rq rfl rfl rfl rfl rfl ?_ (hp:=r0);refine a6 ?_;refine a8 _ rfl (fun e=>by cases e) (fun _=>?_);refine au ?_;refine sx7 ?_;(iterate 2 refine qy ?_)
  refine a6 ?_
  exact hx8 rfl rfl rfl (CoL.refl _)
theorem ast:aj Tryz.prog 82:=⟨Tryz.f82,Tryz.func82,by kernel_rfl,by kernel_rfl⟩
theorem atg (t:Tbl) (ht:TOk t):ap Tryz.prog 82 [t.pc] (b4 [pP (asl (prs t.rows))]):=by
 refine ah (nt:=37) ae Tryz.func82 rfl rfl l9 ?_
 have hnr:=ht.nr
 have hna:=ht.na
 have hsq:t.rows.length * t.rows.length ≤ 1000000:=Nat.mul_le_mul hnr hnr
 refine sx7 ?_;refine m9 0 ?_;refine qy ?_;refine a6 ?_;refine sx7 ?_;refine qy ?_;refine a6 ?_;refine a7 ?_;refine sx7 ?_;refine qy ?_;refine a6 ?_;refine af ?_
 refine dw 3 900 true 1 69 (lf sC []) (by decide) rfl (CoP.sl rfl (.inr rfl) (fun h=>h) (fun i j hi _=>absurd hi (Nat.not_lt_zero i))) (.inr rfl) rfl ?_
 refine av (ι:=Nat) ⟨[(1,some _)],[(0,some _)]⟩ ⟨⟨c9,trivial⟩,⟨u9,trivial⟩⟩ (fun i=>⟨[(3,some (.v (.one (.ref 900 (l7 t.rows i (i + 1)).length)))),(4,some (vI i))],[(900,some (.arr true 1 69 (l7 t.rows i (i + 1)).length (lf sC (l7 t.rows i (i + 1)))))]⟩) (fun i=>i ≤ t.rows.length) (fun i=>t.rows.length - i) (0) (Nat.zero_le _) ⟨⟨⟨_,rfl,(d5 (a7q _))⟩,zy,trivial⟩,⟨⟨_,rfl,(ci (a7q _))⟩,trivial⟩⟩ ?_
 rintro i hi
 have hlen:=abm t.rows i (i + 1) hi
 refine a7 ?_;refine sx7 ?_;(iterate 5 refine qy ?_);refine a6 ?_;refine a8 _ rfl (fun r0=>?_) (fun r0=>?_)
 ·
  have h0:=of_decide_eq_true r0
  try simp only [ty] at h0
  refine aa ?_;refine a7 ?_;refine af ?_;refine sx7 ?_;(iterate 3 refine qy ?_);refine a6 ?_;refine af ?_
  refine av (ι:=Nat) ⟨[(1,some _),(4,some _)],[(0,some _)]⟩ ⟨⟨c9,c9,trivial⟩,⟨u9,trivial⟩⟩ (fun k=>⟨[(3,some (.v (.one (.ref 900 (l7 t.rows i k).length)))),(5,some (vI k))],[(900,some (.arr true 1 69 (l7 t.rows i k).length (lf sC (l7 t.rows i k))))]⟩) (fun k=>i + 1 ≤ k ∧ k ≤ t.rows.length) (fun k=>t.rows.length - k) (i + 1) (⟨Nat.le_refl _,by omega⟩) ⟨⟨zy,zy,trivial⟩,⟨u9,trivial⟩⟩ ?_
  rintro k ⟨hk1,hk2⟩
  have hlen2:=abm t.rows i k (by omega)
  refine a7 ?_;refine sx7 ?_;(iterate 5 refine qy ?_);refine a6 ?_;refine a8 _ rfl (fun r1=>?_) (fun r1=>?_)
  ·
   have h1:=of_decide_eq_true r1
   try simp only [ty] at h1
   refine aa ?_;refine a7 ?_;refine af ?_;refine ax (E:=aq) ae ak [0,1,2,3,4,5,6,7,8,9,10,11,12,13,14] ?_;(iterate 11 refine qy ?_)
   refine rc rfl rfl rfl rfl rfl rfl ani (apg (t.rows.getD i default) (t.rows.getD k default) (by rw [ht.width (by omega),ht.width (by omega)]) (by rw [ht.width (by omega)];omega) (ht.rows i (by omega)) (ht.rows k (by omega))) (CoL.refl _) rfl rfl ?_
   refine m9 1 ?_;refine ra 2 true rfl rfl rfl rfl rfl rfl ?_;refine qy ?_;refine a6 ?_;refine ⟨by kernel_rfl, ?_⟩;refine gy ?_;(iterate 3 refine qy ?_);refine a6 ?_;refine ⟨k + 1, ?_, ?_, ?_⟩
   · exact ⟨by omega,by omega⟩
   · first | omega | (dsimp only;omega)
   · exact ⟨⟨⟨_,rfl,(df (a8a (by omega) (by omega)))⟩,zy,c9,c9,trivial⟩,⟨⟨_,rfl,(dx (a8a (by omega) (by omega)) (CoP.refl _))⟩,u9,trivial⟩⟩
  ·
   have h1:=of_decide_eq_false r1
   try simp only [ty] at h1
   refine au ?_;refine gy ?_;(iterate 3 refine qy ?_);refine a6 ?_;refine ⟨i + 1, ?_, ?_, ?_⟩
   · show i + 1 ≤ _;omega
   · first | omega | (dsimp only;omega)
   · exact ⟨⟨⟨_,rfl,(d5 (a8j (by omega)).symm)⟩,zy,c9,trivial⟩,⟨⟨_,rfl,(ci (a8j (by omega)).symm)⟩,u9,trivial⟩⟩
 ·
  have h0:=of_decide_eq_false r0
  try simp only [ty] at h0
  obtain rfl:i = t.rows.length:=by omega
  refine au ?_;refine sx7 ?_;(iterate 2 refine qy ?_);refine a6 ?_;refine dn 2 rfl rfl rfl ?_
  exact hx8 rfl rfl rfl (⟨CoC.one (CoP.of_eq (by rw [alj];rfl)),trivial⟩)
theorem ate:aj Tryz.prog 45:=⟨Tryz.f45,Tryz.func45,by kernel_rfl,by kernel_rfl⟩
theorem aux (t:Tbl):ap Tryz.prog 45 [t.pc] (b4 [pP (a9a (a59 t)),pI (qe t)]):=by
 refine ah (nt:=53) ae Tryz.func45 rfl rfl l9 ?_;refine sx7 ?_;refine m9 0 ?_;(iterate 2 refine qy ?_);refine a6 ?_;refine a7 ?_;refine sx7 ?_;refine qy ?_
 refine rc rfl rfl rfl rfl rfl rfl as6 (aqr t) (CoL.refl _) rfl rfl ?_;refine qy ?_;refine a6 ?_;refine sx7 ?_;(iterate 2 refine qy ?_);refine a6 ?_;refine a8 _ rfl (fun r0=>?_) (fun r0=>?_)
 ·
  have h0:=r0
  have h0:=of_decide_eq_false (be h0)
  try simp only [ty] at h0
  refine sx7 ?_;(iterate 3 refine qy ?_);refine a6 ?_
  exact hx8 rfl rfl rfl (⟨CoC.one (by rw [show a59 t = [] from if_neg (by assumption)];exact bd),CoC.refl _,trivial⟩)
 ·
  have h0:=r0
  have h0:=of_decide_eq_true (bf h0)
  try simp only [ty] at h0
  obtain ⟨ht,h200⟩:=ak6 h0
  have hnr:=ht.nr
  have hna:=ht.na
  have hsq:t.rows.length * t.rows.length ≤ 1000000:=Nat.mul_le_mul hnr hnr
  have hpl:=a1m t.rows
  have hol:=t6 (prs t.rows)
  refine aa ?_;refine sx7 ?_;refine qy ?_;refine rc rfl rfl rfl rfl rfl rfl ast (atg t ht) (CoL.refl _) rfl rfl ?_;refine qy ?_;refine a6 ?_;refine sx7 ?_;refine qy ?_
  refine rc rfl rfl rfl rfl rfl rfl agu (adl (prs t.rows) (by omega)) (CoL.refl _) rfl rfl ?_;refine qy ?_;refine a6 ?_;refine sx7 ?_;refine qy ?_;refine a6 ?_;refine a7 ?_;refine sx7 ?_;refine qy ?_
  refine a6 ?_;refine af ?_;refine dw 7 900 true 2 119 (lf Cnt.c []) (by decide) rfl (CoP.sl rfl (.inr rfl) (fun h=>h) (fun i j hi _=>absurd hi (Nat.not_lt_zero i))) (.inr rfl) rfl ?_
  refine av (ι:=Nat) ⟨[(5,some _),(6,some _)],[]⟩ ⟨⟨c9,c9,trivial⟩,trivial⟩ (fun i=>⟨[(7,some (.v (.one (.ref 900 (qc t.rows i).length)))),(8,some (vI i))],[(900,some (.arr true 2 119 (qc t.rows i).length (lf Cnt.c (qc t.rows i))))]⟩) (fun i=>i ≤ (ord (prs t.rows)).length) (fun i=>(ord (prs t.rows)).length - i) (0) (Nat.zero_le _) ⟨⟨zy,zy,trivial⟩,⟨u9,trivial⟩⟩ ?_
  rintro i hi
  have hlen:=ah1 t.rows i
  refine a7 ?_;refine sx7 ?_;(iterate 4 refine qy ?_);refine a6 ?_;refine a8 _ rfl (fun r1=>?_) (fun r1=>?_)
  ·
   have h1:=of_decide_eq_true r1
   try simp only [ty] at h1
   refine aa ?_;refine a7 ?_;refine af ?_;refine sx7 ?_;refine qy ?_;refine a6 ?_;refine a7 ?_;refine sx7 ?_;refine qy ?_;refine a6 ?_;refine af ?_
   refine av (ι:=Nat) ⟨[(5,some _),(6,some _),(7,some _),(8,some _)],[(900,some _)]⟩ ⟨⟨c9,c9,c9,c9,trivial⟩,⟨u9,trivial⟩⟩ (fun k=>⟨[(9,some (vI ((tz (prs t.rows) ((ord (prs t.rows)).getD i default) k:Nat):Int))),(10,some (vI k))],[]⟩) (fun k=>k ≤ (prs t.rows).length) (fun k=>(prs t.rows).length - k) (0) (Nat.zero_le _) ⟨⟨zy,zy,trivial⟩,trivial⟩ ?_
   rintro k hk
   have hcl:=aph (prs t.rows) ((ord (prs t.rows)).getD i default) k
   refine a7 ?_;refine sx7 ?_;(iterate 4 refine qy ?_);refine a6 ?_;refine a8 _ rfl (fun r2=>?_) (fun r2=>?_)
   ·
    have h2:=of_decide_eq_true r2
    try simp only [ty] at h2
    refine aa ?_;refine a7 ?_;refine af ?_;refine a7 ?_;refine ax (E:=aq) ae ak [0,1,2,3,4,5,6,7,8] ?_;(iterate 9 refine qy ?_);refine a6 ?_;refine ⟨by kernel_rfl, ?_⟩
    refine a8 _ rfl (fun r3=>?_) (fun r3=>?_)
    ·
     have h3:=of_decide_eq_true r3
     try simp only [ty] at h3
     have g:(prs t.rows).getD k default = ((ord (prs t.rows)).getD i default):=im.1 h3
     have g2:=asy (by omega) g
     refine gy ?_;(iterate 3 refine qy ?_);refine a6 ?_;refine gy ?_;(iterate 3 refine qy ?_);refine a6 ?_;refine ⟨k + 1, ?_, ?_, ?_⟩
     · show k + 1 ≤ _;omega
     · first | omega | (dsimp only;omega)
     · exact ⟨⟨⟨_,rfl,(coi (by omega))⟩,zy,c9,c9,c9,c9,trivial⟩,⟨u9,trivial⟩⟩
    ·
     have h3:=of_decide_eq_false r3
     try simp only [ty] at h3
     have g:¬ (prs t.rows).getD k default = ((ord (prs t.rows)).getD i default):=fun e=>h3 (by rw [e])
     have g2:=at6 (by omega) g
     refine aa ?_;refine gy ?_;(iterate 3 refine qy ?_);refine a6 ?_;refine ⟨k + 1, ?_, ?_, ?_⟩
     · show k + 1 ≤ _;omega
     · first | omega | (dsimp only;omega)
     · exact ⟨⟨⟨_,rfl,(coi (by omega))⟩,zy,c9,c9,c9,c9,trivial⟩,⟨u9,trivial⟩⟩
   ·
    have h2:=of_decide_eq_false r2
    try simp only [ty] at h2
    obtain rfl:k = (prs t.rows).length:=by omega
    refine au ?_;refine gy ?_;(iterate 7 refine qy ?_);refine m9 1 ?_;refine ra 2 true rfl rfl rfl rfl rfl rfl ?_;refine qy ?_;refine a6 ?_;refine gy ?_;(iterate 3 refine qy ?_);refine a6 ?_
    refine ⟨i + 1, ?_, ?_, ?_⟩
    · show i + 1 ≤ _;omega
    · first | omega | (dsimp only;omega)
    · exact ⟨⟨⟨_,rfl,(df (a4g (by omega)))⟩,zy,c9,c9,trivial⟩,⟨⟨_,rfl,(ji (a4g (by omega)) (CoP.refl _) (CoP.of_eq (by rw [al3];rfl)))⟩,trivial⟩⟩
  ·
   have h1:=of_decide_eq_false r1
   try simp only [ty] at h1
   obtain rfl:i = (ord (prs t.rows)).length:=by omega
   refine au ?_;refine sx7 ?_;(iterate 3 refine qy ?_);refine a6 ?_;refine dn 2 rfl rfl rfl ?_
   exact hx8 rfl rfl rfl (⟨CoC.one (CoP.of_eq (by rw [ajn (Nat.le_refl _),show a59 t = gr t.rows from if_pos (by assumption)];rfl)),cci (by omega),trivial⟩)
theorem aqu:aj Tryz.prog 47:=⟨Tryz.f47,Tryz.func47,by kernel_rfl,by kernel_rfl⟩
theorem ao8 (a b:List Cnt):ap Tryz.prog 47 [pP (a9a a),pP (a9a b)] (b4 [pB (decide (a = b))]):=by
 refine ah (nt:=26) ae Tryz.func47 rfl rfl l9 ?_;refine a7 ?_
 refine j0 0 rfl fun hn=>?_
 refine gy ?_;refine qy ?_;refine a6 ?_;refine a7 ?_;refine sx7 ?_;(iterate 5 refine qy ?_);refine a6 ?_;refine a8 _ rfl (fun r0=>?_) (fun r0=>?_)
 ·
  have h0:=r0
  have h0:=of_decide_eq_false (be h0)
  try simp only [ty] at h0
  refine sx7 ?_;refine qy ?_;refine a6 ?_
  exact hx8 rfl rfl rfl (⟨ccb (decide_eq_false fun e=>by subst e;omega).symm,trivial⟩)
 ·
  have h0:=r0
  have h0:=of_decide_eq_true (bf h0)
  try simp only [ty] at h0
  refine aa ?_;refine db (ι:=Unit) ⟨[],[]⟩ ⟨trivial,trivial⟩ (fun _i=>⟨[],[]⟩) (fun _i=>a = b) ?_ ?_
  ·
   refine sx7 ?_;refine qy ?_;refine a6 ?_;refine af ?_
   refine av (ι:=Nat) ⟨[(0,some _),(1,some _)],[]⟩ ⟨⟨c9,c9,trivial⟩,trivial⟩ (fun i=>⟨[(5,some (vI i))],[]⟩) (fun i=>i ≤ a.length ∧ ∀ j,j < i → decide (a.getD j default = b.getD j default) = true) (fun i=>a.length - i) (0) (⟨Nat.zero_le _,dl⟩) ⟨⟨zy,trivial⟩,trivial⟩ ?_
   rintro i ⟨hi,hI⟩
   refine a7 ?_;refine sx7 ?_;(iterate 4 refine qy ?_);refine a6 ?_;refine a8 _ rfl (fun r1=>?_) (fun r1=>?_)
   ·
    have h1:=of_decide_eq_true r1
    try simp only [ty] at h1
    refine aa ?_;refine a7 ?_;refine af ?_;refine a7 ?_;refine ax (E:=aq) ae ak [0,1,2,3,4,5,6,7,8] ?_;(iterate 9 refine qy ?_);refine a6 ?_;refine ⟨by kernel_rfl, ?_⟩
    refine a8 _ rfl (fun r2=>?_) (fun r2=>?_)
    ·
     have h2:=r2
     refine sx7 ?_;refine qy ?_;refine a6 ?_
     exact hx8 rfl rfl rfl (⟨ccb (decide_eq_false fun e=>by subst e;simp_all).symm,trivial⟩)
    ·
     have h2:=r2
     refine aa ?_;refine gy ?_;(iterate 3 refine qy ?_);refine a6 ?_;refine ⟨i + 1, ?_, ?_, ?_⟩
     · exact ⟨by omega,da hI (decide_eq_true (by simp_all [Cnt.eq_iff,im]))⟩
     · first | omega | (dsimp only;omega)
     · exact ⟨⟨zy,c9,c9,trivial⟩,trivial⟩
   ·
    have h1:=of_decide_eq_false r1
    try simp only [ty] at h1
    refine au ?_;refine ⟨(), ?_, ?_⟩
    · exact a1p (by omega) fun j hj=>of_decide_eq_true (hI j (by omega))
    · exact ⟨trivial,trivial⟩
  · rintro _ hj
    refine sx7 ?_;refine qy ?_;refine a6 ?_
    exact hx8 rfl rfl rfl (⟨ccb (decide_eq_true hj).symm,trivial⟩)
theorem adg:aj Tryz.prog 150:=⟨Tryz.f150,Tryz.func150,by kernel_rfl,by kernel_rfl⟩
theorem amg (r:Row) (s:AS) (hr:r.vals.length ≤ 68719476736):ap Tryz.prog 150 [r.pc,pA s] (b4 [pP (vals (a2x r.vals s))]):=by
 refine ah (nt:=26) ae Tryz.func150 rfl rfl l9 ?_;refine sx7 ?_;refine m9 0 ?_;refine qy ?_;refine a6 ?_;refine sx7 ?_;refine qy ?_;refine a6 ?_;refine a7 ?_;refine sx7 ?_;refine qy ?_
 refine a6 ?_;refine af ?_;refine dw 5 900 true 3 81 (lf Val.c []) (by decide) rfl (CoP.sl rfl (.inr rfl) (fun h=>h) (fun i j hi _=>absurd hi (Nat.not_lt_zero i))) (.inr rfl) rfl ?_
 refine av (ι:=Nat) ⟨[(1,some _),(2,some _)],[(0,some _)]⟩ ⟨⟨c9,c9,trivial⟩,⟨u9,trivial⟩⟩ (fun i=>⟨[(5,some (.v (.one (.ref 900 (tv r.vals s i).length)))),(6,some (vI i))],[(900,some (.arr true 3 81 (tv r.vals s i).length (lf Val.c (tv r.vals s i))))]⟩) (fun i=>i ≤ r.vals.length) (fun i=>r.vals.length - i) (0) (Nat.zero_le _) ⟨⟨zy,zy,trivial⟩,⟨u9,trivial⟩⟩ ?_
 rintro i hi
 have hlen:=akt r.vals s i
 refine a7 ?_;refine sx7 ?_;(iterate 5 refine qy ?_);refine a6 ?_;refine a8 _ rfl (fun r0=>?_) (fun r0=>?_)
 ·
  have h0:=of_decide_eq_true r0
  try simp only [ty] at h0
  refine aa ?_;refine a7 ?_;refine af ?_;refine sx7 ?_;(iterate 2 refine qy ?_);refine rc rfl rfl rfl rfl rfl rfl adz (aqx s i) (CoL.refl _) rfl rfl ?_;refine a6 ?_
  refine a8 _ rfl (fun r1=>?_) (fun r1=>?_)
  ·
   have h1:=r1
   refine gy ?_;(iterate 6 refine qy ?_);refine m9 1 ?_;refine ra 2 true rfl rfl rfl rfl rfl rfl ?_;refine qy ?_;refine a6 ?_;refine gy ?_;(iterate 3 refine qy ?_);refine a6 ?_
   first | (refine ⟨i + 1, ?_, ?_, ?_⟩
            · show i + 1 ≤ _;omega
            · first | omega | (dsimp only;omega)
            · exact ⟨⟨⟨_,rfl,(df (a4o (by assumption)))⟩,zy,c9,c9,trivial⟩,⟨⟨_,rfl,(a0x (a4o (by assumption)) (lt3 (CoP.refl _) (CoP.refl _) (CoP.refl _)))⟩,u9,trivial⟩⟩)
         | (refine ⟨i + 1, ?_, ?_, ?_⟩
            · show i + 1 ≤ _;omega
            · first | omega | (dsimp only;omega)
            · exact ⟨⟨⟨_,rfl,(d5 (a5t (by assumption)))⟩,zy,c9,c9,trivial⟩,⟨⟨_,rfl,(ci (a5t (by assumption)))⟩,u9,trivial⟩⟩)
  ·
   have h1:=r1
   refine aa ?_;refine gy ?_;(iterate 3 refine qy ?_);refine a6 ?_
   first | (refine ⟨i + 1, ?_, ?_, ?_⟩
            · show i + 1 ≤ _;omega
            · first | omega | (dsimp only;omega)
            · exact ⟨⟨⟨_,rfl,(df (a4o (by assumption)))⟩,zy,c9,c9,trivial⟩,⟨⟨_,rfl,(a0x (a4o (by assumption)) (lt3 (CoP.refl _) (CoP.refl _) (CoP.refl _)))⟩,u9,trivial⟩⟩)
         | (refine ⟨i + 1, ?_, ?_, ?_⟩
            · show i + 1 ≤ _;omega
            · first | omega | (dsimp only;omega)
            · exact ⟨⟨⟨_,rfl,(d5 (a5t (by assumption)))⟩,zy,c9,c9,trivial⟩,⟨⟨_,rfl,(ci (a5t (by assumption)))⟩,u9,trivial⟩⟩)
 ·
  have h0:=of_decide_eq_false r0
  try simp only [ty] at h0
  obtain rfl:i = r.vals.length:=by omega
  refine au ?_;refine sx7 ?_;(iterate 2 refine qy ?_);refine a6 ?_;refine dn 4 rfl rfl rfl ?_
  exact hx8 rfl rfl rfl (⟨CoC.one (CoP.refl _),trivial⟩)
theorem a68:aj Tryz.prog 121:=⟨Tryz.f121,Tryz.func121,by kernel_rfl,by kernel_rfl⟩
theorem akw (a b:Row) (s:AS) (ra:a.ok) (rb:b.ok):ap Tryz.prog 121 [a.pc,b.pc,pA s] (b4 [pB (ta a b s)]):=by
 refine ah (nt:=14) ae Tryz.func121 rfl rfl l9 ?_;refine sx7 ?_;refine m9 0 ?_;refine m9 1 ?_;refine qy ?_;refine a6 ?_;refine a7 ?_
 refine ax (E:=aq) ae ak [0,1,2,3,4,5,6,7] ?_;(iterate 2 refine qy ?_);refine rc rfl rfl rfl rfl rfl rfl adg (amg a s ra.1) (CoL.refl _) rfl rfl ?_;(iterate 2 refine qy ?_)
 refine rc rfl rfl rfl rfl rfl rfl adg (amg b s rb.1) (CoL.refl _) rfl rfl ?_;refine rc rfl rfl rfl rfl rfl rfl ads (c81 _ _ (agt ra.2) (agt rb.2)) (CoL.refl _) rfl rfl ?_;refine qy ?_;refine a6 ?_
 refine ⟨by kernel_rfl, ?_⟩
 exact hx8 rfl rfl rfl (CoL.refl _)
end Go.Hx
end
section
namespace Go.Hx
open Go.Proofs
set_option maxRecDepth 100000
set_option maxHeartbeats 1000000
theorem ap7:aj Tryz.prog 156:=⟨Tryz.f156,Tryz.func156,by kernel_rfl,by kernel_rfl⟩
theorem aqn (t:Tbl) (x r:AS) (ht:TOk t):ap Tryz.prog 156 [t.pc,(⟨x,r⟩:Fd).pc] (b4 [pB (ot t.rows x r)]):=by
 refine ah (nt:=48) ae Tryz.func156 rfl rfl l9 ?_
 have hnr:=ht.nr
 have hna:=ht.na
 have hsq:t.rows.length * t.rows.length ≤ 1000000:=Nat.mul_le_mul hnr hnr
 refine sx7 ?_;refine m9 0 ?_;refine m9 1 ?_;refine qy ?_;refine a6 ?_;refine a7 ?_;refine sx7 ?_;refine qy ?_;refine a6 ?_;refine af ?_
 refine av (ι:=Nat) ⟨[(2,some _),(3,some _)],[(0,some _),(1,some _)]⟩ ⟨⟨c9,c9,trivial⟩,⟨u9,u9,trivial⟩⟩ (fun i=>⟨[(5,some (vI i))],[]⟩) (fun i=>t.rows.length ≥ i ∧ ∀ j,j < i → aq1 t.rows x r j = true) (fun i=>t.rows.length - i) (0) (⟨Nat.zero_le _,dl⟩) ⟨⟨zy,trivial⟩,trivial⟩ ?_
 rintro i ⟨hi,hI⟩
 refine a7 ?_;refine sx7 ?_;(iterate 5 refine qy ?_);refine a6 ?_;refine a8 _ rfl (fun r0=>?_) (fun r0=>?_)
 ·
  have h0:=of_decide_eq_true r0
  try simp only [ty] at h0
  refine aa ?_;refine a7 ?_;refine af ?_;refine sx7 ?_;refine qy ?_;refine a6 ?_;refine af ?_
  refine av (ι:=Nat) ⟨[(2,some _),(3,some _),(5,some _)],[(0,some _),(1,some _)]⟩ ⟨⟨c9,c9,c9,trivial⟩,⟨u9,u9,trivial⟩⟩ (fun k=>⟨[(6,some (vI k))],[]⟩) (fun k=>k ≤ i ∧ ∀ j,j < k → a6a t.rows x r i j = true) (fun k=>i - k) (0) (⟨Nat.zero_le _,dl⟩) ⟨⟨zy,trivial⟩,trivial⟩ ?_
  rintro k ⟨hk,hK⟩
  refine a7 ?_;refine sx7 ?_;(iterate 3 refine qy ?_);refine a6 ?_;refine a8 _ rfl (fun r1=>?_) (fun r1=>?_)
  ·
   have h1:=of_decide_eq_true r1
   try simp only [ty] at h1
   refine aa ?_;refine a7 ?_;refine af ?_;refine a7 ?_
   refine ax (E:=aq) ae ak [0,1,2,3,4,5,6,7,8,9,10,11,12,13,14,15,16,17,18,19,20,21,22,23,24,25,26,27,28] ?_;(iterate 12 refine qy ?_)
   refine rc rfl rfl rfl rfl rfl rfl a68 (akw (t.rows.getD i default) (t.rows.getD k default) x (ht.rows i (by omega)) (ht.rows k (by omega))) (CoL.refl _) rfl rfl ?_;refine qy ?_
   refine b5 rfl rfl (fun r2=>?_) (fun r2=>?_)
   ·
    have h2:=r2
    (iterate 12 refine qy ?_ (hg:=(gtt r2)));refine rc rfl rfl rfl rfl rfl rfl a68 (akw (t.rows.getD i default) (t.rows.getD k default) r (ht.rows i (by omega)) (ht.rows k (by omega))) (CoL.refl _) rfl (gtt r2) ?_
    refine qy ?_ (hg:=(gtt r2));refine qy ?_;refine a6 ?_;refine ⟨by kernel_rfl, ?_⟩;refine a8 _ rfl (fun r3=>?_) (fun r3=>?_)
    ·
     have h3:=r3
     have h3:=d4 r2 h3
     have h3:=be h3
     refine sx7 ?_;refine qy ?_;refine a6 ?_
     exact hx8 rfl rfl rfl (⟨ccb (ath (i:=i) (k:=k) (by omega) (by omega) (by unfold a6a;simp_all)).symm,trivial⟩)
    ·
     have h3:=r3
     have h3:=d4 r2 h3
     have h3:=bf h3
     refine aa ?_;refine gy ?_;(iterate 3 refine qy ?_);refine a6 ?_;refine ⟨k + 1, ?_, ?_, ?_⟩
     · exact ⟨by omega,da hK (by first | assumption | (unfold a6a;simp_all) | (unfold a35;simp_all))⟩
     · first | omega | (dsimp only;omega)
     · exact ⟨⟨zy,c9,c9,c9,trivial⟩,⟨u9,u9,trivial⟩⟩
   ·
    have h2:=r2
    (iterate 14 refine k9 (gft r2) ?_);refine rq rfl rfl rfl rfl rfl ?_ (hp:=r2);refine a6 ?_;refine ⟨by kernel_rfl, ?_⟩;refine a8 _ rfl (fun e=>by cases e) (fun _=>?_);refine aa ?_;refine gy ?_
    (iterate 3 refine qy ?_);refine a6 ?_;refine ⟨k + 1, ?_, ?_, ?_⟩
    · exact ⟨by omega,da hK (by first | assumption | (unfold a6a;simp_all) | (unfold a35;simp_all))⟩
    · first | omega | (dsimp only;omega)
    · exact ⟨⟨zy,c9,c9,c9,trivial⟩,⟨u9,u9,trivial⟩⟩
  ·
   have h1:=of_decide_eq_false r1
   try simp only [ty] at h1
   refine au ?_;refine gy ?_;(iterate 3 refine qy ?_);refine a6 ?_;refine ⟨i + 1, ?_, ?_, ?_⟩
   · exact ⟨by omega,da hI (jf fun j hj=>hK j (by omega))⟩
   · first | omega | (dsimp only;omega)
   · exact ⟨⟨zy,c9,c9,trivial⟩,⟨u9,u9,trivial⟩⟩
 ·
  have h0:=of_decide_eq_false r0
  try simp only [ty] at h0
  refine au ?_;refine sx7 ?_;refine qy ?_;refine a6 ?_
  exact hx8 rfl rfl rfl (⟨ccb (ar7 fun j hj=>hI j (by omega)).symm,trivial⟩)
theorem aoc:aj Tryz.prog 129:=⟨Tryz.f129,Tryz.func129,by kernel_rfl,by kernel_rfl⟩
theorem avw (t:Tbl) (s:AS) (a:Nat) (ht:TOk t):ap Tryz.prog 129 [t.pc,pA s,pI a] (b4 [pB (ot t.rows s ((1:AS) <<< a))]):=by
 refine ah (nt:=13) ae Tryz.func129 rfl rfl l9 ?_;refine sx7 ?_;refine m9 0 ?_;refine qy ?_;refine a6 ?_;refine a7 ?_;refine ax (E:=aq) ae ak [0,1,2,3,4,5,6] ?_
 (iterate 5 refine qy ?_)
 refine rc rfl rfl rfl rfl rfl rfl ap7 (aqn t s ((1:AS) <<< a) ht) (⟨CoC.refl _,CoC.agg ⟨CoP.refl _,CoP.of_eq (congrArg (fun z=>PV.raw (.int .u32 z)) (show IntKind.wrap .u32 (1 * 2 ^ (min a 32)) = asI ((1:AS) <<< a) from vf 1 a)),trivial⟩,trivial⟩) rfl rfl ?_
 refine qy ?_;refine a6 ?_;refine ⟨by kernel_rfl, ?_⟩
 exact hx8 rfl rfl rfl (CoL.refl _)
theorem ans:aj Tryz.prog 100:=⟨Tryz.f100,Tryz.func100,by kernel_rfl,by kernel_rfl⟩
theorem aq0 (t:Tbl) (a:Nat) (h28:n4 t = 0) (ha:a < t.attrs.length):ap Tryz.prog 100 [t.pc,pI a] (b4 [pP (asl (oc t.rows t.attrs.length a)),pI 0]):=by
 refine ah (nt:=54) ae Tryz.func100 rfl rfl l9 ?_
 obtain ⟨ht,h200,h10⟩:=aap h28
 have hsl:=ny (b6 (t.attrs.length:Nat) &&& ~~~((1:AS) <<< a))
 refine sx7 ?_;refine m9 0 ?_;(iterate 2 refine qy ?_);refine a6 ?_;refine a7 ?_;refine sx7 ?_;refine qy ?_;refine rc rfl rfl rfl rfl rfl rfl agb (ahg t) (CoL.refl _) rfl rfl ?_;refine qy ?_;refine a6 ?_
 refine sx7 ?_;(iterate 2 refine qy ?_);refine a6 ?_;refine a8 _ rfl (fun r0=>?_) (fun r0=>?_)
 ·
  have h0:=r0
  have h0:=of_decide_eq_false (be h0)
  try simp only [ty] at h0
  exact absurd h28 h0
 ·
  have h0:=r0
  have h0:=of_decide_eq_true (bf h0)
  try simp only [ty] at h0
  refine aa ?_;refine a7 ?_;refine sx7 ?_;(iterate 3 refine qy ?_);refine b5 rfl rfl (fun r1=>?_) (fun r1=>?_)
  ·
   have h1:=of_decide_eq_true r1
   try simp only [ty] at h1
   exfalso
   omega
  ·
   have h1:=of_decide_eq_false r1
   try simp only [ty] at h1
   (iterate 5 refine qy ?_ (hg:=(gff r1)));refine qy ?_;refine a6 ?_;refine a8 _ rfl (fun r2=>?_) (fun r2=>?_)
   ·
    have h2:=r2
    have h2:=bv r1 h2
    have h2:=of_decide_eq_true h2
    try simp only [ty] at h2
    exfalso
    omega
   ·
    have h2:=r2
    have h2:=bv r1 h2
    have h2:=of_decide_eq_false h2
    try simp only [ty] at h2
    refine aa ?_;refine a7 ?_;refine ax (E:=aq) ae ak [0,1,2,3,4,5,6,7,8] ?_;(iterate 3 refine qy ?_)
    refine rc rfl rfl rfl rfl rfl rfl ag9 (ahw t.attrs.length) (CoL.refl _) rfl rfl ?_;(iterate 3 refine qy ?_)
    refine rc rfl rfl rfl rfl rfl rfl ao1 (asq (b6 (t.attrs.length:Nat) &&& ~~~((1:AS) <<< a))) (⟨cci (by rw [← as5];exact congrArg (fc .andNot .u32 (asI _)) (vf 1 a)),trivial⟩) rfl rfl ?_;refine qy ?_
    refine a6 ?_;refine ⟨by kernel_rfl, ?_⟩;refine sx7 ?_;refine qy ?_;refine a6 ?_;refine a7 ?_;refine sx7 ?_;refine qy ?_;refine a6 ?_;refine af ?_
    refine dw 8 900 true 1 69 (lf sC []) (by decide) rfl (CoP.sl rfl (.inr rfl) (fun h=>h) (fun i j hi _=>absurd hi (Nat.not_lt_zero i))) (.inr rfl) rfl ?_
    refine av (ι:=Nat) ⟨[(1,some _),(2,some _),(7,some _)],[(0,some _)]⟩ ⟨⟨c9,c9,c9,trivial⟩,⟨u9,trivial⟩⟩ (fun i=>⟨[(8,some (.v (.one (.ref 900 (rz (fun x=>ot t.rows x ((1:AS) <<< a)) (ck (b6 (t.attrs.length:Nat) &&& ~~~((1:AS) <<< a))) i).length)))),(9,some (vI i))],[(900,some (.arr true 1 69 (rz (fun x=>ot t.rows x ((1:AS) <<< a)) (ck (b6 (t.attrs.length:Nat) &&& ~~~((1:AS) <<< a))) i).length (lf sC (rz (fun x=>ot t.rows x ((1:AS) <<< a)) (ck (b6 (t.attrs.length:Nat) &&& ~~~((1:AS) <<< a))) i))))]⟩) (fun i=>i ≤ (ck (b6 (t.attrs.length:Nat) &&& ~~~((1:AS) <<< a))).length) (fun i=>(ck (b6 (t.attrs.length:Nat) &&& ~~~((1:AS) <<< a))).length - i) (0) (Nat.zero_le _) ⟨⟨zy,zy,trivial⟩,⟨u9,trivial⟩⟩ ?_
    rintro i hi
    have hlen:=al1 (fun x=>ot t.rows x ((1:AS) <<< a)) (ck (b6 (t.attrs.length:Nat) &&& ~~~((1:AS) <<< a))) i
    refine a7 ?_;refine sx7 ?_;(iterate 4 refine qy ?_);refine a6 ?_;refine a8 _ rfl (fun r3=>?_) (fun r3=>?_)
    ·
     have h3:=of_decide_eq_true r3
     try simp only [ty] at h3
     refine aa ?_;refine a7 ?_;refine af ?_;refine a7 ?_;refine ax (E:=aq) ae ak [0,1,2,3,4,5,6] ?_;(iterate 6 refine qy ?_)
     refine rc rfl rfl rfl rfl rfl rfl aoc (avw t ((ck (b6 (t.attrs.length:Nat) &&& ~~~((1:AS) <<< a))).getD i default) a ht) (CoL.refl _) rfl rfl ?_;refine a6 ?_;refine ⟨by kernel_rfl, ?_⟩
     refine a8 _ rfl (fun r4=>?_) (fun r4=>?_)
     ·
      have h4:=r4
      refine gy ?_;(iterate 5 refine qy ?_);refine m9 1 ?_;refine ra 2 true rfl rfl rfl rfl rfl rfl ?_;refine qy ?_;refine a6 ?_;refine gy ?_;(iterate 3 refine qy ?_);refine a6 ?_
      first | (refine ⟨i + 1, ?_, ?_, ?_⟩
               · show i + 1 ≤ _;omega
               · first | omega | (dsimp only;omega)
               · exact ⟨⟨⟨_,rfl,(df (a5o (by omega) (by assumption)))⟩,zy,c9,c9,c9,trivial⟩,⟨⟨_,rfl,(dx (a5o (by omega) (by assumption)) (CoP.refl _))⟩,u9,trivial⟩⟩)
            | (refine ⟨i + 1, ?_, ?_, ?_⟩
               · show i + 1 ≤ _;omega
               · first | omega | (dsimp only;omega)
               · exact ⟨⟨⟨_,rfl,(d5 (a3z (by omega) (by assumption)))⟩,zy,c9,c9,c9,trivial⟩,⟨⟨_,rfl,(ci (a3z (by omega) (by assumption)))⟩,u9,trivial⟩⟩)
     ·
      have h4:=r4
      refine aa ?_;refine gy ?_;(iterate 3 refine qy ?_);refine a6 ?_
      first | (refine ⟨i + 1, ?_, ?_, ?_⟩
               · show i + 1 ≤ _;omega
               · first | omega | (dsimp only;omega)
               · exact ⟨⟨⟨_,rfl,(df (a5o (by omega) (by assumption)))⟩,zy,c9,c9,c9,trivial⟩,⟨⟨_,rfl,(dx (a5o (by omega) (by assumption)) (CoP.refl _))⟩,u9,trivial⟩⟩)
            | (refine ⟨i + 1, ?_, ?_, ?_⟩
               · show i + 1 ≤ _;omega
               · first | omega | (dsimp only;omega)
               · exact ⟨⟨⟨_,rfl,(d5 (a3z (by omega) (by assumption)))⟩,zy,c9,c9,c9,trivial⟩,⟨⟨_,rfl,(ci (a3z (by omega) (by assumption)))⟩,u9,trivial⟩⟩)
    ·
     have h3:=of_decide_eq_false r3
     try simp only [ty] at h3
     obtain rfl:i = (ck (b6 (t.attrs.length:Nat) &&& ~~~((1:AS) <<< a))).length:=by omega
     refine au ?_;refine a7 ?_;refine dn 8 rfl rfl rfl ?_;refine gy ?_;refine qy ?_
     refine rc rfl rfl rfl rfl rfl rfl ajb (a7v ((ck (b6 (t.attrs.length:Nat) &&& ~~~((1:AS) <<< a))).filter (fun x=>ot t.rows x ((1:AS) <<< a))) (Nat.le_trans (List.length_filter_le _ _) (by omega))) (⟨CoC.one (CoP.of_eq (by rw [ako (Nat.le_refl _)];rfl)),trivial⟩) rfl rfl ?_
     (iterate 2 refine qy ?_);refine a6 ?_
     exact hx8 rfl rfl rfl (⟨CoC.refl _,CoC.refl _,trivial⟩)
theorem aoe:aj Tryz.prog 130:=⟨Tryz.f130,Tryz.func130,by kernel_rfl,by kernel_rfl⟩
theorem aqs (a b:Fd):ap Tryz.prog 130 [a.pc,b.pc] (b4 [pB (ge a b)]):=by
 refine ah (nt:=20) ae Tryz.func130 rfl rfl l9 ?_;refine sx7 ?_;refine m9 0 ?_;refine m9 1 ?_;refine qy ?_;refine a6 ?_;refine a7 ?_;refine sx7 ?_;(iterate 5 refine qy ?_);refine a6 ?_
 refine a8 _ rfl (fun r0=>?_) (fun r0=>?_)
 ·
  have h0:=r0
  have h0:=of_decide_eq_false (be h0)
  try simp only [ty] at h0
  refine sx7 ?_;(iterate 4 refine qy ?_);refine rc rfl rfl rfl rfl rfl rfl ady (adu _ _) (CoL.refl _) rfl rfl ?_;refine qy ?_;refine a6 ?_
  exact hx8 rfl rfl rfl (⟨ccb (ao4 (by assumption)),trivial⟩)
 ·
  have h0:=r0
  have h0:=of_decide_eq_true (bf h0)
  try simp only [ty] at h0
  refine aa ?_;refine sx7 ?_;(iterate 6 refine qy ?_);refine a6 ?_
  exact hx8 rfl rfl rfl (⟨ccb (air (by assumption)),trivial⟩)
theorem apj:aj Tryz.prog 101:=⟨Tryz.f101,Tryz.func101,by kernel_rfl,by kernel_rfl⟩
theorem ag5 (l:List Fd) (hn:l.Nodup) (hl:l.length ≤ 8589934592000):ap Tryz.prog 101 [pP (fdl l)] (b4 [pP (fdl (fj l))]):=by
 refine ah (nt:=49) ae Tryz.func101 rfl rfl l9 ?_;refine sx7 ?_;refine qy ?_;refine a6 ?_;refine sx7 ?_;refine m9 0 ?_;refine qy ?_;refine ra 1 true rfl rfl rfl rfl rfl rfl ?_;refine qy ?_;refine a6 ?_
 refine abl ⟨[(3,some (.v (.one (.ref 0 l.length))))],[(0,some (.arr true 2 71 l.length (lf Fd.c l)))]⟩ ⟨⟨⟨_,rfl,CoR.of_eq (by rw [Nat.zero_add])⟩,trivial⟩,⟨⟨_,rfl,ala⟩,trivial⟩⟩ ?_;refine a7 ?_
 refine sx7 ?_;refine qy ?_;refine a6 ?_;refine af ?_
 refine av (ι:=Nat) ⟨[(3,some _)],[]⟩ ⟨⟨c9,trivial⟩,trivial⟩ (fun i=>⟨[(4,some (vI i))],[(0,some (.arr true 2 71 l.length (lf Fd.c (y8 l i))))]⟩) (fun i=>1 ≤ i ∧ (i ≤ l.length ∨ i = 1)) (fun i=>l.length - i) (1) (⟨Nat.le_refl _, .inr rfl⟩) ⟨⟨zy,trivial⟩,⟨⟨_,rfl,(o4 (ajs l) rfl)⟩,trivial⟩⟩ ?_
 rintro i ⟨hi1,hi2⟩
 refine a7 ?_;refine sx7 ?_;(iterate 4 refine qy ?_);refine a6 ?_;refine a8 _ rfl (fun r0=>?_) (fun r0=>?_)
 ·
  have h0:=of_decide_eq_true r0
  try simp only [ty] at h0
  refine aa ?_;refine a7 ?_;refine af ?_;refine sx7 ?_;(iterate 2 refine qy ?_);refine a6 ?_;refine af ?_
  refine av (ι:=Nat) ⟨[(3,some _),(4,some _)],[]⟩ ⟨⟨c9,c9,trivial⟩,trivial⟩ (fun k=>⟨[(5,some (vI k))],[(0,some (.arr true 2 71 l.length (lf Fd.c (gp l i k))))]⟩) (fun k=>k ≤ i ∧ ∀ j,k ≤ j → j < i → ge (l.getD i default) ((fj (l.take i)).getD j default) = true) (fun k=>k) (i) (⟨Nat.le_refl _,fun j h1 h2=>by omega⟩) ⟨⟨zy,trivial⟩,⟨⟨_,rfl,(o4 (aer hn (by omega)) rfl)⟩,trivial⟩⟩ ?_
  rintro k ⟨hk,hK⟩
  (iterate 2 refine a7 ?_);refine ax (E:=aq) ae ak [0,1,2,3,4,5,6,7,8,9,10,11,12,13] ?_;(iterate 3 refine qy ?_);refine b5 rfl rfl (fun r1=>?_) (fun r1=>?_)
  ·
   have h1:=of_decide_eq_true r1
   try simp only [ty] at h1
   (iterate 9 refine qy ?_ (hg:=(gtt r1)));refine rc rfl rfl rfl rfl rfl rfl aoe (aqs _ _) (CoL.refl _) rfl (gtt r1) ?_;refine qy ?_;refine a6 ?_;refine ⟨by kernel_rfl, ?_⟩
   refine a8 _ rfl (fun r2=>?_) (fun r2=>?_)
   ·
    have h2:=r2
    have h2:=d4 r1 h2
    have hb:=ain hn (by omega) (by omega) hk h2 (by omega) (by omega)
    refine aa ?_;refine a7 ?_;refine af ?_;refine ax (E:=aq) ae ak [0,1,5,6,7,8,9,10,11,12,13,14,15,2,3,4,16,17] ?_;(iterate 12 refine qy ?_);refine s9 ?_
    (iterate 4 refine qy ?_);refine s9 ?_;refine a6 ?_;refine ⟨by kernel_rfl, ?_⟩;refine gy ?_;(iterate 3 refine qy ?_);refine a6 ?_;refine ⟨k - 1, ?_, ?_, ?_⟩
    · refine ⟨by omega,fun j h1 h2=>?_⟩
      by_cases hj:j = k - 1
      · rw [hj];exact hb
      · exact hK j (by omega) h2
    · show k - 1 < k
      omega
    · exact ⟨⟨zy,c9,c9,trivial⟩,⟨⟨_,rfl,(ak4 hn (by omega) (by omega) hk (by omega) (by omega) rfl)⟩,trivial⟩⟩
   ·
    have h2:=r2
    have h2:=d4 r1 h2
    have hb:=ain hn (by omega) (by omega) hk h2 (by omega) (by omega)
    have hfin:=a9z hn (by omega) hk hK (.inr hb)
    refine au ?_;refine gy ?_;(iterate 3 refine qy ?_);refine a6 ?_;refine ⟨i + 1, ?_, ?_, ?_⟩
    · exact ⟨by omega, .inl (by omega)⟩
    · first | omega | (dsimp only;omega)
    · exact ⟨⟨zy,c9,trivial⟩,⟨⟨_,rfl,(o4 hfin.symm rfl)⟩,trivial⟩⟩
  ·
   have h1:=of_decide_eq_false r1
   try simp only [ty] at h1
   have hfin:=a9z hn (by omega) hk hK (.inl (by omega))
   (iterate 10 refine k9 (gft r1) ?_);refine rq rfl rfl rfl rfl rfl ?_ (hp:=r1);refine a6 ?_;refine ⟨by kernel_rfl, ?_⟩;refine a8 _ rfl (fun e=>by cases e) (fun _=>?_);refine au ?_;refine gy ?_
   (iterate 3 refine qy ?_);refine a6 ?_;refine ⟨i + 1, ?_, ?_, ?_⟩
   · exact ⟨by omega, .inl (by omega)⟩
   · first | omega | (dsimp only;omega)
   · exact ⟨⟨zy,c9,trivial⟩,⟨⟨_,rfl,(o4 hfin.symm rfl)⟩,trivial⟩⟩
 ·
  have h0:=of_decide_eq_false r0
  try simp only [ty] at h0
  have hil:l.length ≤ i:=by omega
  refine au ?_;refine sx7 ?_;(iterate 2 refine qy ?_);refine a6 ?_;refine dn 2 rfl rfl rfl ?_
  exact hx8 rfl rfl rfl (⟨CoC.one (CoP.of_eq (by rw [aki hil,← a7k hn];rfl)),trivial⟩)
end Go.Hx
end

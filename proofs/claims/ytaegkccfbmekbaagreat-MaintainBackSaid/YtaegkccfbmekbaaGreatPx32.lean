/- A part of the proof: Mw0 Mw1. -/
import Derived.Test.YtaegkccfbmekbaaGreatPx20
import Derived.Test.YtaegkccfbmekbaaGreatPx21
import Derived.Test.YtaegkccfbmekbaaGreatPx22
import Derived.Test.YtaegkccfbmekbaaGreatPx31
set_option linter.all false
section
namespace Go.Hx
open Go.Proofs
set_option maxRecDepth 100000
set_option maxHeartbeats 1000000
theorem ar5 {a b:List AS} (hl:a.length = b.length) (h:∀ j,j < a.length → a.getD j default = b.getD j default):a = b:=by
 apply List.ext_getElem hl
 intro i h1 h2
 have:=h i h1
 rw [List.getD_eq_getElem?_getD,List.getD_eq_getElem?_getD,List.getElem?_eq_getElem h1,List.getElem?_eq_getElem h2] at this
 simpa using this
theorem aip:ai Tryz.prog 88:=⟨Tryz.f88,Tryz.func88,by kernel_rfl,by kernel_rfl⟩
theorem a8e (l:List AS) (hl:l.length ≤ 8589934592):al Tryz.prog 88 [pP (asl l)] (az [pP (asl (tw l))]):=by
 refine ag (nt:=49) ae Tryz.func88 rfl rfl l9 ?_;refine sx7 ?_;refine qy ?_;refine a6 ?_;refine sx7 ?_;refine qy ?_;refine a6 ?_;refine sx7 ?_;refine qy ?_
 refine rc rfl rfl rfl rfl rfl rfl ah5 (adl l hl) (CoL.refl _) rfl rfl ?_;refine qy ?_;refine a6 ?_;refine a7 ?_;refine sx7 ?_;refine qy ?_;refine a6 ?_;refine af ?_
 have hol:=su l
 refine ec 3 900 true 1 69 (lf sC []) (by decide) rfl (CoP.sl rfl (.inr rfl) (fun h=>h) (fun i j hi _=>absurd hi (Nat.not_lt_zero i))) (.inr rfl) rfl ?_
 refine av (ι:=Nat) ⟨[(4,some _)],[]⟩ ⟨⟨c9,trivial⟩,trivial⟩ (fun i=>⟨[(3,some (.v (.one (.ref 900 (mn l i).length)))),(5,some (vI i))],[(900,some (.arr true 1 69 (mn l i).length (lf sC (mn l i))))]⟩) (fun i=>i ≤ (ord l).length) (fun i=>(ord l).length - i) (0) (Nat.zero_le _) ⟨⟨zy,zy,trivial⟩,⟨u9,trivial⟩⟩ ?_
 rintro i hi
 have hlen:=ah8 l i
 refine a7 ?_;refine sx7 ?_;(iterate 4 refine qy ?_);refine a6 ?_;refine a8 _ rfl (fun r0=>?_) (fun r0=>?_)
 ·
  have h0:=of_decide_eq_true r0
  try simp only [ty] at h0
  refine aa ?_;refine a7 ?_;refine af ?_;refine sx7 ?_;refine qy ?_;refine a6 ?_;refine a7 ?_;refine sx7 ?_;refine qy ?_;refine a6 ?_;refine af ?_
  refine av (ι:=Nat) ⟨[(3,some _),(4,some _),(5,some _)],[(900,some _)]⟩ ⟨⟨c9,c9,c9,trivial⟩,⟨u9,trivial⟩⟩ (fun k=>⟨[(6,some (vB (okM (ord l) i k))),(7,some (vI k))],[]⟩) (fun k=>k ≤ (ord l).length) (fun k=>(ord l).length - k) (0) (Nat.zero_le _) ⟨⟨⟨_,rfl,(cob rfl)⟩,zy,trivial⟩,trivial⟩ ?_
  rintro k hk
  refine a7 ?_;refine sx7 ?_;(iterate 4 refine qy ?_);refine a6 ?_;refine a8 _ rfl (fun r1=>?_) (fun r1=>?_)
  ·
   have h1:=of_decide_eq_true r1
   try simp only [ty] at h1
   refine aa ?_;refine a7 ?_;refine af ?_;refine ay (E:=b5) ae ak [0,1,2,3,4,5,6,7,8,9,10,11,12,13,14,15,16,17,18] ?_;(iterate 2 refine qy ?_)
   refine b4 rfl rfl (fun r2=>?_) (fun r2=>?_)
   ·
    have h2:=r2
    (iterate 4 refine qy ?_ (hg:=(gtt r2)));refine b4 rfl rfl (fun r3=>?_) (fun r3=>?_)
    ·
     have h3:=of_decide_eq_true r3
     try simp only [ty] at h3
     (iterate 10 refine k9 (gtf r3) ?_);refine rq rfl rfl rfl rfl (gtt r2) ?_ (hp:=r3);(iterate 2 refine qy ?_);refine a6 ?_;refine ⟨by kernel_rfl, ?_⟩;refine gy ?_;(iterate 3 refine qy ?_);refine a6 ?_
     refine ⟨k + 1, ?_, ?_, ?_⟩
     · show k + 1 ≤ _;omega
     · first | omega | (dsimp only;omega)
     · exact ⟨⟨⟨_,rfl,(cob (by rw [okM_succ'];simp_all only [tz];simp))⟩,zy,c9,c9,c9,trivial⟩,⟨u9,trivial⟩⟩
    ·
     have h3:=of_decide_eq_false r3
     try simp only [ty] at h3
     (iterate 8 refine qy ?_ (hg:=(gff r3)));refine rc rfl rfl rfl rfl rfl rfl ao4 (au2 _ _) (CoL.refl _) rfl (gff r3) ?_;refine qy ?_ (hg:=(gff r3));refine qy ?_ (hg:=(gtt r2));(iterate 2 refine qy ?_)
     refine a6 ?_;refine ⟨by kernel_rfl, ?_⟩;refine gy ?_;(iterate 3 refine qy ?_);refine a6 ?_;refine ⟨k + 1, ?_, ?_, ?_⟩
     · show k + 1 ≤ _;omega
     · first | omega | (dsimp only;omega)
     · exact ⟨⟨⟨_,rfl,(cob (by rw [okM_succ'];simp_all only [tz];simp))⟩,zy,c9,c9,c9,trivial⟩,⟨u9,trivial⟩⟩
   ·
    have h2:=r2
    (iterate 4 refine k9 (gft r2) ?_);(iterate 10 refine k9 rfl ?_);refine k9 (gft r2) ?_;refine rq rfl rfl rfl rfl rfl ?_ (hp:=r2);refine qy ?_;refine a6 ?_;refine ⟨by kernel_rfl, ?_⟩;refine gy ?_
    (iterate 3 refine qy ?_);refine a6 ?_;refine ⟨k + 1, ?_, ?_, ?_⟩
    · show k + 1 ≤ _;omega
    · first | omega | (dsimp only;omega)
    · exact ⟨⟨⟨_,rfl,(cob (by rw [okM_succ'];simp_all only [tz];simp))⟩,zy,c9,c9,c9,trivial⟩,⟨u9,trivial⟩⟩
  ·
   have h1:=of_decide_eq_false r1
   try simp only [ty] at h1
   obtain rfl:k = (ord l).length:=by omega
   refine aq ?_;refine sx7 ?_;refine qy ?_;refine a6 ?_;refine a8 _ rfl (fun r4=>?_) (fun r4=>?_)
   ·
    have h4:=r4
    refine gy ?_;(iterate 5 refine qy ?_);refine m9 0 ?_;refine ra 1 true rfl rfl rfl rfl rfl rfl ?_;refine qy ?_;refine a6 ?_;refine gy ?_;(iterate 3 refine qy ?_);refine a6 ?_
    first | (refine ⟨i + 1, ?_, ?_, ?_⟩
             · show i + 1 ≤ _;omega
             · first | omega | (dsimp only;omega)
             · exact ⟨⟨⟨_,rfl,(dt (a1a (by omega) (by assumption)))⟩,zy,c9,trivial⟩,⟨⟨_,rfl,(ek (a1a (by omega) (by assumption)) (CoP.refl _))⟩,trivial⟩⟩)
          | (refine ⟨i + 1, ?_, ?_, ?_⟩
             · show i + 1 ≤ _;omega
             · first | omega | (dsimp only;omega)
             · exact ⟨⟨⟨_,rfl,(d9 (a17 (by omega) (by assumption)))⟩,zy,c9,trivial⟩,⟨⟨_,rfl,(cr (a17 (by omega) (by assumption)))⟩,trivial⟩⟩)
   ·
    have h4:=r4
    refine aa ?_;refine gy ?_;(iterate 3 refine qy ?_);refine a6 ?_
    first | (refine ⟨i + 1, ?_, ?_, ?_⟩
             · show i + 1 ≤ _;omega
             · first | omega | (dsimp only;omega)
             · exact ⟨⟨⟨_,rfl,(dt (a1a (by omega) (by assumption)))⟩,zy,c9,trivial⟩,⟨⟨_,rfl,(ek (a1a (by omega) (by assumption)) (CoP.refl _))⟩,trivial⟩⟩)
          | (refine ⟨i + 1, ?_, ?_, ?_⟩
             · show i + 1 ≤ _;omega
             · first | omega | (dsimp only;omega)
             · exact ⟨⟨⟨_,rfl,(d9 (a17 (by omega) (by assumption)))⟩,zy,c9,trivial⟩,⟨⟨_,rfl,(cr (a17 (by omega) (by assumption)))⟩,trivial⟩⟩)
 ·
  have h0:=of_decide_eq_false r0
  try simp only [ty] at h0
  obtain rfl:i = (ord l).length:=by omega
  refine aq ?_;refine sx7 ?_;(iterate 2 refine qy ?_);refine a6 ?_;refine dp 2 rfl rfl rfl ?_
  exact hx8 rfl rfl rfl (⟨CoC.one (CoP.of_eq (by rw [← agt];rfl)),trivial⟩)
theorem ac1:ai Tryz.prog 40:=⟨Tryz.f40,Tryz.func40,by kernel_rfl,by kernel_rfl⟩
theorem al8 (a b:List AS):al Tryz.prog 40 [pP (asl a),pP (asl b)] (az [pB (decide (a = b))]):=by
 refine ag (nt:=26) ae Tryz.func40 rfl rfl l9 ?_;refine sx7 ?_;refine qy ?_;refine a6 ?_;(iterate 2 refine a7 ?_)
 refine j8 0 rfl fun hn0=>?_
 refine j8 1 rfl fun hn1=>?_
 refine gy ?_;(iterate 5 refine qy ?_);refine a6 ?_;refine a8 _ rfl (fun r0=>?_) (fun r0=>?_)
 ·
  have h0:=r0
  have h0:=of_decide_eq_false (b8 h0)
  try simp only [ty] at h0
  refine sx7 ?_;refine qy ?_;refine a6 ?_
  exact hx8 rfl rfl rfl (⟨ccb (decide_eq_false fun e=>by subst e;omega).symm,trivial⟩)
 ·
  have h0:=r0
  have h0:=of_decide_eq_true (b9 h0)
  try simp only [ty] at h0
  refine aa ?_;refine a7 ?_;refine sx7 ?_;(iterate 3 refine qy ?_);refine a6 ?_;refine af ?_
  refine av (ι:=Nat) ⟨[(0,some _),(1,some _),(12,some _)],[]⟩ ⟨⟨c9,c9,c9,trivial⟩,trivial⟩ (fun i=>⟨[(13,some (vI i))],[]⟩) (fun i=>i ≤ a.length ∧ ∀ j,j < i → a.getD j default = b.getD j default) (fun i=>a.length - i) (0) (⟨Nat.zero_le _,fun j hj=>absurd hj (Nat.not_lt_zero j)⟩) ⟨⟨⟨_,rfl,(CoR.refl _)⟩,trivial⟩,trivial⟩ ?_
  rintro i ⟨hi,hI⟩
  refine sx7 ?_;refine qy ?_;refine a6 ?_;refine a7 ?_;refine a8 _ rfl (fun r1=>?_) (fun r1=>?_)
  ·
   have h1:=of_decide_eq_true r1
   try simp only [ty] at h1
   refine aa ?_;refine a7 ?_;refine af ?_;refine sx7 ?_;(iterate 2 refine qy ?_);refine a6 ?_;refine a7 ?_;refine ay (E:=b5) ae ak [0,1,2,3,4,5,6,7,8] ?_
   (iterate 9 refine qy ?_);refine a6 ?_;refine ⟨by kernel_rfl, ?_⟩;refine a8 _ rfl (fun r2=>?_) (fun r2=>?_)
   ·
    have h2:=r2
    have h2:=of_decide_eq_false (b8 h2)
    try simp only [ty] at h2
    refine sx7 ?_;refine qy ?_;refine a6 ?_
    exact hx8 rfl rfl rfl (⟨ccb (decide_eq_false fun e=>by subst e;exact absurd rfl (by assumption:¬ asI _ = asI _)).symm,trivial⟩)
   ·
    have h2:=r2
    have h2:=of_decide_eq_true (b9 h2)
    try simp only [ty] at h2
    refine aa ?_;refine gy ?_;(iterate 2 refine qy ?_);refine a6 ?_;refine ⟨i + 1, ?_, ?_, ?_⟩
    · refine ⟨by omega,fun j hj=>?_⟩
      by_cases e:j = i
      · subst e;exact it.1 (by assumption)
      · exact hI j (by omega)
    · first | omega | (dsimp only;omega)
    · exact ⟨⟨⟨_,rfl,(CoR.refl _)⟩,c9,c9,c9,trivial⟩,trivial⟩
  ·
   have h1:=of_decide_eq_false r1
   try simp only [ty] at h1
   obtain rfl:i = a.length:=by omega
   refine aq ?_;refine sx7 ?_;refine qy ?_;refine a6 ?_
   exact hx8 rfl rfl rfl (⟨ccb (decide_eq_true (ar5 (by omega) hI)).symm,trivial⟩)
theorem at5:ai Tryz.prog 49:=⟨Tryz.f49,Tryz.func49,by kernel_rfl,by kernel_rfl⟩
theorem c36 (x:Rcp) (n:Nat) (hn:n ≤ 8) (hx:x.rows.length ≤ 68719476736):al Tryz.prog 49 [x.pc,pI n] (az [(nx x n).pc]):=by
 refine ag (nt:=67) ae Tryz.func49 rfl rfl l9 ?_;refine sx7 ?_;refine m9 0 ?_;refine m9 1 ?_;refine a6 ?_;refine sx7 ?_;refine m9 2 ?_;refine m9 3 ?_;refine qy ?_;refine alt rfl rfl rfl rfl rfl ?_
 refine ra 4 true rfl rfl rfl rfl rfl rfl ?_;refine qy ?_;refine m9 5 ?_;refine s9 ?_;refine a6 ?_;refine gn 5 1 rfl rfl rfl rfl rfl ?_;refine a7 ?_;refine sx7 ?_;refine qy ?_;refine a6 ?_
 refine af ?_;refine ez 5 2 100 true 2 48 (lf Row.c (iw x n)) (by decide) rfl rfl (CoP.sl rfl (.inr rfl) (fun h=>h) (fun i j hi _=>absurd hi (Nat.not_lt_zero i))) (.inr rfl) rfl rfl ?_
 refine av (ι:=Nat) ⟨[(1,some _),(2,some _),(4,some _),(5,some _)],[(0,some _),(1,some _)]⟩ ⟨⟨c9,c9,c9,c9,trivial⟩,⟨u9,u9,trivial⟩⟩ (fun i=>⟨[(6,some (vI i))],[(5,some (.box [.p (.raw (.string ⟨#[114]⟩)), .p (i6 (fv.take n)), .ref 100 i])),(100,some (.arr true 2 48 i (lf Row.c (iw x n))))]⟩) (fun i=>i ≤ x.rows.length) (fun i=>x.rows.length - i) (0) (Nat.zero_le _) ⟨⟨zy,trivial⟩,⟨⟨_,rfl,⟨CoH.refl _,asu hn,CoH.refl _,trivial⟩⟩,u9,trivial⟩⟩ ?_
 rintro i hi
 refine a7 ?_;refine sx7 ?_;(iterate 5 refine qy ?_);refine a6 ?_;refine a8 _ rfl (fun r0=>?_) (fun r0=>?_)
 ·
  have h0:=of_decide_eq_true r0
  try simp only [ty] at h0
  refine aa ?_;refine a7 ?_;refine af ?_;refine a7 ?_
  have hgl:=atj (g:=x.gap) (i:=i)
  refine gy ?_;(iterate 9 refine qy ?_);refine m9 6 ?_;refine s9 ?_;refine a6 ?_;refine a7 ?_;refine sx7 ?_;refine qy ?_;refine a6 ?_;refine af ?_
  refine ez 6 1 101 true 3 81 (lf Val.c (fb (x.rows.getD i default) n)) (by decide) rfl rfl (CoP.sl rfl (.inr rfl) (fun h=>h) (fun i j hi _=>absurd hi (Nat.not_lt_zero i))) (.inr rfl) rfl rfl ?_
  refine av (ι:=Nat) ⟨[(1,some _),(2,some _),(4,some _),(5,some _),(6,some _),(7,some _)],[(5,some _),(100,some _),(0,some _),(1,some _)]⟩ ⟨⟨c9,c9,c9,c9,c9,c9,trivial⟩,⟨u9,u9,u9,u9,trivial⟩⟩ (fun k=>⟨[(8,some (vI k))],[(6,some (.box [.p (.raw (.int .i64 (1 + (i:Int) * (1 + (x.gap.toNat:Int) % 3)))), .ref 101 k])),(101,some (.arr true 3 81 k (lf Val.c (fb (x.rows.getD i default) n))))]⟩) (fun k=>k ≤ n) (fun k=>n - k) (0) (Nat.zero_le _) ⟨⟨zy,trivial⟩,⟨u9,u9,trivial⟩⟩ ?_
  rintro k hk
  refine a7 ?_;refine sx7 ?_;(iterate 3 refine qy ?_);refine a6 ?_;refine a8 _ rfl (fun r1=>?_) (fun r1=>?_)
  ·
   have h1:=of_decide_eq_true r1
   try simp only [ty] at h1
   refine aa ?_;refine a7 ?_;refine af ?_;refine sx7 ?_;refine qy ?_;refine a6 ?_;(iterate 2 refine a7 ?_);refine afa 0 2 rfl rfl (fun hb=>?_);refine gy ?_;(iterate 8 refine qy ?_)
   refine a6 ?_;refine a8 _ rfl (fun r2=>?_) (fun r2=>?_)
   ·
    have h2:=of_decide_eq_true r2
    try simp only [ty] at h2
    refine gy ?_;(iterate 9 refine qy ?_);refine a6 ?_;refine ay (E:=b5) ae ak [0,1,2,3,4,5,6,7] ?_;(iterate 3 refine qy ?_)
    refine rc rfl rfl rfl rfl rfl rfl wt (c49 _ (by omega)) (CoL.refl _) rfl rfl ?_;refine m9 7 ?_;refine ra 8 true rfl rfl rfl rfl rfl rfl ?_;refine qy ?_;refine s9 ?_;refine a6 ?_;refine ⟨by kernel_rfl, ?_⟩
    refine gy ?_;(iterate 3 refine qy ?_);refine a6 ?_;refine ⟨k + 1, ?_, ?_, ?_⟩
    · show k + 1 ≤ _
      omega
    · first | omega | (dsimp only;omega)
    · exact ⟨⟨zy,c9,c9,c9,c9,c9,c9,trivial⟩,⟨u9,⟨_,rfl,(iu (fun h=>h) (by first | (intro j hj;rw [qx (by omega)];revert j;exact lt3 (CoP.refl _) (CoP.refl _) (CoP.refl _)) | (intro j hj;rw [qx (by omega),a1k (by omega)];revert j;exact lt3 (CoP.refl _) (CoP.refl _) (CoP.refl _))))⟩,u9,u9,u9,u9,trivial⟩⟩
   ·
    have h2:=of_decide_eq_false r2
    try simp only [ty] at h2
    refine aa ?_;refine ay (E:=b5) ae ak [0,1,2,3,4,5,6,7] ?_;(iterate 3 refine qy ?_);refine rc rfl rfl rfl rfl rfl rfl wt (c49 _ (by omega)) (CoL.refl _) rfl rfl ?_;refine m9 9 ?_
    refine ra 10 true rfl rfl rfl rfl rfl rfl ?_;refine qy ?_;refine s9 ?_;refine a6 ?_;refine ⟨by kernel_rfl, ?_⟩;refine gy ?_;(iterate 3 refine qy ?_);refine a6 ?_;refine ⟨k + 1, ?_, ?_, ?_⟩
    · show k + 1 ≤ _
      omega
    · first | omega | (dsimp only;omega)
    · exact ⟨⟨zy,c9,c9,c9,c9,c9,c9,trivial⟩,⟨u9,⟨_,rfl,(iu (fun h=>h) (by first | (intro j hj;rw [qx (by omega)];revert j;exact lt3 (CoP.refl _) (CoP.refl _) (CoP.refl _)) | (intro j hj;rw [qx (by omega),a1k (by omega)];revert j;exact lt3 (CoP.refl _) (CoP.refl _) (CoP.refl _))))⟩,u9,u9,u9,u9,trivial⟩⟩
  ·
   have h1:=of_decide_eq_false r1
   try simp only [ty] at h1
   obtain rfl:k = n:=by omega
   refine aq ?_;refine gn 6 1 rfl rfl rfl rfl rfl ?_;refine gy ?_;(iterate 3 refine qy ?_);refine m9 11 ?_;refine ra 12 true rfl rfl rfl rfl rfl rfl ?_;refine qy ?_;refine s9 ?_;refine a6 ?_
   refine gy ?_;(iterate 3 refine qy ?_);refine a6 ?_;refine ⟨i + 1, ?_, ?_, ?_⟩
   · show i + 1 ≤ _
     omega
   · first | omega | (dsimp only;omega)
   · exact ⟨⟨zy,c9,c9,c9,c9,trivial⟩,⟨u9,⟨_,rfl,(iu (fun h=>h) (by intro j hj;rw [as0 (by omega)];revert j;exact lt2 (CoP.refl _) (CoP.sl x6 (.inl rfl) (fun h=>h) (fun _ _ _ _=>CoP.refl _))))⟩,u9,u9,trivial⟩⟩
 ·
  have h0:=of_decide_eq_false r0
  try simp only [ty] at h0
  obtain rfl:i = x.rows.length:=by omega
  refine aq ?_;refine sx7 ?_;refine qy ?_;refine s9 ?_;refine a6 ?_
  exact hx8 rfl rfl rfl (⟨CoC.agg ⟨CoP.refl _,CoP.refl _,CoP.sl aat (.inl rfl) (fun h=>h) (fun _ _ _ _=>CoP.refl _),trivial⟩,trivial⟩)
end Go.Hx
end
section
namespace Go.Hx
open Go.Proofs
set_option maxRecDepth 100000
set_option maxHeartbeats 1000000
theorem aso:ai Tryz.prog 81:=⟨Tryz.f81,Tryz.func81,by kernel_rfl,by kernel_rfl⟩
theorem aqa (t:Tbl):al Tryz.prog 81 [t.pc] (az [pI (qo t)]):=by
 refine ag (nt:=13) ae Tryz.func81 rfl rfl l9 ?_;refine sx7 ?_;refine m9 0 ?_;refine qy ?_;refine a6 ?_;refine a7 ?_;refine sx7 ?_;refine qy ?_
 refine rc rfl rfl rfl rfl rfl rfl xf (c82 t) (CoL.refl _) rfl rfl ?_;refine qy ?_;refine a6 ?_;refine sx7 ?_;(iterate 2 refine qy ?_);refine a6 ?_;refine a8 _ rfl (fun r0=>?_) (fun r0=>?_)
 ·
  have h0:=r0
  have h0:=of_decide_eq_false (b8 h0)
  try simp only [ty] at h0
  refine sx7 ?_;(iterate 2 refine qy ?_);refine a6 ?_
  exact hx8 rfl rfl rfl (⟨cci (by unfold qo;simp [*] <;> omega),trivial⟩)
 ·
  have h0:=r0
  have h0:=of_decide_eq_true (b9 h0)
  try simp only [ty] at h0
  refine aa ?_;refine a7 ?_;refine sx7 ?_;(iterate 4 refine qy ?_);refine a6 ?_;refine a8 _ rfl (fun r1=>?_) (fun r1=>?_)
  ·
   have h1:=of_decide_eq_true r1
   try simp only [ty] at h1
   refine sx7 ?_;refine qy ?_;refine a6 ?_
   exact hx8 rfl rfl rfl (⟨cci (by unfold qo;simp [*] <;> omega),trivial⟩)
  ·
   have h1:=of_decide_eq_false r1
   try simp only [ty] at h1
   refine aa ?_;refine sx7 ?_;refine qy ?_;refine a6 ?_
   exact hx8 rfl rfl rfl (⟨cci (by unfold qo;simp [*] <;> omega),trivial⟩)
theorem agu:ai Tryz.prog 99:=⟨Tryz.f99,Tryz.func99,by kernel_rfl,by kernel_rfl⟩
theorem agk (t:Tbl):al Tryz.prog 99 [t.pc] (az [pI (nc t)]):=by
 refine ag (nt:=19) ae Tryz.func99 rfl rfl l9 ?_;refine sx7 ?_;refine m9 0 ?_;refine qy ?_;refine a6 ?_;refine a7 ?_;refine sx7 ?_;refine qy ?_
 refine rc rfl rfl rfl rfl rfl rfl xf (c82 t) (CoL.refl _) rfl rfl ?_;refine qy ?_;refine a6 ?_;refine sx7 ?_;(iterate 2 refine qy ?_);refine a6 ?_;refine a8 _ rfl (fun r0=>?_) (fun r0=>?_)
 ·
  have h0:=r0
  have h0:=of_decide_eq_false (b8 h0)
  try simp only [ty] at h0
  refine sx7 ?_;(iterate 2 refine qy ?_);refine a6 ?_
  exact hx8 rfl rfl rfl (⟨cci (by unfold nc;simp [*] <;> omega),trivial⟩)
 ·
  have h0:=r0
  have h0:=of_decide_eq_true (b9 h0)
  try simp only [ty] at h0
  refine aa ?_;refine a7 ?_;refine sx7 ?_;(iterate 5 refine qy ?_);refine b4 rfl rfl (fun r1=>?_) (fun r1=>?_)
  ·
   have h1:=of_decide_eq_true r1
   try simp only [ty] at h1
   (iterate 4 refine k9 (gtf r1) ?_);refine rq rfl rfl rfl rfl rfl ?_ (hp:=r1);refine a6 ?_;refine a8 _ rfl (fun _=>?_) (fun e=>by cases e);refine sx7 ?_;refine qy ?_;refine a6 ?_
   exact hx8 rfl rfl rfl (⟨cci (by unfold nc;simp [*] <;> omega),trivial⟩)
  ·
   have h1:=of_decide_eq_false r1
   try simp only [ty] at h1
   (iterate 4 refine qy ?_ (hg:=(gff r1)));refine qy ?_;refine a6 ?_;refine a8 _ rfl (fun r2=>?_) (fun r2=>?_)
   ·
    have h2:=r2
    have h2:=bp r1 h2
    have h2:=of_decide_eq_true h2
    try simp only [ty] at h2
    refine sx7 ?_;refine qy ?_;refine a6 ?_
    exact hx8 rfl rfl rfl (⟨cci (by unfold nc;simp [*] <;> omega),trivial⟩)
   ·
    have h2:=r2
    have h2:=bp r1 h2
    have h2:=of_decide_eq_false h2
    try simp only [ty] at h2
    refine aa ?_;refine sx7 ?_;refine qy ?_;refine a6 ?_
    exact hx8 rfl rfl rfl (⟨cci (by unfold nc;simp [*] <;> omega),trivial⟩)
theorem amr:ai Tryz.prog 117:=⟨Tryz.f117,Tryz.func117,by kernel_rfl,by kernel_rfl⟩
theorem aor (a b:Row) (hab:b.vals.length = a.vals.length) (hn:a.vals.length ≤ 16) (ra:a.ok) (rb:b.ok):al Tryz.prog 117 [a.pc,b.pc] (az [pA (agR a b)]):=by
 refine ag (nt:=38) ae Tryz.func117 rfl rfl l9 ?_;refine sx7 ?_;refine m9 0 ?_;refine m9 1 ?_;refine qy ?_;refine a6 ?_;refine sx7 ?_;refine qy ?_;refine a6 ?_;refine a7 ?_;refine sx7 ?_
 refine qy ?_;refine a6 ?_;refine af ?_
 refine av (ι:=Nat) ⟨[(2,some _),(3,some _)],[(0,some _),(1,some _)]⟩ ⟨⟨c9,c9,trivial⟩,⟨u9,u9,trivial⟩⟩ (fun i=>⟨[(5,some (vA (agT a b i))),(6,some (vI i))],[]⟩) (fun i=>i ≤ a.vals.length) (fun i=>a.vals.length - i) (0) (Nat.zero_le _) ⟨⟨zy,zy,trivial⟩,trivial⟩ ?_
 rintro i hi
 refine a7 ?_;refine sx7 ?_;(iterate 6 refine qy ?_);refine b4 rfl rfl (fun r0=>?_) (fun r0=>?_)
 ·
  have h0:=of_decide_eq_true r0
  try simp only [ty] at h0
  (iterate 5 refine qy ?_ (hg:=(gtt r0)));refine qy ?_;refine a6 ?_;refine a8 _ rfl (fun r1=>?_) (fun r1=>?_)
  ·
   have h1:=r1
   have h1:=ci r0 h1
   have h1:=of_decide_eq_true h1
   try simp only [ty] at h1
   refine aa ?_;refine a7 ?_;refine af ?_;refine a7 ?_;refine ay (E:=b5) ae ak [0,1,2,3,4,5,6,7,8,9,10,11] ?_;(iterate 10 refine qy ?_)
   refine rc rfl rfl rfl rfl rfl rfl ae2 (arn _ _ (ra.2 i (by omega)) (rb.2 i (by omega))) (CoL.refl _) rfl rfl ?_;refine qy ?_;refine a6 ?_;refine ⟨by kernel_rfl, ?_⟩
   refine a8 _ rfl (fun r2=>?_) (fun r2=>?_)
   ·
    have h2:=of_decide_eq_true r2
    try simp only [ty] at h2
    refine gy ?_;(iterate 5 refine qy ?_);refine a6 ?_;refine gy ?_;(iterate 3 refine qy ?_);refine a6 ?_
    first | (refine ⟨i + 1, ?_, ?_, ?_⟩
             · show i + 1 ≤ _;omega
             · first | omega | (dsimp only;omega)
             · exact ⟨⟨⟨_,rfl,(by simp only [Int.toNat_natCast];exact io (ye (by assumption)))⟩,zy,c9,c9,trivial⟩,⟨u9,u9,trivial⟩⟩)
          | (refine ⟨i + 1, ?_, ?_, ?_⟩
             · show i + 1 ≤ _;omega
             · first | omega | (dsimp only;omega)
             · exact ⟨⟨⟨_,rfl,(io (by rw [a90 (by assumption)]))⟩,zy,c9,c9,trivial⟩,⟨u9,u9,trivial⟩⟩)
   ·
    have h2:=of_decide_eq_false r2
    try simp only [ty] at h2
    refine aa ?_;refine gy ?_;(iterate 3 refine qy ?_);refine a6 ?_
    first | (refine ⟨i + 1, ?_, ?_, ?_⟩
             · show i + 1 ≤ _;omega
             · first | omega | (dsimp only;omega)
             · exact ⟨⟨⟨_,rfl,(by simp only [Int.toNat_natCast];exact io (ye (by assumption)))⟩,zy,c9,c9,trivial⟩,⟨u9,u9,trivial⟩⟩)
          | (refine ⟨i + 1, ?_, ?_, ?_⟩
             · show i + 1 ≤ _;omega
             · first | omega | (dsimp only;omega)
             · exact ⟨⟨⟨_,rfl,(io (by rw [a90 (by assumption)]))⟩,zy,c9,c9,trivial⟩,⟨u9,u9,trivial⟩⟩)
  ·
   have h1:=r1
   have h1:=ci r0 h1
   have h1:=of_decide_eq_false h1
   try simp only [ty] at h1
   obtain rfl:i = a.vals.length:=by omega
   refine aq ?_;refine sx7 ?_;(iterate 2 refine qy ?_);refine a6 ?_
   exact hx8 rfl rfl rfl (CoL.refl _)
 ·
  have h0:=of_decide_eq_false r0
  try simp only [ty] at h0
  obtain rfl:i = a.vals.length:=by omega
  (iterate 5 refine k9 (gft r0) ?_);refine rq rfl rfl rfl rfl rfl ?_ (hp:=r0);refine a6 ?_;refine a8 _ rfl (fun e=>by cases e) (fun _=>?_);refine aq ?_;refine sx7 ?_;(iterate 2 refine qy ?_)
  refine a6 ?_
  exact hx8 rfl rfl rfl (CoL.refl _)
theorem apz:ai Tryz.prog 82:=⟨Tryz.f82,Tryz.func82,by kernel_rfl,by kernel_rfl⟩
theorem aqe (t:Tbl) (ht:TOk t):al Tryz.prog 82 [t.pc] (az [pP (asl (prs t.rows))]):=by
 refine ag (nt:=37) ae Tryz.func82 rfl rfl l9 ?_
 have hnr:=ht.nr
 have hna:=ht.na
 have hsq:t.rows.length * t.rows.length ≤ 1000000:=Nat.mul_le_mul hnr hnr
 refine sx7 ?_;refine m9 0 ?_;refine qy ?_;refine a6 ?_;refine sx7 ?_;refine qy ?_;refine a6 ?_;refine a7 ?_;refine sx7 ?_;refine qy ?_;refine a6 ?_;refine af ?_
 refine ec 3 900 true 1 69 (lf sC []) (by decide) rfl (CoP.sl rfl (.inr rfl) (fun h=>h) (fun i j hi _=>absurd hi (Nat.not_lt_zero i))) (.inr rfl) rfl ?_
 refine av (ι:=Nat) ⟨[(1,some _)],[(0,some _)]⟩ ⟨⟨c9,trivial⟩,⟨u9,trivial⟩⟩ (fun i=>⟨[(3,some (.v (.one (.ref 900 (ll t.rows i (i + 1)).length)))),(4,some (vI i))],[(900,some (.arr true 1 69 (ll t.rows i (i + 1)).length (lf sC (ll t.rows i (i + 1)))))]⟩) (fun i=>i ≤ t.rows.length) (fun i=>t.rows.length - i) (0) (Nat.zero_le _) ⟨⟨⟨_,rfl,(d9 (a8j _))⟩,zy,trivial⟩,⟨⟨_,rfl,(cr (a8j _))⟩,trivial⟩⟩ ?_
 rintro i hi
 have hlen:=a9k t.rows i (i + 1) hi
 refine a7 ?_;refine sx7 ?_;(iterate 5 refine qy ?_);refine a6 ?_;refine a8 _ rfl (fun r0=>?_) (fun r0=>?_)
 ·
  have h0:=of_decide_eq_true r0
  try simp only [ty] at h0
  refine aa ?_;refine a7 ?_;refine af ?_;refine sx7 ?_;(iterate 3 refine qy ?_);refine a6 ?_;refine af ?_
  refine av (ι:=Nat) ⟨[(1,some _),(4,some _)],[(0,some _)]⟩ ⟨⟨c9,c9,trivial⟩,⟨u9,trivial⟩⟩ (fun k=>⟨[(3,some (.v (.one (.ref 900 (ll t.rows i k).length)))),(5,some (vI k))],[(900,some (.arr true 1 69 (ll t.rows i k).length (lf sC (ll t.rows i k))))]⟩) (fun k=>i + 1 ≤ k ∧ k ≤ t.rows.length) (fun k=>t.rows.length - k) (i + 1) (⟨Nat.le_refl _,by omega⟩) ⟨⟨zy,zy,trivial⟩,⟨u9,trivial⟩⟩ ?_
  rintro k ⟨hk1,hk2⟩
  have hlen2:=a9k t.rows i k (by omega)
  refine a7 ?_;refine sx7 ?_;(iterate 5 refine qy ?_);refine a6 ?_;refine a8 _ rfl (fun r1=>?_) (fun r1=>?_)
  ·
   have h1:=of_decide_eq_true r1
   try simp only [ty] at h1
   refine aa ?_;refine a7 ?_;refine af ?_;refine ay (E:=b5) ae ak [0,1,2,3,4,5,6,7,8,9,10,11,12,13,14] ?_;(iterate 11 refine qy ?_)
   refine rc rfl rfl rfl rfl rfl rfl amr (aor (t.rows.getD i default) (t.rows.getD k default) (by rw [ht.width (by omega),ht.width (by omega)]) (by rw [ht.width (by omega)];omega) (ht.rows i (by omega)) (ht.rows k (by omega))) (CoL.refl _) rfl rfl ?_
   refine m9 1 ?_;refine ra 2 true rfl rfl rfl rfl rfl rfl ?_;refine qy ?_;refine a6 ?_;refine ⟨by kernel_rfl, ?_⟩;refine gy ?_;(iterate 3 refine qy ?_);refine a6 ?_;refine ⟨k + 1, ?_, ?_, ?_⟩
   · exact ⟨by omega,by omega⟩
   · first | omega | (dsimp only;omega)
   · exact ⟨⟨⟨_,rfl,(dt (a8d (by omega) (by omega)))⟩,zy,c9,c9,trivial⟩,⟨⟨_,rfl,(ek (a8d (by omega) (by omega)) (CoP.refl _))⟩,u9,trivial⟩⟩
  ·
   have h1:=of_decide_eq_false r1
   try simp only [ty] at h1
   refine aq ?_;refine gy ?_;(iterate 3 refine qy ?_);refine a6 ?_;refine ⟨i + 1, ?_, ?_, ?_⟩
   · show i + 1 ≤ _;omega
   · first | omega | (dsimp only;omega)
   · exact ⟨⟨⟨_,rfl,(d9 (a7r (by omega)).symm)⟩,zy,c9,trivial⟩,⟨⟨_,rfl,(cr (a7r (by omega)).symm)⟩,u9,trivial⟩⟩
 ·
  have h0:=of_decide_eq_false r0
  try simp only [ty] at h0
  obtain rfl:i = t.rows.length:=by omega
  refine aq ?_;refine sx7 ?_;(iterate 2 refine qy ?_);refine a6 ?_;refine dp 2 rfl rfl rfl ?_
  exact hx8 rfl rfl rfl (⟨CoC.one (CoP.of_eq (by rw [alq];rfl)),trivial⟩)
theorem arj:ai Tryz.prog 45:=⟨Tryz.f45,Tryz.func45,by kernel_rfl,by kernel_rfl⟩
theorem av1 (t:Tbl):al Tryz.prog 45 [t.pc] (az [pP (a9w (a5l t)),pI (qo t)]):=by
 refine ag (nt:=53) ae Tryz.func45 rfl rfl l9 ?_;refine sx7 ?_;refine m9 0 ?_;(iterate 2 refine qy ?_);refine a6 ?_;refine a7 ?_;refine sx7 ?_;refine qy ?_
 refine rc rfl rfl rfl rfl rfl rfl aso (aqa t) (CoL.refl _) rfl rfl ?_;refine qy ?_;refine a6 ?_;refine sx7 ?_;(iterate 2 refine qy ?_);refine a6 ?_;refine a8 _ rfl (fun r0=>?_) (fun r0=>?_)
 ·
  have h0:=r0
  have h0:=of_decide_eq_false (b8 h0)
  try simp only [ty] at h0
  refine sx7 ?_;(iterate 3 refine qy ?_);refine a6 ?_
  exact hx8 rfl rfl rfl (⟨CoC.one (by rw [show a5l t = [] from if_neg (by assumption)];exact bc),CoC.refl _,trivial⟩)
 ·
  have h0:=r0
  have h0:=of_decide_eq_true (b9 h0)
  try simp only [ty] at h0
  obtain ⟨ht,h200⟩:=akv h0
  have hnr:=ht.nr
  have hna:=ht.na
  have hsq:t.rows.length * t.rows.length ≤ 1000000:=Nat.mul_le_mul hnr hnr
  have hpl:=a1h t.rows
  have hol:=su (prs t.rows)
  refine aa ?_;refine sx7 ?_;refine qy ?_;refine rc rfl rfl rfl rfl rfl rfl apz (aqe t ht) (CoL.refl _) rfl rfl ?_;refine qy ?_;refine a6 ?_;refine sx7 ?_;refine qy ?_
  refine rc rfl rfl rfl rfl rfl rfl ah5 (adl (prs t.rows) (by omega)) (CoL.refl _) rfl rfl ?_;refine qy ?_;refine a6 ?_;refine sx7 ?_;refine qy ?_;refine a6 ?_;refine a7 ?_;refine sx7 ?_;refine qy ?_
  refine a6 ?_;refine af ?_;refine ec 7 900 true 2 119 (lf Cnt.c []) (by decide) rfl (CoP.sl rfl (.inr rfl) (fun h=>h) (fun i j hi _=>absurd hi (Nat.not_lt_zero i))) (.inr rfl) rfl ?_
  refine av (ι:=Nat) ⟨[(5,some _),(6,some _)],[]⟩ ⟨⟨c9,c9,trivial⟩,trivial⟩ (fun i=>⟨[(7,some (.v (.one (.ref 900 (qq t.rows i).length)))),(8,some (vI i))],[(900,some (.arr true 2 119 (qq t.rows i).length (lf Cnt.c (qq t.rows i))))]⟩) (fun i=>i ≤ (ord (prs t.rows)).length) (fun i=>(ord (prs t.rows)).length - i) (0) (Nat.zero_le _) ⟨⟨zy,zy,trivial⟩,⟨u9,trivial⟩⟩ ?_
  rintro i hi
  have hlen:=ai5 t.rows i
  refine a7 ?_;refine sx7 ?_;(iterate 4 refine qy ?_);refine a6 ?_;refine a8 _ rfl (fun r1=>?_) (fun r1=>?_)
  ·
   have h1:=of_decide_eq_true r1
   try simp only [ty] at h1
   refine aa ?_;refine a7 ?_;refine af ?_;refine sx7 ?_;refine qy ?_;refine a6 ?_;refine a7 ?_;refine sx7 ?_;refine qy ?_;refine a6 ?_;refine af ?_
   refine av (ι:=Nat) ⟨[(5,some _),(6,some _),(7,some _),(8,some _)],[(900,some _)]⟩ ⟨⟨c9,c9,c9,c9,trivial⟩,⟨u9,trivial⟩⟩ (fun k=>⟨[(9,some (vI ((uj (prs t.rows) ((ord (prs t.rows)).getD i default) k:Nat):Int))),(10,some (vI k))],[]⟩) (fun k=>k ≤ (prs t.rows).length) (fun k=>(prs t.rows).length - k) (0) (Nat.zero_le _) ⟨⟨zy,zy,trivial⟩,trivial⟩ ?_
   rintro k hk
   have hcl:=apm (prs t.rows) ((ord (prs t.rows)).getD i default) k
   refine a7 ?_;refine sx7 ?_;(iterate 4 refine qy ?_);refine a6 ?_;refine a8 _ rfl (fun r2=>?_) (fun r2=>?_)
   ·
    have h2:=of_decide_eq_true r2
    try simp only [ty] at h2
    refine aa ?_;refine a7 ?_;refine af ?_;refine a7 ?_;refine ay (E:=b5) ae ak [0,1,2,3,4,5,6,7,8] ?_;(iterate 9 refine qy ?_);refine a6 ?_;refine ⟨by kernel_rfl, ?_⟩
    refine a8 _ rfl (fun r3=>?_) (fun r3=>?_)
    ·
     have h3:=of_decide_eq_true r3
     try simp only [ty] at h3
     have g:(prs t.rows).getD k default = ((ord (prs t.rows)).getD i default):=it.1 h3
     have g2:=asy (by omega) g
     refine gy ?_;(iterate 3 refine qy ?_);refine a6 ?_;refine gy ?_;(iterate 3 refine qy ?_);refine a6 ?_;refine ⟨k + 1, ?_, ?_, ?_⟩
     · show k + 1 ≤ _;omega
     · first | omega | (dsimp only;omega)
     · exact ⟨⟨⟨_,rfl,(coi (by omega))⟩,zy,c9,c9,c9,c9,trivial⟩,⟨u9,trivial⟩⟩
    ·
     have h3:=of_decide_eq_false r3
     try simp only [ty] at h3
     have g:¬ (prs t.rows).getD k default = ((ord (prs t.rows)).getD i default):=fun e=>h3 (by rw [e])
     have g2:=atk (by omega) g
     refine aa ?_;refine gy ?_;(iterate 3 refine qy ?_);refine a6 ?_;refine ⟨k + 1, ?_, ?_, ?_⟩
     · show k + 1 ≤ _;omega
     · first | omega | (dsimp only;omega)
     · exact ⟨⟨⟨_,rfl,(coi (by omega))⟩,zy,c9,c9,c9,c9,trivial⟩,⟨u9,trivial⟩⟩
   ·
    have h2:=of_decide_eq_false r2
    try simp only [ty] at h2
    obtain rfl:k = (prs t.rows).length:=by omega
    refine aq ?_;refine gy ?_;(iterate 7 refine qy ?_);refine m9 1 ?_;refine ra 2 true rfl rfl rfl rfl rfl rfl ?_;refine qy ?_;refine a6 ?_;refine gy ?_;(iterate 3 refine qy ?_);refine a6 ?_
    refine ⟨i + 1, ?_, ?_, ?_⟩
    · show i + 1 ≤ _;omega
    · first | omega | (dsimp only;omega)
    · exact ⟨⟨⟨_,rfl,(dt (a5j (by omega)))⟩,zy,c9,c9,trivial⟩,⟨⟨_,rfl,(ku (a5j (by omega)) (CoP.refl _) (CoP.of_eq (by rw [akt];rfl)))⟩,trivial⟩⟩
  ·
   have h1:=of_decide_eq_false r1
   try simp only [ty] at h1
   obtain rfl:i = (ord (prs t.rows)).length:=by omega
   refine aq ?_;refine sx7 ?_;(iterate 3 refine qy ?_);refine a6 ?_;refine dp 2 rfl rfl rfl ?_
   exact hx8 rfl rfl rfl (⟨CoC.one (CoP.of_eq (by rw [aih (Nat.le_refl _),show a5l t = mi t.rows from if_pos (by assumption)];rfl)),cci (by omega),trivial⟩)
theorem asr:ai Tryz.prog 47:=⟨Tryz.f47,Tryz.func47,by kernel_rfl,by kernel_rfl⟩
theorem ap6 (a b:List Cnt):al Tryz.prog 47 [pP (a9w a),pP (a9w b)] (az [pB (decide (a = b))]):=by
 refine ag (nt:=26) ae Tryz.func47 rfl rfl l9 ?_;refine a7 ?_
 refine j8 0 rfl fun hn=>?_
 refine gy ?_;refine qy ?_;refine a6 ?_;refine a7 ?_;refine sx7 ?_;(iterate 5 refine qy ?_);refine a6 ?_;refine a8 _ rfl (fun r0=>?_) (fun r0=>?_)
 ·
  have h0:=r0
  have h0:=of_decide_eq_false (b8 h0)
  try simp only [ty] at h0
  refine sx7 ?_;refine qy ?_;refine a6 ?_
  exact hx8 rfl rfl rfl (⟨ccb (decide_eq_false fun e=>by subst e;omega).symm,trivial⟩)
 ·
  have h0:=r0
  have h0:=of_decide_eq_true (b9 h0)
  try simp only [ty] at h0
  refine aa ?_;refine df (ι:=Unit) ⟨[],[]⟩ ⟨trivial,trivial⟩ (fun _i=>⟨[],[]⟩) (fun _i=>a = b) ?_ ?_
  ·
   refine sx7 ?_;refine qy ?_;refine a6 ?_;refine af ?_
   refine av (ι:=Nat) ⟨[(0,some _),(1,some _)],[]⟩ ⟨⟨c9,c9,trivial⟩,trivial⟩ (fun i=>⟨[(5,some (vI i))],[]⟩) (fun i=>i ≤ a.length ∧ ∀ j,j < i → decide (a.getD j default = b.getD j default) = true) (fun i=>a.length - i) (0) (⟨Nat.zero_le _,dm⟩) ⟨⟨zy,trivial⟩,trivial⟩ ?_
   rintro i ⟨hi,hI⟩
   refine a7 ?_;refine sx7 ?_;(iterate 4 refine qy ?_);refine a6 ?_;refine a8 _ rfl (fun r1=>?_) (fun r1=>?_)
   ·
    have h1:=of_decide_eq_true r1
    try simp only [ty] at h1
    refine aa ?_;refine a7 ?_;refine af ?_;refine a7 ?_;refine ay (E:=b5) ae ak [0,1,2,3,4,5,6,7,8] ?_;(iterate 9 refine qy ?_);refine a6 ?_;refine ⟨by kernel_rfl, ?_⟩
    refine a8 _ rfl (fun r2=>?_) (fun r2=>?_)
    ·
     have h2:=r2
     refine sx7 ?_;refine qy ?_;refine a6 ?_
     exact hx8 rfl rfl rfl (⟨ccb (decide_eq_false fun e=>by subst e;simp_all).symm,trivial⟩)
    ·
     have h2:=r2
     refine aa ?_;refine gy ?_;(iterate 3 refine qy ?_);refine a6 ?_;refine ⟨i + 1, ?_, ?_, ?_⟩
     · exact ⟨by omega,d8 hI (decide_eq_true (by simp_all [Cnt.eq_iff,it]))⟩
     · first | omega | (dsimp only;omega)
     · exact ⟨⟨zy,c9,c9,trivial⟩,trivial⟩
   ·
    have h1:=of_decide_eq_false r1
    try simp only [ty] at h1
    refine aq ?_;refine ⟨(), ?_, ?_⟩
    · exact a1u (by omega) fun j hj=>of_decide_eq_true (hI j (by omega))
    · exact ⟨trivial,trivial⟩
  · rintro _ hj
    refine sx7 ?_;refine qy ?_;refine a6 ?_
    exact hx8 rfl rfl rfl (⟨ccb (decide_eq_true hj).symm,trivial⟩)
theorem adr:ai Tryz.prog 150:=⟨Tryz.f150,Tryz.func150,by kernel_rfl,by kernel_rfl⟩
theorem am3 (r:Row) (s:AS) (hr:r.vals.length ≤ 68719476736):al Tryz.prog 150 [r.pc,pA s] (az [pP (vals (a3c r.vals s))]):=by
 refine ag (nt:=26) ae Tryz.func150 rfl rfl l9 ?_;refine sx7 ?_;refine m9 0 ?_;refine qy ?_;refine a6 ?_;refine sx7 ?_;refine qy ?_;refine a6 ?_;refine a7 ?_;refine sx7 ?_;refine qy ?_
 refine a6 ?_;refine af ?_;refine ec 5 900 true 3 81 (lf Val.c []) (by decide) rfl (CoP.sl rfl (.inr rfl) (fun h=>h) (fun i j hi _=>absurd hi (Nat.not_lt_zero i))) (.inr rfl) rfl ?_
 refine av (ι:=Nat) ⟨[(1,some _),(2,some _)],[(0,some _)]⟩ ⟨⟨c9,c9,trivial⟩,⟨u9,trivial⟩⟩ (fun i=>⟨[(5,some (.v (.one (.ref 900 (tn r.vals s i).length)))),(6,some (vI i))],[(900,some (.arr true 3 81 (tn r.vals s i).length (lf Val.c (tn r.vals s i))))]⟩) (fun i=>i ≤ r.vals.length) (fun i=>r.vals.length - i) (0) (Nat.zero_le _) ⟨⟨zy,zy,trivial⟩,⟨u9,trivial⟩⟩ ?_
 rintro i hi
 have hlen:=akj r.vals s i
 refine a7 ?_;refine sx7 ?_;(iterate 5 refine qy ?_);refine a6 ?_;refine a8 _ rfl (fun r0=>?_) (fun r0=>?_)
 ·
  have h0:=of_decide_eq_true r0
  try simp only [ty] at h0
  refine aa ?_;refine a7 ?_;refine af ?_;refine sx7 ?_;(iterate 2 refine qy ?_);refine rc rfl rfl rfl rfl rfl rfl ado (arx s i) (CoL.refl _) rfl rfl ?_;refine a6 ?_
  refine a8 _ rfl (fun r1=>?_) (fun r1=>?_)
  ·
   have h1:=r1
   refine gy ?_;(iterate 6 refine qy ?_);refine m9 1 ?_;refine ra 2 true rfl rfl rfl rfl rfl rfl ?_;refine qy ?_;refine a6 ?_;refine gy ?_;(iterate 3 refine qy ?_);refine a6 ?_
   first | (refine ⟨i + 1, ?_, ?_, ?_⟩
            · show i + 1 ≤ _;omega
            · first | omega | (dsimp only;omega)
            · exact ⟨⟨⟨_,rfl,(dt (a5b (by assumption)))⟩,zy,c9,c9,trivial⟩,⟨⟨_,rfl,(a1d (a5b (by assumption)) (lt3 (CoP.refl _) (CoP.refl _) (CoP.refl _)))⟩,u9,trivial⟩⟩)
         | (refine ⟨i + 1, ?_, ?_, ?_⟩
            · show i + 1 ≤ _;omega
            · first | omega | (dsimp only;omega)
            · exact ⟨⟨⟨_,rfl,(d9 (a5d (by assumption)))⟩,zy,c9,c9,trivial⟩,⟨⟨_,rfl,(cr (a5d (by assumption)))⟩,u9,trivial⟩⟩)
  ·
   have h1:=r1
   refine aa ?_;refine gy ?_;(iterate 3 refine qy ?_);refine a6 ?_
   first | (refine ⟨i + 1, ?_, ?_, ?_⟩
            · show i + 1 ≤ _;omega
            · first | omega | (dsimp only;omega)
            · exact ⟨⟨⟨_,rfl,(dt (a5b (by assumption)))⟩,zy,c9,c9,trivial⟩,⟨⟨_,rfl,(a1d (a5b (by assumption)) (lt3 (CoP.refl _) (CoP.refl _) (CoP.refl _)))⟩,u9,trivial⟩⟩)
         | (refine ⟨i + 1, ?_, ?_, ?_⟩
            · show i + 1 ≤ _;omega
            · first | omega | (dsimp only;omega)
            · exact ⟨⟨⟨_,rfl,(d9 (a5d (by assumption)))⟩,zy,c9,c9,trivial⟩,⟨⟨_,rfl,(cr (a5d (by assumption)))⟩,u9,trivial⟩⟩)
 ·
  have h0:=of_decide_eq_false r0
  try simp only [ty] at h0
  obtain rfl:i = r.vals.length:=by omega
  refine aq ?_;refine sx7 ?_;(iterate 2 refine qy ?_);refine a6 ?_;refine dp 4 rfl rfl rfl ?_
  exact hx8 rfl rfl rfl (⟨CoC.one (CoP.refl _),trivial⟩)
theorem a7i:ai Tryz.prog 121:=⟨Tryz.f121,Tryz.func121,by kernel_rfl,by kernel_rfl⟩
theorem ajt (a b:Row) (s:AS) (ra:a.ok) (rb:b.ok):al Tryz.prog 121 [a.pc,b.pc,pA s] (az [pB (ue a b s)]):=by
 refine ag (nt:=14) ae Tryz.func121 rfl rfl l9 ?_;refine sx7 ?_;refine m9 0 ?_;refine m9 1 ?_;refine qy ?_;refine a6 ?_;refine a7 ?_
 refine ay (E:=b5) ae ak [0,1,2,3,4,5,6,7] ?_;(iterate 2 refine qy ?_);refine rc rfl rfl rfl rfl rfl rfl adr (am3 a s ra.1) (CoL.refl _) rfl rfl ?_;(iterate 2 refine qy ?_)
 refine rc rfl rfl rfl rfl rfl rfl adr (am3 b s rb.1) (CoL.refl _) rfl rfl ?_;refine rc rfl rfl rfl rfl rfl rfl ae9 (c81 _ _ (aib ra.2) (aib rb.2)) (CoL.refl _) rfl rfl ?_;refine qy ?_;refine a6 ?_
 refine ⟨by kernel_rfl, ?_⟩
 exact hx8 rfl rfl rfl (CoL.refl _)
end Go.Hx
end

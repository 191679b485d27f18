/- A part of the proof: Mw0 Mw1 Mw2. -/
import Derived.Test.YtaegkccfbmekbaaGreatNx20
import Derived.Test.YtaegkccfbmekbaaGreatNx21
import Derived.Test.YtaegkccfbmekbaaGreatNx22
import Derived.Test.YtaegkccfbmekbaaGreatNx31
set_option linter.all false
section
namespace Go.Hx
open Go.Proofs
set_option maxRecDepth 100000
set_option maxHeartbeats 1000000
theorem ar0 {a b:List AS} (hl:a.length = b.length) (h:∀ j,j < a.length → a.getD j default = b.getD j default):a = b:=by
 apply List.ext_getElem hl
 intro i h1 h2
 have:=h i h1
 rw [List.getD_eq_getElem?_getD,List.getD_eq_getElem?_getD,List.getElem?_eq_getElem h1,List.getElem?_eq_getElem h2] at this
 simpa using this
theorem ahl:ai Tryz.prog 88:=⟨Tryz.f88,Tryz.func88,by kernel_rfl,by kernel_rfl⟩
theorem a7z (l:List AS) (hl:l.length ≤ 8589934592):ak Tryz.prog 88 [pP (asl l)] (av [pP (asl (ug l))]):=by
 refine ag (nt:=49) ae Tryz.func88 rfl rfl l9 ?_;refine sx7 ?_;refine qy ?_;refine a6 ?_;refine sx7 ?_;refine qy ?_;refine a6 ?_;refine sx7 ?_;refine qy ?_
 refine rc rfl rfl rfl rfl rfl rfl ain (ady l hl) (CoL.refl _) rfl rfl ?_;refine qy ?_;refine a6 ?_;refine a7 ?_;refine sx7 ?_;refine qy ?_;refine a6 ?_;refine af ?_
 have hol:=ta l
 refine du 3 900 true 1 69 (lf sC []) (by decide) rfl (CoP.sl rfl (.inr rfl) (fun h=>h) (fun i j hi _=>absurd hi (Nat.not_lt_zero i))) (.inr rfl) rfl ?_
 refine ap (ι:=Nat) ⟨[(4,some _)],[]⟩ ⟨⟨c9,trivial⟩,trivial⟩ (fun i=>⟨[(3,some (.v (.one (.ref 900 (mq l i).length)))),(5,some (vI i))],[(900,some (.arr true 1 69 (mq l i).length (lf sC (mq l i))))]⟩) (fun i=>i ≤ (ord l).length) (fun i=>(ord l).length - i) (0) (Nat.zero_le _) ⟨⟨zy,zy,trivial⟩,⟨u9,trivial⟩⟩ ?_
 rintro i hi
 have hlen:=ai6 l i
 refine a7 ?_;refine sx7 ?_;(iterate 4 refine qy ?_);refine a6 ?_;refine a8 _ rfl (fun r0=>?_) (fun r0=>?_)
 ·
  have h0:=of_decide_eq_true r0
  try simp only [ty] at h0
  refine aa ?_;refine a7 ?_;refine af ?_;refine sx7 ?_;refine qy ?_;refine a6 ?_;refine a7 ?_;refine sx7 ?_;refine qy ?_;refine a6 ?_;refine af ?_
  refine ap (ι:=Nat) ⟨[(3,some _),(4,some _),(5,some _)],[(900,some _)]⟩ ⟨⟨c9,c9,c9,trivial⟩,⟨u9,trivial⟩⟩ (fun k=>⟨[(6,some (vB (okM (ord l) i k))),(7,some (vI k))],[]⟩) (fun k=>k ≤ (ord l).length) (fun k=>(ord l).length - k) (0) (Nat.zero_le _) ⟨⟨⟨_,rfl,(cob rfl)⟩,zy,trivial⟩,trivial⟩ ?_
  rintro k hk
  refine a7 ?_;refine sx7 ?_;(iterate 4 refine qy ?_);refine a6 ?_;refine a8 _ rfl (fun r1=>?_) (fun r1=>?_)
  ·
   have h1:=of_decide_eq_true r1
   try simp only [ty] at h1
   refine aa ?_;refine a7 ?_;refine af ?_;refine aw (E:=b5) ae al [0,1,2,3,4,5,6,7,8,9,10,11,12,13,14,15,16,17,18] ?_;(iterate 2 refine qy ?_)
   refine b6 rfl rfl (fun r2=>?_) (fun r2=>?_)
   ·
    have h2:=r2
    (iterate 4 refine qy ?_ (hg:=(gtt r2)));refine b6 rfl rfl (fun r3=>?_) (fun r3=>?_)
    ·
     have h3:=of_decide_eq_true r3
     try simp only [ty] at h3
     (iterate 10 refine k9 (gtf r3) ?_);refine rq rfl rfl rfl rfl (gtt r2) ?_ (hp:=r3);(iterate 2 refine qy ?_);refine a6 ?_;refine ⟨by kernel_rfl, ?_⟩;refine gy ?_;(iterate 3 refine qy ?_);refine a6 ?_
     refine ⟨k + 1, ?_, ?_, ?_⟩
     · show k + 1 ≤ _;omega
     · first | omega | (dsimp only;omega)
     · exact ⟨⟨⟨_,rfl,(cob (by rw [okM_succ'];simp_all only [tk];simp))⟩,zy,c9,c9,c9,trivial⟩,⟨u9,trivial⟩⟩
    ·
     have h3:=of_decide_eq_false r3
     try simp only [ty] at h3
     (iterate 8 refine qy ?_ (hg:=(gff r3)));refine rc rfl rfl rfl rfl rfl rfl aof (au4 _ _) (CoL.refl _) rfl (gff r3) ?_;refine qy ?_ (hg:=(gff r3));refine qy ?_ (hg:=(gtt r2));(iterate 2 refine qy ?_)
     refine a6 ?_;refine ⟨by kernel_rfl, ?_⟩;refine gy ?_;(iterate 3 refine qy ?_);refine a6 ?_;refine ⟨k + 1, ?_, ?_, ?_⟩
     · show k + 1 ≤ _;omega
     · first | omega | (dsimp only;omega)
     · exact ⟨⟨⟨_,rfl,(cob (by rw [okM_succ'];simp_all only [tk];simp))⟩,zy,c9,c9,c9,trivial⟩,⟨u9,trivial⟩⟩
   ·
    have h2:=r2
    (iterate 4 refine k9 (gft r2) ?_);(iterate 10 refine k9 rfl ?_);refine k9 (gft r2) ?_;refine rq rfl rfl rfl rfl rfl ?_ (hp:=r2);refine qy ?_;refine a6 ?_;refine ⟨by kernel_rfl, ?_⟩;refine gy ?_
    (iterate 3 refine qy ?_);refine a6 ?_;refine ⟨k + 1, ?_, ?_, ?_⟩
    · show k + 1 ≤ _;omega
    · first | omega | (dsimp only;omega)
    · exact ⟨⟨⟨_,rfl,(cob (by rw [okM_succ'];simp_all only [tk];simp))⟩,zy,c9,c9,c9,trivial⟩,⟨u9,trivial⟩⟩
  ·
   have h1:=of_decide_eq_false r1
   try simp only [ty] at h1
   obtain rfl:k = (ord l).length:=by omega
   refine am ?_;refine sx7 ?_;refine qy ?_;refine a6 ?_;refine a8 _ rfl (fun r4=>?_) (fun r4=>?_)
   ·
    have h4:=r4
    refine gy ?_;(iterate 5 refine qy ?_);refine m9 0 ?_;refine ra 1 true rfl rfl rfl rfl rfl rfl ?_;refine qy ?_;refine a6 ?_;refine gy ?_;(iterate 3 refine qy ?_);refine a6 ?_
    first | (refine ⟨i + 1, ?_, ?_, ?_⟩
             · show i + 1 ≤ _;omega
             · first | omega | (dsimp only;omega)
             · exact ⟨⟨⟨_,rfl,(dj (a17 (by omega) (by assumption)))⟩,zy,c9,trivial⟩,⟨⟨_,rfl,(ec (a17 (by omega) (by assumption)) (CoP.refl _))⟩,trivial⟩⟩)
          | (refine ⟨i + 1, ?_, ?_, ?_⟩
             · show i + 1 ≤ _;omega
             · first | omega | (dsimp only;omega)
             · exact ⟨⟨⟨_,rfl,(cw (a12 (by omega) (by assumption)))⟩,zy,c9,trivial⟩,⟨⟨_,rfl,(cg (a12 (by omega) (by assumption)))⟩,trivial⟩⟩)
   ·
    have h4:=r4
    refine aa ?_;refine gy ?_;(iterate 3 refine qy ?_);refine a6 ?_
    first | (refine ⟨i + 1, ?_, ?_, ?_⟩
             · show i + 1 ≤ _;omega
             · first | omega | (dsimp only;omega)
             · exact ⟨⟨⟨_,rfl,(dj (a17 (by omega) (by assumption)))⟩,zy,c9,trivial⟩,⟨⟨_,rfl,(ec (a17 (by omega) (by assumption)) (CoP.refl _))⟩,trivial⟩⟩)
          | (refine ⟨i + 1, ?_, ?_, ?_⟩
             · show i + 1 ≤ _;omega
             · first | omega | (dsimp only;omega)
             · exact ⟨⟨⟨_,rfl,(cw (a12 (by omega) (by assumption)))⟩,zy,c9,trivial⟩,⟨⟨_,rfl,(cg (a12 (by omega) (by assumption)))⟩,trivial⟩⟩)
 ·
  have h0:=of_decide_eq_false r0
  try simp only [ty] at h0
  obtain rfl:i = (ord l).length:=by omega
  refine am ?_;refine sx7 ?_;(iterate 2 refine qy ?_);refine a6 ?_;refine dh 2 rfl rfl rfl ?_
  exact hx8 rfl rfl rfl (⟨CoC.one (CoP.of_eq (by rw [← ah4];rfl)),trivial⟩)
theorem aaj:ai Tryz.prog 40:=⟨Tryz.f40,Tryz.func40,by kernel_rfl,by kernel_rfl⟩
theorem al1 (a b:List AS):ak Tryz.prog 40 [pP (asl a),pP (asl b)] (av [pB (decide (a = b))]):=by
 refine ag (nt:=26) ae Tryz.func40 rfl rfl l9 ?_;refine sx7 ?_;refine qy ?_;refine a6 ?_;(iterate 2 refine a7 ?_)
 refine ik 0 rfl fun hn0=>?_
 refine ik 1 rfl fun hn1=>?_
 refine gy ?_;(iterate 5 refine qy ?_);refine a6 ?_;refine a8 _ rfl (fun r0=>?_) (fun r0=>?_)
 ·
  have h0:=r0
  have h0:=of_decide_eq_false (az h0)
  try simp only [ty] at h0
  refine sx7 ?_;refine qy ?_;refine a6 ?_
  exact hx8 rfl rfl rfl (⟨ccb (decide_eq_false fun e=>by subst e;omega).symm,trivial⟩)
 ·
  have h0:=r0
  have h0:=of_decide_eq_true (b4 h0)
  try simp only [ty] at h0
  refine aa ?_;refine a7 ?_;refine sx7 ?_;(iterate 3 refine qy ?_);refine a6 ?_;refine af ?_
  refine ap (ι:=Nat) ⟨[(0,some _),(1,some _),(12,some _)],[]⟩ ⟨⟨c9,c9,c9,trivial⟩,trivial⟩ (fun i=>⟨[(13,some (vI i))],[]⟩) (fun i=>i ≤ a.length ∧ ∀ j,j < i → a.getD j default = b.getD j default) (fun i=>a.length - i) (0) (⟨Nat.zero_le _,fun j hj=>absurd hj (Nat.not_lt_zero j)⟩) ⟨⟨⟨_,rfl,(CoR.refl _)⟩,trivial⟩,trivial⟩ ?_
  rintro i ⟨hi,hI⟩
  refine sx7 ?_;refine qy ?_;refine a6 ?_;refine a7 ?_;refine a8 _ rfl (fun r1=>?_) (fun r1=>?_)
  ·
   have h1:=of_decide_eq_true r1
   try simp only [ty] at h1
   refine aa ?_;refine a7 ?_;refine af ?_;refine sx7 ?_;(iterate 2 refine qy ?_);refine a6 ?_;refine a7 ?_;refine aw (E:=b5) ae al [0,1,2,3,4,5,6,7,8] ?_
   (iterate 9 refine qy ?_);refine a6 ?_;refine ⟨by kernel_rfl, ?_⟩;refine a8 _ rfl (fun r2=>?_) (fun r2=>?_)
   ·
    have h2:=r2
    have h2:=of_decide_eq_false (az h2)
    try simp only [ty] at h2
    refine sx7 ?_;refine qy ?_;refine a6 ?_
    exact hx8 rfl rfl rfl (⟨ccb (decide_eq_false fun e=>by subst e;exact absurd rfl (by assumption:¬ asI _ = asI _)).symm,trivial⟩)
   ·
    have h2:=r2
    have h2:=of_decide_eq_true (b4 h2)
    try simp only [ty] at h2
    refine aa ?_;refine gy ?_;(iterate 2 refine qy ?_);refine a6 ?_;refine ⟨i + 1, ?_, ?_, ?_⟩
    · refine ⟨by omega,fun j hj=>?_⟩
      by_cases e:j = i
      · subst e;exact fc.1 (by assumption)
      · exact hI j (by omega)
    · first | omega | (dsimp only;omega)
    · exact ⟨⟨⟨_,rfl,(CoR.refl _)⟩,c9,c9,c9,trivial⟩,trivial⟩
  ·
   have h1:=of_decide_eq_false r1
   try simp only [ty] at h1
   obtain rfl:i = a.length:=by omega
   refine am ?_;refine sx7 ?_;refine qy ?_;refine a6 ?_
   exact hx8 rfl rfl rfl (⟨ccb (decide_eq_true (ar0 (by omega) hI)).symm,trivial⟩)
end Go.Hx
end
section
namespace Go.Hx
open Go.Proofs
set_option maxRecDepth 100000
set_option maxHeartbeats 1000000
theorem ary:ai Tryz.prog 81:=⟨Tryz.f81,Tryz.func81,by kernel_rfl,by kernel_rfl⟩
theorem aql (t:Tbl):ak Tryz.prog 81 [t.pc] (av [pI (qp t)]):=by
 refine ag (nt:=13) ae Tryz.func81 rfl rfl l9 ?_;refine sx7 ?_;refine m9 0 ?_;refine qy ?_;refine a6 ?_;refine a7 ?_;refine sx7 ?_;refine qy ?_
 refine rc rfl rfl rfl rfl rfl rfl wj (c82 t) (CoL.refl _) rfl rfl ?_;refine qy ?_;refine a6 ?_;refine sx7 ?_;(iterate 2 refine qy ?_);refine a6 ?_;refine a8 _ rfl (fun r0=>?_) (fun r0=>?_)
 ·
  have h0:=r0
  have h0:=of_decide_eq_false (az h0)
  try simp only [ty] at h0
  refine sx7 ?_;(iterate 2 refine qy ?_);refine a6 ?_
  exact hx8 rfl rfl rfl (⟨cci (by unfold qp;simp [*] <;> omega),trivial⟩)
 ·
  have h0:=r0
  have h0:=of_decide_eq_true (b4 h0)
  try simp only [ty] at h0
  refine aa ?_;refine a7 ?_;refine sx7 ?_;(iterate 4 refine qy ?_);refine a6 ?_;refine a8 _ rfl (fun r1=>?_) (fun r1=>?_)
  ·
   have h1:=of_decide_eq_true r1
   try simp only [ty] at h1
   refine sx7 ?_;refine qy ?_;refine a6 ?_
   exact hx8 rfl rfl rfl (⟨cci (by unfold qp;simp [*] <;> omega),trivial⟩)
  ·
   have h1:=of_decide_eq_false r1
   try simp only [ty] at h1
   refine aa ?_;refine sx7 ?_;refine qy ?_;refine a6 ?_
   exact hx8 rfl rfl rfl (⟨cci (by unfold qp;simp [*] <;> omega),trivial⟩)
theorem aj0:ai Tryz.prog 99:=⟨Tryz.f99,Tryz.func99,by kernel_rfl,by kernel_rfl⟩
theorem aig (t:Tbl):ak Tryz.prog 99 [t.pc] (av [pI (nj t)]):=by
 refine ag (nt:=19) ae Tryz.func99 rfl rfl l9 ?_;refine sx7 ?_;refine m9 0 ?_;refine qy ?_;refine a6 ?_;refine a7 ?_;refine sx7 ?_;refine qy ?_
 refine rc rfl rfl rfl rfl rfl rfl wj (c82 t) (CoL.refl _) rfl rfl ?_;refine qy ?_;refine a6 ?_;refine sx7 ?_;(iterate 2 refine qy ?_);refine a6 ?_;refine a8 _ rfl (fun r0=>?_) (fun r0=>?_)
 ·
  have h0:=r0
  have h0:=of_decide_eq_false (az h0)
  try simp only [ty] at h0
  refine sx7 ?_;(iterate 2 refine qy ?_);refine a6 ?_
  exact hx8 rfl rfl rfl (⟨cci (by unfold nj;simp [*] <;> omega),trivial⟩)
 ·
  have h0:=r0
  have h0:=of_decide_eq_true (b4 h0)
  try simp only [ty] at h0
  refine aa ?_;refine a7 ?_;refine sx7 ?_;(iterate 5 refine qy ?_);refine b6 rfl rfl (fun r1=>?_) (fun r1=>?_)
  ·
   have h1:=of_decide_eq_true r1
   try simp only [ty] at h1
   (iterate 4 refine k9 (gtf r1) ?_);refine rq rfl rfl rfl rfl rfl ?_ (hp:=r1);refine a6 ?_;refine a8 _ rfl (fun _=>?_) (fun e=>by cases e);refine sx7 ?_;refine qy ?_;refine a6 ?_
   exact hx8 rfl rfl rfl (⟨cci (by unfold nj;simp [*] <;> omega),trivial⟩)
  ·
   have h1:=of_decide_eq_false r1
   try simp only [ty] at h1
   (iterate 4 refine qy ?_ (hg:=(gff r1)));refine qy ?_;refine a6 ?_;refine a8 _ rfl (fun r2=>?_) (fun r2=>?_)
   ·
    have h2:=r2
    have h2:=bj r1 h2
    have h2:=of_decide_eq_true h2
    try simp only [ty] at h2
    refine sx7 ?_;refine qy ?_;refine a6 ?_
    exact hx8 rfl rfl rfl (⟨cci (by unfold nj;simp [*] <;> omega),trivial⟩)
   ·
    have h2:=r2
    have h2:=bj r1 h2
    have h2:=of_decide_eq_false h2
    try simp only [ty] at h2
    refine aa ?_;refine sx7 ?_;refine qy ?_;refine a6 ?_
    exact hx8 rfl rfl rfl (⟨cci (by unfold nj;simp [*] <;> omega),trivial⟩)
theorem anh:ai Tryz.prog 117:=⟨Tryz.f117,Tryz.func117,by kernel_rfl,by kernel_rfl⟩
theorem an9 (a b:Row) (hab:b.vals.length = a.vals.length) (hn:a.vals.length ≤ 16) (ra:a.ok) (rb:b.ok):ak Tryz.prog 117 [a.pc,b.pc] (av [pA (agR a b)]):=by
 refine ag (nt:=38) ae Tryz.func117 rfl rfl l9 ?_;refine sx7 ?_;refine m9 0 ?_;refine m9 1 ?_;refine qy ?_;refine a6 ?_;refine sx7 ?_;refine qy ?_;refine a6 ?_;refine a7 ?_;refine sx7 ?_
 refine qy ?_;refine a6 ?_;refine af ?_
 refine ap (ι:=Nat) ⟨[(2,some _),(3,some _)],[(0,some _),(1,some _)]⟩ ⟨⟨c9,c9,trivial⟩,⟨u9,u9,trivial⟩⟩ (fun i=>⟨[(5,some (vA (agT a b i))),(6,some (vI i))],[]⟩) (fun i=>i ≤ a.vals.length) (fun i=>a.vals.length - i) (0) (Nat.zero_le _) ⟨⟨zy,zy,trivial⟩,trivial⟩ ?_
 rintro i hi
 refine a7 ?_;refine sx7 ?_;(iterate 6 refine qy ?_);refine b6 rfl rfl (fun r0=>?_) (fun r0=>?_)
 ·
  have h0:=of_decide_eq_true r0
  try simp only [ty] at h0
  (iterate 5 refine qy ?_ (hg:=(gtt r0)));refine qy ?_;refine a6 ?_;refine a8 _ rfl (fun r1=>?_) (fun r1=>?_)
  ·
   have h1:=r1
   have h1:=cq r0 h1
   have h1:=of_decide_eq_true h1
   try simp only [ty] at h1
   refine aa ?_;refine a7 ?_;refine af ?_;refine a7 ?_;refine aw (E:=b5) ae al [0,1,2,3,4,5,6,7,8,9,10,11] ?_;(iterate 10 refine qy ?_)
   refine rc rfl rfl rfl rfl rfl rfl aef (aqa _ _ (ra.2 i (by omega)) (rb.2 i (by omega))) (CoL.refl _) rfl rfl ?_;refine qy ?_;refine a6 ?_;refine ⟨by kernel_rfl, ?_⟩
   refine a8 _ rfl (fun r2=>?_) (fun r2=>?_)
   ·
    have h2:=of_decide_eq_true r2
    try simp only [ty] at h2
    refine gy ?_;(iterate 5 refine qy ?_);refine a6 ?_;refine gy ?_;(iterate 3 refine qy ?_);refine a6 ?_
    first | (refine ⟨i + 1, ?_, ?_, ?_⟩
             · show i + 1 ≤ _;omega
             · first | omega | (dsimp only;omega)
             · exact ⟨⟨⟨_,rfl,(by simp only [Int.toNat_natCast];exact ij (xo (by assumption)))⟩,zy,c9,c9,trivial⟩,⟨u9,u9,trivial⟩⟩)
          | (refine ⟨i + 1, ?_, ?_, ?_⟩
             · show i + 1 ≤ _;omega
             · first | omega | (dsimp only;omega)
             · exact ⟨⟨⟨_,rfl,(ij (by rw [a94 (by assumption)]))⟩,zy,c9,c9,trivial⟩,⟨u9,u9,trivial⟩⟩)
   ·
    have h2:=of_decide_eq_false r2
    try simp only [ty] at h2
    refine aa ?_;refine gy ?_;(iterate 3 refine qy ?_);refine a6 ?_
    first | (refine ⟨i + 1, ?_, ?_, ?_⟩
             · show i + 1 ≤ _;omega
             · first | omega | (dsimp only;omega)
             · exact ⟨⟨⟨_,rfl,(by simp only [Int.toNat_natCast];exact ij (xo (by assumption)))⟩,zy,c9,c9,trivial⟩,⟨u9,u9,trivial⟩⟩)
          | (refine ⟨i + 1, ?_, ?_, ?_⟩
             · show i + 1 ≤ _;omega
             · first | omega | (dsimp only;omega)
             · exact ⟨⟨⟨_,rfl,(ij (by rw [a94 (by assumption)]))⟩,zy,c9,c9,trivial⟩,⟨u9,u9,trivial⟩⟩)
  ·
   have h1:=r1
   have h1:=cq r0 h1
   have h1:=of_decide_eq_false h1
   try simp only [ty] at h1
   obtain rfl:i = a.vals.length:=by omega
   refine am ?_;refine sx7 ?_;(iterate 2 refine qy ?_);refine a6 ?_
   exact hx8 rfl rfl rfl (CoL.refl _)
 ·
  have h0:=of_decide_eq_false r0
  try simp only [ty] at h0
  obtain rfl:i = a.vals.length:=by omega
  (iterate 5 refine k9 (gft r0) ?_);refine rq rfl rfl rfl rfl rfl ?_ (hp:=r0);refine a6 ?_;refine a8 _ rfl (fun e=>by cases e) (fun _=>?_);refine am ?_;refine sx7 ?_;(iterate 2 refine qy ?_)
  refine a6 ?_
  exact hx8 rfl rfl rfl (CoL.refl _)
theorem asf:ai Tryz.prog 82:=⟨Tryz.f82,Tryz.func82,by kernel_rfl,by kernel_rfl⟩
theorem are (t:Tbl) (ht:TOk t):ak Tryz.prog 82 [t.pc] (av [pP (asl (prs t.rows))]):=by
 refine ag (nt:=37) ae Tryz.func82 rfl rfl l9 ?_
 have hnr:=ht.nr
 have hna:=ht.na
 have hsq:t.rows.length * t.rows.length ≤ 1000000:=Nat.mul_le_mul hnr hnr
 refine sx7 ?_;refine m9 0 ?_;refine qy ?_;refine a6 ?_;refine sx7 ?_;refine qy ?_;refine a6 ?_;refine a7 ?_;refine sx7 ?_;refine qy ?_;refine a6 ?_;refine af ?_
 refine du 3 900 true 1 69 (lf sC []) (by decide) rfl (CoP.sl rfl (.inr rfl) (fun h=>h) (fun i j hi _=>absurd hi (Nat.not_lt_zero i))) (.inr rfl) rfl ?_
 refine ap (ι:=Nat) ⟨[(1,some _)],[(0,some _)]⟩ ⟨⟨c9,trivial⟩,⟨u9,trivial⟩⟩ (fun i=>⟨[(3,some (.v (.one (.ref 900 (lj t.rows i (i + 1)).length)))),(4,some (vI i))],[(900,some (.arr true 1 69 (lj t.rows i (i + 1)).length (lf sC (lj t.rows i (i + 1)))))]⟩) (fun i=>i ≤ t.rows.length) (fun i=>t.rows.length - i) (0) (Nat.zero_le _) ⟨⟨⟨_,rfl,(cw (a8m _))⟩,zy,trivial⟩,⟨⟨_,rfl,(cg (a8m _))⟩,trivial⟩⟩ ?_
 rintro i hi
 have hlen:=a9w t.rows i (i + 1) hi
 refine a7 ?_;refine sx7 ?_;(iterate 5 refine qy ?_);refine a6 ?_;refine a8 _ rfl (fun r0=>?_) (fun r0=>?_)
 ·
  have h0:=of_decide_eq_true r0
  try simp only [ty] at h0
  refine aa ?_;refine a7 ?_;refine af ?_;refine sx7 ?_;(iterate 3 refine qy ?_);refine a6 ?_;refine af ?_
  refine ap (ι:=Nat) ⟨[(1,some _),(4,some _)],[(0,some _)]⟩ ⟨⟨c9,c9,trivial⟩,⟨u9,trivial⟩⟩ (fun k=>⟨[(3,some (.v (.one (.ref 900 (lj t.rows i k).length)))),(5,some (vI k))],[(900,some (.arr true 1 69 (lj t.rows i k).length (lf sC (lj t.rows i k))))]⟩) (fun k=>i + 1 ≤ k ∧ k ≤ t.rows.length) (fun k=>t.rows.length - k) (i + 1) (⟨Nat.le_refl _,by omega⟩) ⟨⟨zy,zy,trivial⟩,⟨u9,trivial⟩⟩ ?_
  rintro k ⟨hk1,hk2⟩
  have hlen2:=a9w t.rows i k (by omega)
  refine a7 ?_;refine sx7 ?_;(iterate 5 refine qy ?_);refine a6 ?_;refine a8 _ rfl (fun r1=>?_) (fun r1=>?_)
  ·
   have h1:=of_decide_eq_true r1
   try simp only [ty] at h1
   refine aa ?_;refine a7 ?_;refine af ?_;refine aw (E:=b5) ae al [0,1,2,3,4,5,6,7,8,9,10,11,12,13,14] ?_;(iterate 11 refine qy ?_)
   refine rc rfl rfl rfl rfl rfl rfl anh (an9 (t.rows.getD i default) (t.rows.getD k default) (by rw [ht.width (by omega),ht.width (by omega)]) (by rw [ht.width (by omega)];omega) (ht.rows i (by omega)) (ht.rows k (by omega))) (CoL.refl _) rfl rfl ?_
   refine m9 1 ?_;refine ra 2 true rfl rfl rfl rfl rfl rfl ?_;refine qy ?_;refine a6 ?_;refine ⟨by kernel_rfl, ?_⟩;refine gy ?_;(iterate 3 refine qy ?_);refine a6 ?_;refine ⟨k + 1, ?_, ?_, ?_⟩
   · exact ⟨by omega,by omega⟩
   · first | omega | (dsimp only;omega)
   · exact ⟨⟨⟨_,rfl,(dj (a7x (by omega) (by omega)))⟩,zy,c9,c9,trivial⟩,⟨⟨_,rfl,(ec (a7x (by omega) (by omega)) (CoP.refl _))⟩,u9,trivial⟩⟩
  ·
   have h1:=of_decide_eq_false r1
   try simp only [ty] at h1
   refine am ?_;refine gy ?_;(iterate 3 refine qy ?_);refine a6 ?_;refine ⟨i + 1, ?_, ?_, ?_⟩
   · show i + 1 ≤ _;omega
   · first | omega | (dsimp only;omega)
   · exact ⟨⟨⟨_,rfl,(cw (a7p (by omega)).symm)⟩,zy,c9,trivial⟩,⟨⟨_,rfl,(cg (a7p (by omega)).symm)⟩,u9,trivial⟩⟩
 ·
  have h0:=of_decide_eq_false r0
  try simp only [ty] at h0
  obtain rfl:i = t.rows.length:=by omega
  refine am ?_;refine sx7 ?_;(iterate 2 refine qy ?_);refine a6 ?_;refine dh 2 rfl rfl rfl ?_
  exact hx8 rfl rfl rfl (⟨CoC.one (CoP.of_eq (by rw [aji];rfl)),trivial⟩)
theorem as5:ai Tryz.prog 45:=⟨Tryz.f45,Tryz.func45,by kernel_rfl,by kernel_rfl⟩
theorem aua (t:Tbl):ak Tryz.prog 45 [t.pc] (av [pP (aa9 (a4k t)),pI (qp t)]):=by
 refine ag (nt:=53) ae Tryz.func45 rfl rfl l9 ?_;refine sx7 ?_;refine m9 0 ?_;(iterate 2 refine qy ?_);refine a6 ?_;refine a7 ?_;refine sx7 ?_;refine qy ?_
 refine rc rfl rfl rfl rfl rfl rfl ary (aql t) (CoL.refl _) rfl rfl ?_;refine qy ?_;refine a6 ?_;refine sx7 ?_;(iterate 2 refine qy ?_);refine a6 ?_;refine a8 _ rfl (fun r0=>?_) (fun r0=>?_)
 ·
  have h0:=r0
  have h0:=of_decide_eq_false (az h0)
  try simp only [ty] at h0
  refine sx7 ?_;(iterate 3 refine qy ?_);refine a6 ?_
  exact hx8 rfl rfl rfl (⟨CoC.one (by rw [show a4k t = [] from if_neg (by assumption)];exact bc),CoC.refl _,trivial⟩)
 ·
  have h0:=r0
  have h0:=of_decide_eq_true (b4 h0)
  try simp only [ty] at h0
  obtain ⟨ht,h200⟩:=akd h0
  have hnr:=ht.nr
  have hna:=ht.na
  have hsq:t.rows.length * t.rows.length ≤ 1000000:=Nat.mul_le_mul hnr hnr
  have hpl:=a1f t.rows
  have hol:=ta (prs t.rows)
  refine aa ?_;refine sx7 ?_;refine qy ?_;refine rc rfl rfl rfl rfl rfl rfl asf (are t ht) (CoL.refl _) rfl rfl ?_;refine qy ?_;refine a6 ?_;refine sx7 ?_;refine qy ?_
  refine rc rfl rfl rfl rfl rfl rfl ain (ady (prs t.rows) (by omega)) (CoL.refl _) rfl rfl ?_;refine qy ?_;refine a6 ?_;refine sx7 ?_;refine qy ?_;refine a6 ?_;refine a7 ?_;refine sx7 ?_;refine qy ?_
  refine a6 ?_;refine af ?_;refine du 7 900 true 2 119 (lf Cnt.c []) (by decide) rfl (CoP.sl rfl (.inr rfl) (fun h=>h) (fun i j hi _=>absurd hi (Nat.not_lt_zero i))) (.inr rfl) rfl ?_
  refine ap (ι:=Nat) ⟨[(5,some _),(6,some _)],[]⟩ ⟨⟨c9,c9,trivial⟩,trivial⟩ (fun i=>⟨[(7,some (.v (.one (.ref 900 (qk t.rows i).length)))),(8,some (vI i))],[(900,some (.arr true 2 119 (qk t.rows i).length (lf Cnt.c (qk t.rows i))))]⟩) (fun i=>i ≤ (ord (prs t.rows)).length) (fun i=>(ord (prs t.rows)).length - i) (0) (Nat.zero_le _) ⟨⟨zy,zy,trivial⟩,⟨u9,trivial⟩⟩ ?_
  rintro i hi
  have hlen:=ah8 t.rows i
  refine a7 ?_;refine sx7 ?_;(iterate 4 refine qy ?_);refine a6 ?_;refine a8 _ rfl (fun r1=>?_) (fun r1=>?_)
  ·
   have h1:=of_decide_eq_true r1
   try simp only [ty] at h1
   refine aa ?_;refine a7 ?_;refine af ?_;refine sx7 ?_;refine qy ?_;refine a6 ?_;refine a7 ?_;refine sx7 ?_;refine qy ?_;refine a6 ?_;refine af ?_
   refine ap (ι:=Nat) ⟨[(5,some _),(6,some _),(7,some _),(8,some _)],[(900,some _)]⟩ ⟨⟨c9,c9,c9,c9,trivial⟩,⟨u9,trivial⟩⟩ (fun k=>⟨[(9,some (vI ((tv (prs t.rows) ((ord (prs t.rows)).getD i default) k:Nat):Int))),(10,some (vI k))],[]⟩) (fun k=>k ≤ (prs t.rows).length) (fun k=>(prs t.rows).length - k) (0) (Nat.zero_le _) ⟨⟨zy,zy,trivial⟩,trivial⟩ ?_
   rintro k hk
   have hcl:=aps (prs t.rows) ((ord (prs t.rows)).getD i default) k
   refine a7 ?_;refine sx7 ?_;(iterate 4 refine qy ?_);refine a6 ?_;refine a8 _ rfl (fun r2=>?_) (fun r2=>?_)
   ·
    have h2:=of_decide_eq_true r2
    try simp only [ty] at h2
    refine aa ?_;refine a7 ?_;refine af ?_;refine a7 ?_;refine aw (E:=b5) ae al [0,1,2,3,4,5,6,7,8] ?_;(iterate 9 refine qy ?_);refine a6 ?_;refine ⟨by kernel_rfl, ?_⟩
    refine a8 _ rfl (fun r3=>?_) (fun r3=>?_)
    ·
     have h3:=of_decide_eq_true r3
     try simp only [ty] at h3
     have g:(prs t.rows).getD k default = ((ord (prs t.rows)).getD i default):=fc.1 h3
     have g2:=arx (by omega) g
     refine gy ?_;(iterate 3 refine qy ?_);refine a6 ?_;refine gy ?_;(iterate 3 refine qy ?_);refine a6 ?_;refine ⟨k + 1, ?_, ?_, ?_⟩
     · show k + 1 ≤ _;omega
     · first | omega | (dsimp only;omega)
     · exact ⟨⟨⟨_,rfl,(coi (by omega))⟩,zy,c9,c9,c9,c9,trivial⟩,⟨u9,trivial⟩⟩
    ·
     have h3:=of_decide_eq_false r3
     try simp only [ty] at h3
     have g:¬ (prs t.rows).getD k default = ((ord (prs t.rows)).getD i default):=fun e=>h3 (by rw [e])
     have g2:=aq8 (by omega) g
     refine aa ?_;refine gy ?_;(iterate 3 refine qy ?_);refine a6 ?_;refine ⟨k + 1, ?_, ?_, ?_⟩
     · show k + 1 ≤ _;omega
     · first | omega | (dsimp only;omega)
     · exact ⟨⟨⟨_,rfl,(coi (by omega))⟩,zy,c9,c9,c9,c9,trivial⟩,⟨u9,trivial⟩⟩
   ·
    have h2:=of_decide_eq_false r2
    try simp only [ty] at h2
    obtain rfl:k = (prs t.rows).length:=by omega
    refine am ?_;refine gy ?_;(iterate 7 refine qy ?_);refine m9 1 ?_;refine ra 2 true rfl rfl rfl rfl rfl rfl ?_;refine qy ?_;refine a6 ?_;refine gy ?_;(iterate 3 refine qy ?_);refine a6 ?_
    refine ⟨i + 1, ?_, ?_, ?_⟩
    · show i + 1 ≤ _;omega
    · first | omega | (dsimp only;omega)
    · exact ⟨⟨⟨_,rfl,(dj (a4i (by omega)))⟩,zy,c9,c9,trivial⟩,⟨⟨_,rfl,(j0 (a4i (by omega)) (CoP.refl _) (CoP.of_eq (by rw [akp];rfl)))⟩,trivial⟩⟩
  ·
   have h1:=of_decide_eq_false r1
   try simp only [ty] at h1
   obtain rfl:i = (ord (prs t.rows)).length:=by omega
   refine am ?_;refine sx7 ?_;(iterate 3 refine qy ?_);refine a6 ?_;refine dh 2 rfl rfl rfl ?_
   exact hx8 rfl rfl rfl (⟨CoC.one (CoP.of_eq (by rw [aic (Nat.le_refl _),show a4k t = mn t.rows from if_pos (by assumption)];rfl)),cci (by omega),trivial⟩)
theorem arb:ai Tryz.prog 47:=⟨Tryz.f47,Tryz.func47,by kernel_rfl,by kernel_rfl⟩
theorem ang (a b:List Cnt):ak Tryz.prog 47 [pP (aa9 a),pP (aa9 b)] (av [pB (decide (a = b))]):=by
 refine ag (nt:=26) ae Tryz.func47 rfl rfl l9 ?_;refine a7 ?_
 refine ik 0 rfl fun hn=>?_
 refine gy ?_;refine qy ?_;refine a6 ?_;refine a7 ?_;refine sx7 ?_;(iterate 5 refine qy ?_);refine a6 ?_;refine a8 _ rfl (fun r0=>?_) (fun r0=>?_)
 ·
  have h0:=r0
  have h0:=of_decide_eq_false (az h0)
  try simp only [ty] at h0
  refine sx7 ?_;refine qy ?_;refine a6 ?_
  exact hx8 rfl rfl rfl (⟨ccb (decide_eq_false fun e=>by subst e;omega).symm,trivial⟩)
 ·
  have h0:=r0
  have h0:=of_decide_eq_true (b4 h0)
  try simp only [ty] at h0
  refine aa ?_;refine db (ι:=Unit) ⟨[],[]⟩ ⟨trivial,trivial⟩ (fun _i=>⟨[],[]⟩) (fun _i=>a = b) ?_ ?_
  ·
   refine sx7 ?_;refine qy ?_;refine a6 ?_;refine af ?_
   refine ap (ι:=Nat) ⟨[(0,some _),(1,some _)],[]⟩ ⟨⟨c9,c9,trivial⟩,trivial⟩ (fun i=>⟨[(5,some (vI i))],[]⟩) (fun i=>i ≤ a.length ∧ ∀ j,j < i → decide (a.getD j default = b.getD j default) = true) (fun i=>a.length - i) (0) (⟨Nat.zero_le _,df⟩) ⟨⟨zy,trivial⟩,trivial⟩ ?_
   rintro i ⟨hi,hI⟩
   refine a7 ?_;refine sx7 ?_;(iterate 4 refine qy ?_);refine a6 ?_;refine a8 _ rfl (fun r1=>?_) (fun r1=>?_)
   ·
    have h1:=of_decide_eq_true r1
    try simp only [ty] at h1
    refine aa ?_;refine a7 ?_;refine af ?_;refine a7 ?_;refine aw (E:=b5) ae al [0,1,2,3,4,5,6,7,8] ?_;(iterate 9 refine qy ?_);refine a6 ?_;refine ⟨by kernel_rfl, ?_⟩
    refine a8 _ rfl (fun r2=>?_) (fun r2=>?_)
    ·
     have h2:=r2
     refine sx7 ?_;refine qy ?_;refine a6 ?_
     exact hx8 rfl rfl rfl (⟨ccb (decide_eq_false fun e=>by subst e;simp_all).symm,trivial⟩)
    ·
     have h2:=r2
     refine aa ?_;refine gy ?_;(iterate 3 refine qy ?_);refine a6 ?_;refine ⟨i + 1, ?_, ?_, ?_⟩
     · exact ⟨by omega,cz hI (decide_eq_true (by simp_all [Cnt.eq_iff,fc]))⟩
     · first | omega | (dsimp only;omega)
     · exact ⟨⟨zy,c9,c9,trivial⟩,trivial⟩
   ·
    have h1:=of_decide_eq_false r1
    try simp only [ty] at h1
    refine am ?_;refine ⟨(), ?_, ?_⟩
    · exact a1l (by omega) fun j hj=>of_decide_eq_true (hI j (by omega))
    · exact ⟨trivial,trivial⟩
  · rintro _ hj
    refine sx7 ?_;refine qy ?_;refine a6 ?_
    exact hx8 rfl rfl rfl (⟨ccb (decide_eq_true hj).symm,trivial⟩)
theorem aee:ai Tryz.prog 150:=⟨Tryz.f150,Tryz.func150,by kernel_rfl,by kernel_rfl⟩
theorem am8 (r:Row) (s:AS) (hr:r.vals.length ≤ 68719476736):ak Tryz.prog 150 [r.pc,pA s] (av [pP (vals (a3d r.vals s))]):=by
 refine ag (nt:=26) ae Tryz.func150 rfl rfl l9 ?_;refine sx7 ?_;refine m9 0 ?_;refine qy ?_;refine a6 ?_;refine sx7 ?_;refine qy ?_;refine a6 ?_;refine a7 ?_;refine sx7 ?_;refine qy ?_
 refine a6 ?_;refine af ?_;refine du 5 900 true 3 81 (lf Val.c []) (by decide) rfl (CoP.sl rfl (.inr rfl) (fun h=>h) (fun i j hi _=>absurd hi (Nat.not_lt_zero i))) (.inr rfl) rfl ?_
 refine ap (ι:=Nat) ⟨[(1,some _),(2,some _)],[(0,some _)]⟩ ⟨⟨c9,c9,trivial⟩,⟨u9,trivial⟩⟩ (fun i=>⟨[(5,some (.v (.one (.ref 900 (tq r.vals s i).length)))),(6,some (vI i))],[(900,some (.arr true 3 81 (tq r.vals s i).length (lf Val.c (tq r.vals s i))))]⟩) (fun i=>i ≤ r.vals.length) (fun i=>r.vals.length - i) (0) (Nat.zero_le _) ⟨⟨zy,zy,trivial⟩,⟨u9,trivial⟩⟩ ?_
 rintro i hi
 have hlen:=akq r.vals s i
 refine a7 ?_;refine sx7 ?_;(iterate 5 refine qy ?_);refine a6 ?_;refine a8 _ rfl (fun r0=>?_) (fun r0=>?_)
 ·
  have h0:=of_decide_eq_true r0
  try simp only [ty] at h0
  refine aa ?_;refine a7 ?_;refine af ?_;refine sx7 ?_;(iterate 2 refine qy ?_);refine rc rfl rfl rfl rfl rfl rfl ae3 (aqi s i) (CoL.refl _) rfl rfl ?_;refine a6 ?_
  refine a8 _ rfl (fun r1=>?_) (fun r1=>?_)
  ·
   have h1:=r1
   refine gy ?_;(iterate 6 refine qy ?_);refine m9 1 ?_;refine ra 2 true rfl rfl rfl rfl rfl rfl ?_;refine qy ?_;refine a6 ?_;refine gy ?_;(iterate 3 refine qy ?_);refine a6 ?_
   first | (refine ⟨i + 1, ?_, ?_, ?_⟩
            · show i + 1 ≤ _;omega
            · first | omega | (dsimp only;omega)
            · exact ⟨⟨⟨_,rfl,(dj (a5x (by assumption)))⟩,zy,c9,c9,trivial⟩,⟨⟨_,rfl,(a1c (a5x (by assumption)) (lt3 (CoP.refl _) (CoP.refl _) (CoP.refl _)))⟩,u9,trivial⟩⟩)
         | (refine ⟨i + 1, ?_, ?_, ?_⟩
            · show i + 1 ≤ _;omega
            · first | omega | (dsimp only;omega)
            · exact ⟨⟨⟨_,rfl,(cw (a4b (by assumption)))⟩,zy,c9,c9,trivial⟩,⟨⟨_,rfl,(cg (a4b (by assumption)))⟩,u9,trivial⟩⟩)
  ·
   have h1:=r1
   refine aa ?_;refine gy ?_;(iterate 3 refine qy ?_);refine a6 ?_
   first | (refine ⟨i + 1, ?_, ?_, ?_⟩
            · show i + 1 ≤ _;omega
            · first | omega | (dsimp only;omega)
            · exact ⟨⟨⟨_,rfl,(dj (a5x (by assumption)))⟩,zy,c9,c9,trivial⟩,⟨⟨_,rfl,(a1c (a5x (by assumption)) (lt3 (CoP.refl _) (CoP.refl _) (CoP.refl _)))⟩,u9,trivial⟩⟩)
         | (refine ⟨i + 1, ?_, ?_, ?_⟩
            · show i + 1 ≤ _;omega
            · first | omega | (dsimp only;omega)
            · exact ⟨⟨⟨_,rfl,(cw (a4b (by assumption)))⟩,zy,c9,c9,trivial⟩,⟨⟨_,rfl,(cg (a4b (by assumption)))⟩,u9,trivial⟩⟩)
 ·
  have h0:=of_decide_eq_false r0
  try simp only [ty] at h0
  obtain rfl:i = r.vals.length:=by omega
  refine am ?_;refine sx7 ?_;(iterate 2 refine qy ?_);refine a6 ?_;refine dh 4 rfl rfl rfl ?_
  exact hx8 rfl rfl rfl (⟨CoC.one (CoP.refl _),trivial⟩)
theorem a6f:ai Tryz.prog 121:=⟨Tryz.f121,Tryz.func121,by kernel_rfl,by kernel_rfl⟩
theorem ajl (a b:Row) (s:AS) (ra:a.ok) (rb:b.ok):ak Tryz.prog 121 [a.pc,b.pc,pA s] (av [pB (tw a b s)]):=by
 refine ag (nt:=14) ae Tryz.func121 rfl rfl l9 ?_;refine sx7 ?_;refine m9 0 ?_;refine m9 1 ?_;refine qy ?_;refine a6 ?_;refine a7 ?_
 refine aw (E:=b5) ae al [0,1,2,3,4,5,6,7] ?_;(iterate 2 refine qy ?_);refine rc rfl rfl rfl rfl rfl rfl aee (am8 a s ra.1) (CoL.refl _) rfl rfl ?_;(iterate 2 refine qy ?_)
 refine rc rfl rfl rfl rfl rfl rfl aee (am8 b s rb.1) (CoL.refl _) rfl rfl ?_;refine rc rfl rfl rfl rfl rfl rfl adj (c81 _ _ (aih ra.2) (aih rb.2)) (CoL.refl _) rfl rfl ?_;refine qy ?_;refine a6 ?_
 refine ⟨by kernel_rfl, ?_⟩
 exact hx8 rfl rfl rfl (CoL.refl _)
end Go.Hx
end
section
namespace Go.Hx
open Go.Proofs
set_option maxRecDepth 100000
set_option maxHeartbeats 1000000
theorem ao1:ai Tryz.prog 156:=⟨Tryz.f156,Tryz.func156,by kernel_rfl,by kernel_rfl⟩
theorem asb (t:Tbl) (x r:AS) (ht:TOk t):ak Tryz.prog 156 [t.pc,(⟨x,r⟩:Fd).pc] (av [pB (ol t.rows x r)]):=by
 refine ag (nt:=48) ae Tryz.func156 rfl rfl l9 ?_
 have hnr:=ht.nr
 have hna:=ht.na
 have hsq:t.rows.length * t.rows.length ≤ 1000000:=Nat.mul_le_mul hnr hnr
 refine sx7 ?_;refine m9 0 ?_;refine m9 1 ?_;refine qy ?_;refine a6 ?_;refine a7 ?_;refine sx7 ?_;refine qy ?_;refine a6 ?_;refine af ?_
 refine ap (ι:=Nat) ⟨[(2,some _),(3,some _)],[(0,some _),(1,some _)]⟩ ⟨⟨c9,c9,trivial⟩,⟨u9,u9,trivial⟩⟩ (fun i=>⟨[(5,some (vI i))],[]⟩) (fun i=>t.rows.length ≥ i ∧ ∀ j,j < i → aqx t.rows x r j = true) (fun i=>t.rows.length - i) (0) (⟨Nat.zero_le _,df⟩) ⟨⟨zy,trivial⟩,trivial⟩ ?_
 rintro i ⟨hi,hI⟩
 refine a7 ?_;refine sx7 ?_;(iterate 5 refine qy ?_);refine a6 ?_;refine a8 _ rfl (fun r0=>?_) (fun r0=>?_)
 ·
  have h0:=of_decide_eq_true r0
  try simp only [ty] at h0
  refine aa ?_;refine a7 ?_;refine af ?_;refine sx7 ?_;refine qy ?_;refine a6 ?_;refine af ?_
  refine ap (ι:=Nat) ⟨[(2,some _),(3,some _),(5,some _)],[(0,some _),(1,some _)]⟩ ⟨⟨c9,c9,c9,trivial⟩,⟨u9,u9,trivial⟩⟩ (fun k=>⟨[(6,some (vI k))],[]⟩) (fun k=>k ≤ i ∧ ∀ j,j < k → a6p t.rows x r i j = true) (fun k=>i - k) (0) (⟨Nat.zero_le _,df⟩) ⟨⟨zy,trivial⟩,trivial⟩ ?_
  rintro k ⟨hk,hK⟩
  refine a7 ?_;refine sx7 ?_;(iterate 3 refine qy ?_);refine a6 ?_;refine a8 _ rfl (fun r1=>?_) (fun r1=>?_)
  ·
   have h1:=of_decide_eq_true r1
   try simp only [ty] at h1
   refine aa ?_;refine a7 ?_;refine af ?_;refine a7 ?_
   refine aw (E:=b5) ae al [0,1,2,3,4,5,6,7,8,9,10,11,12,13,14,15,16,17,18,19,20,21,22,23,24,25,26,27,28] ?_;(iterate 12 refine qy ?_)
   refine rc rfl rfl rfl rfl rfl rfl a6f (ajl (t.rows.getD i default) (t.rows.getD k default) x (ht.rows i (by omega)) (ht.rows k (by omega))) (CoL.refl _) rfl rfl ?_;refine qy ?_
   refine b6 rfl rfl (fun r2=>?_) (fun r2=>?_)
   ·
    have h2:=r2
    (iterate 12 refine qy ?_ (hg:=(gtt r2)));refine rc rfl rfl rfl rfl rfl rfl a6f (ajl (t.rows.getD i default) (t.rows.getD k default) r (ht.rows i (by omega)) (ht.rows k (by omega))) (CoL.refl _) rfl (gtt r2) ?_
    refine qy ?_ (hg:=(gtt r2));refine qy ?_;refine a6 ?_;refine ⟨by kernel_rfl, ?_⟩;refine a8 _ rfl (fun r3=>?_) (fun r3=>?_)
    ·
     have h3:=r3
     have h3:=cq r2 h3
     have h3:=az h3
     refine sx7 ?_;refine qy ?_;refine a6 ?_
     exact hx8 rfl rfl rfl (⟨ccb (aqp (i:=i) (k:=k) (by omega) (by omega) (by unfold a6p;simp_all)).symm,trivial⟩)
    ·
     have h3:=r3
     have h3:=cq r2 h3
     have h3:=b4 h3
     refine aa ?_;refine gy ?_;(iterate 3 refine qy ?_);refine a6 ?_;refine ⟨k + 1, ?_, ?_, ?_⟩
     · exact ⟨by omega,cz hK (by first | assumption | (unfold a6p;simp_all) | (unfold a3f;simp_all))⟩
     · first | omega | (dsimp only;omega)
     · exact ⟨⟨zy,c9,c9,c9,trivial⟩,⟨u9,u9,trivial⟩⟩
   ·
    have h2:=r2
    (iterate 14 refine k9 (gft r2) ?_);refine rq rfl rfl rfl rfl rfl ?_ (hp:=r2);refine a6 ?_;refine ⟨by kernel_rfl, ?_⟩;refine a8 _ rfl (fun e=>by cases e) (fun _=>?_);refine aa ?_;refine gy ?_
    (iterate 3 refine qy ?_);refine a6 ?_;refine ⟨k + 1, ?_, ?_, ?_⟩
    · exact ⟨by omega,cz hK (by first | assumption | (unfold a6p;simp_all) | (unfold a3f;simp_all))⟩
    · first | omega | (dsimp only;omega)
    · exact ⟨⟨zy,c9,c9,c9,trivial⟩,⟨u9,u9,trivial⟩⟩
  ·
   have h1:=of_decide_eq_false r1
   try simp only [ty] at h1
   refine am ?_;refine gy ?_;(iterate 3 refine qy ?_);refine a6 ?_;refine ⟨i + 1, ?_, ?_, ?_⟩
   · exact ⟨by omega,cz hI (jj fun j hj=>hK j (by omega))⟩
   · first | omega | (dsimp only;omega)
   · exact ⟨⟨zy,c9,c9,trivial⟩,⟨u9,u9,trivial⟩⟩
 ·
  have h0:=of_decide_eq_false r0
  try simp only [ty] at h0
  refine am ?_;refine sx7 ?_;refine qy ?_;refine a6 ?_
  exact hx8 rfl rfl rfl (⟨ccb (ar7 fun j hj=>hI j (by omega)).symm,trivial⟩)
theorem aoc:ai Tryz.prog 129:=⟨Tryz.f129,Tryz.func129,by kernel_rfl,by kernel_rfl⟩
theorem avh (t:Tbl) (s:AS) (a:Nat) (ht:TOk t):ak Tryz.prog 129 [t.pc,pA s,pI a] (av [pB (ol t.rows s ((1:AS) <<< a))]):=by
 refine ag (nt:=13) ae Tryz.func129 rfl rfl l9 ?_;refine sx7 ?_;refine m9 0 ?_;refine qy ?_;refine a6 ?_;refine a7 ?_;refine aw (E:=b5) ae al [0,1,2,3,4,5,6] ?_
 (iterate 5 refine qy ?_)
 refine rc rfl rfl rfl rfl rfl rfl ao1 (asb t s ((1:AS) <<< a) ht) (⟨CoC.refl _,CoC.agg ⟨CoP.refl _,CoP.of_eq (congrArg (fun z=>PV.raw (.int .u32 z)) (show IntKind.wrap .u32 (1 * 2 ^ (min a 32)) = asI ((1:AS) <<< a) from vk 1 a)),trivial⟩,trivial⟩) rfl rfl ?_
 refine qy ?_;refine a6 ?_;refine ⟨by kernel_rfl, ?_⟩
 exact hx8 rfl rfl rfl (CoL.refl _)
theorem aoi:ai Tryz.prog 100:=⟨Tryz.f100,Tryz.func100,by kernel_rfl,by kernel_rfl⟩
theorem aq5 (t:Tbl) (a:Nat) (h28:nj t = 0) (ha:a < t.attrs.length):ak Tryz.prog 100 [t.pc,pI a] (av [pP (asl (p8 t.rows t.attrs.length a)),pI 0]):=by
 refine ag (nt:=54) ae Tryz.func100 rfl rfl l9 ?_
 obtain ⟨ht,h200,h10⟩:=abw h28
 have hsl:=ny (b9 (t.attrs.length:Nat) &&& ~~~((1:AS) <<< a))
 refine sx7 ?_;refine m9 0 ?_;(iterate 2 refine qy ?_);refine a6 ?_;refine a7 ?_;refine sx7 ?_;refine qy ?_;refine rc rfl rfl rfl rfl rfl rfl aj0 (aig t) (CoL.refl _) rfl rfl ?_;refine qy ?_;refine a6 ?_
 refine sx7 ?_;(iterate 2 refine qy ?_);refine a6 ?_;refine a8 _ rfl (fun r0=>?_) (fun r0=>?_)
 ·
  have h0:=r0
  have h0:=of_decide_eq_false (az h0)
  try simp only [ty] at h0
  exact absurd h28 h0
 ·
  have h0:=r0
  have h0:=of_decide_eq_true (b4 h0)
  try simp only [ty] at h0
  refine aa ?_;refine a7 ?_;refine sx7 ?_;(iterate 3 refine qy ?_);refine b6 rfl rfl (fun r1=>?_) (fun r1=>?_)
  ·
   have h1:=of_decide_eq_true r1
   try simp only [ty] at h1
   exfalso
   omega
  ·
   have h1:=of_decide_eq_false r1
   try simp only [ty] at h1
   (iterate 5 refine qy ?_ (hg:=(gff r1)));refine qy ?_;refine a6 ?_;refine a8 _ rfl (fun r2=>?_) (fun r2=>?_)
   ·
    have h2:=r2
    have h2:=bj r1 h2
    have h2:=of_decide_eq_true h2
    try simp only [ty] at h2
    exfalso
    omega
   ·
    have h2:=r2
    have h2:=bj r1 h2
    have h2:=of_decide_eq_false h2
    try simp only [ty] at h2
    refine aa ?_;refine a7 ?_;refine aw (E:=b5) ae al [0,1,2,3,4,5,6,7,8] ?_;(iterate 3 refine qy ?_)
    refine rc rfl rfl rfl rfl rfl rfl aje (ah7 t.attrs.length) (CoL.refl _) rfl rfl ?_;(iterate 3 refine qy ?_)
    refine rc rfl rfl rfl rfl rfl rfl aol (at4 (b9 (t.attrs.length:Nat) &&& ~~~((1:AS) <<< a))) (⟨cci (by rw [← arp];exact congrArg (fl .andNot .u32 (asI _)) (vk 1 a)),trivial⟩) rfl rfl ?_;refine qy ?_
    refine a6 ?_;refine ⟨by kernel_rfl, ?_⟩;refine sx7 ?_;refine qy ?_;refine a6 ?_;refine a7 ?_;refine sx7 ?_;refine qy ?_;refine a6 ?_;refine af ?_
    refine du 8 900 true 1 69 (lf sC []) (by decide) rfl (CoP.sl rfl (.inr rfl) (fun h=>h) (fun i j hi _=>absurd hi (Nat.not_lt_zero i))) (.inr rfl) rfl ?_
    refine ap (ι:=Nat) ⟨[(1,some _),(2,some _),(7,some _)],[(0,some _)]⟩ ⟨⟨c9,c9,c9,trivial⟩,⟨u9,trivial⟩⟩ (fun i=>⟨[(8,some (.v (.one (.ref 900 (s5 (fun x=>ol t.rows x ((1:AS) <<< a)) (d9 (b9 (t.attrs.length:Nat) &&& ~~~((1:AS) <<< a))) i).length)))),(9,some (vI i))],[(900,some (.arr true 1 69 (s5 (fun x=>ol t.rows x ((1:AS) <<< a)) (d9 (b9 (t.attrs.length:Nat) &&& ~~~((1:AS) <<< a))) i).length (lf sC (s5 (fun x=>ol t.rows x ((1:AS) <<< a)) (d9 (b9 (t.attrs.length:Nat) &&& ~~~((1:AS) <<< a))) i))))]⟩) (fun i=>i ≤ (d9 (b9 (t.attrs.length:Nat) &&& ~~~((1:AS) <<< a))).length) (fun i=>(d9 (b9 (t.attrs.length:Nat) &&& ~~~((1:AS) <<< a))).length - i) (0) (Nat.zero_le _) ⟨⟨zy,zy,trivial⟩,⟨u9,trivial⟩⟩ ?_
    rintro i hi
    have hlen:=ajs (fun x=>ol t.rows x ((1:AS) <<< a)) (d9 (b9 (t.attrs.length:Nat) &&& ~~~((1:AS) <<< a))) i
    refine a7 ?_;refine sx7 ?_;(iterate 4 refine qy ?_);refine a6 ?_;refine a8 _ rfl (fun r3=>?_) (fun r3=>?_)
    ·
     have h3:=of_decide_eq_true r3
     try simp only [ty] at h3
     refine aa ?_;refine a7 ?_;refine af ?_;refine a7 ?_;refine aw (E:=b5) ae al [0,1,2,3,4,5,6] ?_;(iterate 6 refine qy ?_)
     refine rc rfl rfl rfl rfl rfl rfl aoc (avh t ((d9 (b9 (t.attrs.length:Nat) &&& ~~~((1:AS) <<< a))).getD i default) a ht) (CoL.refl _) rfl rfl ?_;refine a6 ?_;refine ⟨by kernel_rfl, ?_⟩
     refine a8 _ rfl (fun r4=>?_) (fun r4=>?_)
     ·
      have h4:=r4
      refine gy ?_;(iterate 5 refine qy ?_);refine m9 1 ?_;refine ra 2 true rfl rfl rfl rfl rfl rfl ?_;refine qy ?_;refine a6 ?_;refine gy ?_;(iterate 3 refine qy ?_);refine a6 ?_
      first | (refine ⟨i + 1, ?_, ?_, ?_⟩
               · show i + 1 ≤ _;omega
               · first | omega | (dsimp only;omega)
               · exact ⟨⟨⟨_,rfl,(dj (a5w (by omega) (by assumption)))⟩,zy,c9,c9,c9,trivial⟩,⟨⟨_,rfl,(ec (a5w (by omega) (by assumption)) (CoP.refl _))⟩,u9,trivial⟩⟩)
            | (refine ⟨i + 1, ?_, ?_, ?_⟩
               · show i + 1 ≤ _;omega
               · first | omega | (dsimp only;omega)
               · exact ⟨⟨⟨_,rfl,(cw (a4d (by omega) (by assumption)))⟩,zy,c9,c9,c9,trivial⟩,⟨⟨_,rfl,(cg (a4d (by omega) (by assumption)))⟩,u9,trivial⟩⟩)
     ·
      have h4:=r4
      refine aa ?_;refine gy ?_;(iterate 3 refine qy ?_);refine a6 ?_
      first | (refine ⟨i + 1, ?_, ?_, ?_⟩
               · show i + 1 ≤ _;omega
               · first | omega | (dsimp only;omega)
               · exact ⟨⟨⟨_,rfl,(dj (a5w (by omega) (by assumption)))⟩,zy,c9,c9,c9,trivial⟩,⟨⟨_,rfl,(ec (a5w (by omega) (by assumption)) (CoP.refl _))⟩,u9,trivial⟩⟩)
            | (refine ⟨i + 1, ?_, ?_, ?_⟩
               · show i + 1 ≤ _;omega
               · first | omega | (dsimp only;omega)
               · exact ⟨⟨⟨_,rfl,(cw (a4d (by omega) (by assumption)))⟩,zy,c9,c9,c9,trivial⟩,⟨⟨_,rfl,(cg (a4d (by omega) (by assumption)))⟩,u9,trivial⟩⟩)
    ·
     have h3:=of_decide_eq_false r3
     try simp only [ty] at h3
     obtain rfl:i = (d9 (b9 (t.attrs.length:Nat) &&& ~~~((1:AS) <<< a))).length:=by omega
     refine am ?_;refine a7 ?_;refine dh 8 rfl rfl rfl ?_;refine gy ?_;refine qy ?_
     refine rc rfl rfl rfl rfl rfl rfl ahl (a7z ((d9 (b9 (t.attrs.length:Nat) &&& ~~~((1:AS) <<< a))).filter (fun x=>ol t.rows x ((1:AS) <<< a))) (Nat.le_trans (List.length_filter_le _ _) (by omega))) (⟨CoC.one (CoP.of_eq (by rw [ajv (Nat.le_refl _)];rfl)),trivial⟩) rfl rfl ?_
     (iterate 2 refine qy ?_);refine a6 ?_
     exact hx8 rfl rfl rfl (⟨CoC.refl _,CoC.refl _,trivial⟩)
theorem aph:ai Tryz.prog 130:=⟨Tryz.f130,Tryz.func130,by kernel_rfl,by kernel_rfl⟩
theorem at7 (a b:Fd):ak Tryz.prog 130 [a.pc,b.pc] (av [pB (gn a b)]):=by
 refine ag (nt:=20) ae Tryz.func130 rfl rfl l9 ?_;refine sx7 ?_;refine m9 0 ?_;refine m9 1 ?_;refine qy ?_;refine a6 ?_;refine a7 ?_;refine sx7 ?_;(iterate 5 refine qy ?_);refine a6 ?_
 refine a8 _ rfl (fun r0=>?_) (fun r0=>?_)
 ·
  have h0:=r0
  have h0:=of_decide_eq_false (az h0)
  try simp only [ty] at h0
  refine sx7 ?_;(iterate 4 refine qy ?_);refine rc rfl rfl rfl rfl rfl rfl adr (aek _ _) (CoL.refl _) rfl rfl ?_;refine qy ?_;refine a6 ?_
  exact hx8 rfl rfl rfl (⟨ccb (anv (by assumption)),trivial⟩)
 ·
  have h0:=r0
  have h0:=of_decide_eq_true (b4 h0)
  try simp only [ty] at h0
  refine aa ?_;refine sx7 ?_;(iterate 6 refine qy ?_);refine a6 ?_
  exact hx8 rfl rfl rfl (⟨ccb (agh (by assumption)),trivial⟩)
theorem aoj:ai Tryz.prog 101:=⟨Tryz.f101,Tryz.func101,by kernel_rfl,by kernel_rfl⟩
theorem agy (l:List Fd) (hn:l.Nodup) (hl:l.length ≤ 8589934592000):ak Tryz.prog 101 [pP (fdl l)] (av [pP (fdl (fv l))]):=by
 refine ag (nt:=49) ae Tryz.func101 rfl rfl l9 ?_;refine sx7 ?_;refine qy ?_;refine a6 ?_;refine sx7 ?_;refine m9 0 ?_;refine qy ?_;refine ra 1 true rfl rfl rfl rfl rfl rfl ?_;refine qy ?_;refine a6 ?_
 refine abt ⟨[(3,some (.v (.one (.ref 0 l.length))))],[(0,some (.arr true 2 71 l.length (lf Fd.c l)))]⟩ ⟨⟨⟨_,rfl,CoR.of_eq (by rw [Nat.zero_add])⟩,trivial⟩,⟨⟨_,rfl,akn⟩,trivial⟩⟩ ?_;refine a7 ?_
 refine sx7 ?_;refine qy ?_;refine a6 ?_;refine af ?_
 refine ap (ι:=Nat) ⟨[(3,some _)],[]⟩ ⟨⟨c9,trivial⟩,trivial⟩ (fun i=>⟨[(4,some (vI i))],[(0,some (.arr true 2 71 l.length (lf Fd.c (yq l i))))]⟩) (fun i=>1 ≤ i ∧ (i ≤ l.length ∨ i = 1)) (fun i=>l.length - i) (1) (⟨Nat.le_refl _, .inr rfl⟩) ⟨⟨zy,trivial⟩,⟨⟨_,rfl,(og (aki l) rfl)⟩,trivial⟩⟩ ?_
 rintro i ⟨hi1,hi2⟩
 refine a7 ?_;refine sx7 ?_;(iterate 4 refine qy ?_);refine a6 ?_;refine a8 _ rfl (fun r0=>?_) (fun r0=>?_)
 ·
  have h0:=of_decide_eq_true r0
  try simp only [ty] at h0
  refine aa ?_;refine a7 ?_;refine af ?_;refine sx7 ?_;(iterate 2 refine qy ?_);refine a6 ?_;refine af ?_
  refine ap (ι:=Nat) ⟨[(3,some _),(4,some _)],[]⟩ ⟨⟨c9,c9,trivial⟩,trivial⟩ (fun k=>⟨[(5,some (vI k))],[(0,some (.arr true 2 71 l.length (lf Fd.c (i4 l i k))))]⟩) (fun k=>k ≤ i ∧ ∀ j,k ≤ j → j < i → gn (l.getD i default) ((fv (l.take i)).getD j default) = true) (fun k=>k) (i) (⟨Nat.le_refl _,fun j h1 h2=>by omega⟩) ⟨⟨zy,trivial⟩,⟨⟨_,rfl,(og (afy hn (by omega)) rfl)⟩,trivial⟩⟩ ?_
  rintro k ⟨hk,hK⟩
  (iterate 2 refine a7 ?_);refine aw (E:=b5) ae al [0,1,2,3,4,5,6,7,8,9,10,11,12,13] ?_;(iterate 3 refine qy ?_);refine b6 rfl rfl (fun r1=>?_) (fun r1=>?_)
  ·
   have h1:=of_decide_eq_true r1
   try simp only [ty] at h1
   (iterate 9 refine qy ?_ (hg:=(gtt r1)));refine rc rfl rfl rfl rfl rfl rfl aph (at7 _ _) (CoL.refl _) rfl (gtt r1) ?_;refine qy ?_;refine a6 ?_;refine ⟨by kernel_rfl, ?_⟩
   refine a8 _ rfl (fun r2=>?_) (fun r2=>?_)
   ·
    have h2:=r2
    have h2:=cq r1 h2
    have hb:=agr hn (by omega) (by omega) hk h2 (by omega) (by omega)
    refine aa ?_;refine a7 ?_;refine af ?_;refine aw (E:=b5) ae al [0,1,5,6,7,8,9,10,11,12,13,14,15,2,3,4,16,17] ?_;(iterate 12 refine qy ?_);refine s9 ?_
    (iterate 4 refine qy ?_);refine s9 ?_;refine a6 ?_;refine ⟨by kernel_rfl, ?_⟩;refine gy ?_;(iterate 3 refine qy ?_);refine a6 ?_;refine ⟨k - 1, ?_, ?_, ?_⟩
    · refine ⟨by omega,fun j h1 h2=>?_⟩
      by_cases hj:j = k - 1
      · rw [hj];exact hb
      · exact hK j (by omega) h2
    · show k - 1 < k
      omega
    · exact ⟨⟨zy,c9,c9,trivial⟩,⟨⟨_,rfl,(al9 hn (by omega) (by omega) hk (by omega) (by omega) rfl)⟩,trivial⟩⟩
   ·
    have h2:=r2
    have h2:=cq r1 h2
    have hb:=agr hn (by omega) (by omega) hk h2 (by omega) (by omega)
    have hfin:=a9p hn (by omega) hk hK (.inr hb)
    refine am ?_;refine gy ?_;(iterate 3 refine qy ?_);refine a6 ?_;refine ⟨i + 1, ?_, ?_, ?_⟩
    · exact ⟨by omega, .inl (by omega)⟩
    · first | omega | (dsimp only;omega)
    · exact ⟨⟨zy,c9,trivial⟩,⟨⟨_,rfl,(og hfin.symm rfl)⟩,trivial⟩⟩
  ·
   have h1:=of_decide_eq_false r1
   try simp only [ty] at h1
   have hfin:=a9p hn (by omega) hk hK (.inl (by omega))
   (iterate 10 refine k9 (gft r1) ?_);refine rq rfl rfl rfl rfl rfl ?_ (hp:=r1);refine a6 ?_;refine ⟨by kernel_rfl, ?_⟩;refine a8 _ rfl (fun e=>by cases e) (fun _=>?_);refine am ?_;refine gy ?_
   (iterate 3 refine qy ?_);refine a6 ?_;refine ⟨i + 1, ?_, ?_, ?_⟩
   · exact ⟨by omega, .inl (by omega)⟩
   · first | omega | (dsimp only;omega)
   · exact ⟨⟨zy,c9,trivial⟩,⟨⟨_,rfl,(og hfin.symm rfl)⟩,trivial⟩⟩
 ·
  have h0:=of_decide_eq_false r0
  try simp only [ty] at h0
  have hil:l.length ≤ i:=by omega
  refine am ?_;refine sx7 ?_;(iterate 2 refine qy ?_);refine a6 ?_;refine dh 2 rfl rfl rfl ?_
  exact hx8 rfl rfl rfl (⟨CoC.one (CoP.of_eq (by rw [alm hil,← a7r hn];rfl)),trivial⟩)
end Go.Hx
end

/- A part of the proof: Mw3. -/
import Derived.Test.YtaegkccfbmekbaaGreatNq23
import Derived.Test.YtaegkccfbmekbaaGreatNq32
set_option linter.all false
section
namespace Go.Hx
open Go.Proofs
set_option maxRecDepth 100000
set_option maxHeartbeats 1000000
theorem ary:aj Tryz.prog 87:=⟨Tryz.f87,Tryz.func87,by kernel_rfl,by kernel_rfl⟩
theorem auj (t:Tbl) (x:AS) (ht:TOk t):ap Tryz.prog 87 [t.pc,pA x] (b4 [pB (xm t.rows x)]):=by
 refine ah (nt:=31) ae Tryz.func87 rfl rfl l9 ?_
 have hnr:=ht.nr
 have hna:=ht.na
 have hsq:t.rows.length * t.rows.length ≤ 1000000:=Nat.mul_le_mul hnr hnr
 refine sx7 ?_;refine m9 0 ?_;refine qy ?_;refine a6 ?_;refine a7 ?_;refine sx7 ?_;refine qy ?_;refine a6 ?_;refine af ?_
 refine av (ι:=Nat) ⟨[(1,some _),(2,some _)],[(0,some _)]⟩ ⟨⟨c9,c9,trivial⟩,⟨u9,trivial⟩⟩ (fun i=>⟨[(5,some (vI i))],[]⟩) (fun i=>t.rows.length ≥ i ∧ ∀ j,j < i → atk t.rows x j = true) (fun i=>t.rows.length - i) (0) (⟨Nat.zero_le _,dl⟩) ⟨⟨zy,trivial⟩,trivial⟩ ?_
 rintro i ⟨hi,hI⟩
 refine a7 ?_;refine sx7 ?_;(iterate 5 refine qy ?_);refine a6 ?_;refine a8 _ rfl (fun r0=>?_) (fun r0=>?_)
 ·
  have h0:=of_decide_eq_true r0
  try simp only [ty] at h0
  refine aa ?_;refine a7 ?_;refine af ?_;refine sx7 ?_;refine qy ?_;refine a6 ?_;refine af ?_
  refine av (ι:=Nat) ⟨[(1,some _),(2,some _),(5,some _)],[(0,some _)]⟩ ⟨⟨c9,c9,c9,trivial⟩,⟨u9,trivial⟩⟩ (fun k=>⟨[(6,some (vI k))],[]⟩) (fun k=>k ≤ i ∧ ∀ j,j < k → a35 t.rows x i j = true) (fun k=>i - k) (0) (⟨Nat.zero_le _,dl⟩) ⟨⟨zy,trivial⟩,trivial⟩ ?_
  rintro k ⟨hk,hK⟩
  refine a7 ?_;refine sx7 ?_;(iterate 3 refine qy ?_);refine a6 ?_;refine a8 _ rfl (fun r1=>?_) (fun r1=>?_)
  ·
   have h1:=of_decide_eq_true r1
   try simp only [ty] at h1
   refine aa ?_;refine a7 ?_;refine af ?_;refine a7 ?_;refine ax (E:=aq) ae ak [0,1,2,3,4,5,6,7,8,9,10,11] ?_;(iterate 11 refine qy ?_)
   refine rc rfl rfl rfl rfl rfl rfl a68 (akw (t.rows.getD i default) (t.rows.getD k default) x (ht.rows i (by omega)) (ht.rows k (by omega))) (CoL.refl _) rfl rfl ?_;refine a6 ?_;refine ⟨by kernel_rfl, ?_⟩
   refine a8 _ rfl (fun r2=>?_) (fun r2=>?_)
   ·
    have h2:=r2
    refine sx7 ?_;refine qy ?_;refine a6 ?_
    exact hx8 rfl rfl rfl (⟨ccb (aq5 (i:=i) (k:=k) (by omega) (by omega) (by unfold a35;simp_all)).symm,trivial⟩)
   ·
    have h2:=r2
    refine aa ?_;refine gy ?_;(iterate 3 refine qy ?_);refine a6 ?_;refine ⟨k + 1, ?_, ?_, ?_⟩
    · exact ⟨by omega,da hK (by first | assumption | (unfold a35;simp_all))⟩
    · first | omega | (dsimp only;omega)
    · exact ⟨⟨zy,c9,c9,c9,trivial⟩,⟨u9,trivial⟩⟩
  ·
   have h1:=of_decide_eq_false r1
   try simp only [ty] at h1
   refine au ?_;refine gy ?_;(iterate 3 refine qy ?_);refine a6 ?_;refine ⟨i + 1, ?_, ?_, ?_⟩
   · exact ⟨by omega,da hI (jf fun j hj=>hK j (by omega))⟩
   · first | omega | (dsimp only;omega)
   · exact ⟨⟨zy,c9,c9,trivial⟩,⟨u9,trivial⟩⟩
 ·
  have h0:=of_decide_eq_false r0
  try simp only [ty] at h0
  refine au ?_;refine sx7 ?_;refine qy ?_;refine a6 ?_
  exact hx8 rfl rfl rfl (⟨ccb (as9 fun j hj=>hI j (by omega)).symm,trivial⟩)
theorem aq8:aj Tryz.prog 48:=⟨Tryz.f48,Tryz.func48,by kernel_rfl,by kernel_rfl⟩
theorem aql (t:Tbl) (ht:TOk t):ap Tryz.prog 48 [t.pc] (b4 [pP (asl (a6g t.rows t.attrs.length))]):=by
 refine ah (nt:=22) ae Tryz.func48 rfl rfl l9 ?_
 have hna:=ht.na
 have hfl:(b6 (t.attrs.length:Nat)).toNat + 1 ≤ 65536:=apz hna
 refine sx7 ?_;refine m9 0 ?_;refine qy ?_;refine a6 ?_;refine sx7 ?_;refine qy ?_;refine a6 ?_;refine a7 ?_;refine sx7 ?_;refine qy ?_;refine a6 ?_;refine af ?_
 refine dw 3 900 true 1 69 (lf sC []) (by decide) rfl (CoP.sl rfl (.inr rfl) (fun h=>h) (fun i j hi _=>absurd hi (Nat.not_lt_zero i))) (.inr rfl) rfl ?_
 refine av (ι:=Nat) ⟨[(1,some _)],[(0,some _)]⟩ ⟨⟨c9,trivial⟩,⟨u9,trivial⟩⟩ (fun k=>⟨[(3,some (.v (.one (.ref 900 (upT t.rows k).length)))),(4,some (vA (BitVec.ofNat 32 k)))],[(900,some (.arr true 1 69 (upT t.rows k).length (lf sC (upT t.rows k))))]⟩) (fun k=>k ≤ (b6 (t.attrs.length:Nat)).toNat + 1) (fun k=>(b6 (t.attrs.length:Nat)).toNat + 1 - k) (0) (Nat.zero_le _) ⟨⟨zy,zy,trivial⟩,⟨u9,trivial⟩⟩ ?_
 rintro k hk
 have hlen:=aef t.rows k
 refine a7 ?_;refine sx7 ?_;(iterate 4 refine qy ?_);refine rc rfl rfl rfl rfl rfl rfl ag9 (ahw t.attrs.length) (CoL.refl _) rfl rfl ?_;refine qy ?_;refine a6 ?_
 refine a8 _ rfl (fun r0=>?_) (fun r0=>?_)
 ·
  have h0:=of_decide_eq_true r0
  try simp only [ty] at h0
  have hk2:k ≤ (b6 (t.attrs.length:Nat)).toNat:=by
   have q:asI (BitVec.ofNat 32 k) ≤ asI (b6 (t.attrs.length:Nat)):=h0
   rw [ik (by omega)] at q
   exact Int.ofNat_le.1 q
  refine aa ?_;refine a7 ?_;refine af ?_;refine sx7 ?_;(iterate 2 refine qy ?_);refine rc rfl rfl rfl rfl rfl rfl ary (auj t (BitVec.ofNat 32 k) ht) (CoL.refl _) rfl rfl ?_;refine a6 ?_
  refine a8 _ rfl (fun r1=>?_) (fun r1=>?_)
  ·
   have h1:=r1
   refine gy ?_;(iterate 2 refine qy ?_);refine m9 1 ?_;refine ra 2 true rfl rfl rfl rfl rfl rfl ?_;refine qy ?_;refine a6 ?_;refine gy ?_;refine qy ?_
   refine rq rfl rfl rfl rfl rfl ?_ (hp:=by have q:=ik (k:=k) (by omega);rw [q];simp only [inR,jq,lg];omega);refine qy ?_;refine a6 ?_
   first | (refine ⟨k + 1, ?_, ?_, ?_⟩
            · show k + 1 ≤ _;omega
            · first | omega | (dsimp only;omega)
            · exact ⟨⟨⟨_,rfl,(df (a8y (by assumption)))⟩,⟨_,rfl,(i6 (by rw [ik (by omega),ik (by omega)];omega))⟩,c9,trivial⟩,⟨⟨_,rfl,(dx (a8y (by assumption)) (CoP.refl _))⟩,u9,trivial⟩⟩)
         | (refine ⟨k + 1, ?_, ?_, ?_⟩
            · show k + 1 ≤ _;omega
            · first | omega | (dsimp only;omega)
            · exact ⟨⟨⟨_,rfl,(d5 (a97 (by assumption)))⟩,⟨_,rfl,(i6 (by rw [ik (by omega),ik (by omega)];omega))⟩,c9,trivial⟩,⟨⟨_,rfl,(ci (a97 (by assumption)))⟩,u9,trivial⟩⟩)
  ·
   have h1:=r1
   refine aa ?_;refine gy ?_;refine qy ?_;refine rq rfl rfl rfl rfl rfl ?_ (hp:=by have q:=ik (k:=k) (by omega);rw [q];simp only [inR,jq,lg];omega);refine qy ?_;refine a6 ?_
   first | (refine ⟨k + 1, ?_, ?_, ?_⟩
            · show k + 1 ≤ _;omega
            · first | omega | (dsimp only;omega)
            · exact ⟨⟨⟨_,rfl,(df (a8y (by assumption)))⟩,⟨_,rfl,(i6 (by rw [ik (by omega),ik (by omega)];omega))⟩,c9,trivial⟩,⟨⟨_,rfl,(dx (a8y (by assumption)) (CoP.refl _))⟩,u9,trivial⟩⟩)
         | (refine ⟨k + 1, ?_, ?_, ?_⟩
            · show k + 1 ≤ _;omega
            · first | omega | (dsimp only;omega)
            · exact ⟨⟨⟨_,rfl,(d5 (a97 (by assumption)))⟩,⟨_,rfl,(i6 (by rw [ik (by omega),ik (by omega)];omega))⟩,c9,trivial⟩,⟨⟨_,rfl,(ci (a97 (by assumption)))⟩,u9,trivial⟩⟩)
 ·
  have h0:=of_decide_eq_false r0
  try simp only [ty] at h0
  obtain rfl:k = (b6 (t.attrs.length:Nat)).toNat + 1:=by
   have q:¬ asI (BitVec.ofNat 32 k) ≤ asI (b6 (t.attrs.length:Nat)):=h0
   rw [ik (by omega)] at q
   have q2:¬ k ≤ (b6 (t.attrs.length:Nat)).toNat:=fun e=>q (Int.ofNat_le.2 e)
   omega
  refine au ?_;refine a7 ?_;refine dn 3 rfl rfl rfl ?_;refine gy ?_;refine qy ?_
  refine rc rfl rfl rfl rfl rfl rfl ajb (a7v (upT t.rows ((b6 (t.attrs.length:Nat)).toNat + 1)) (Nat.le_trans (aef _ _) (by omega))) (⟨CoC.refl _,trivial⟩) rfl rfl ?_;refine qy ?_;refine a6 ?_
  exact hx8 rfl rfl rfl (⟨CoC.one (CoP.of_eq (by rw [aom])),trivial⟩)
theorem ati:aj Tryz.prog 57:=⟨Tryz.f57,Tryz.func57,by kernel_rfl,by kernel_rfl⟩
theorem arn (t:Tbl):ap Tryz.prog 57 [t.pc] (b4 [pP (fdl (a3i t)),pI (n4 t)]):=by
 refine ah (nt:=46) ae Tryz.func57 rfl rfl l9 ?_;refine sx7 ?_;refine m9 0 ?_;(iterate 2 refine qy ?_);refine a6 ?_;refine a7 ?_;refine sx7 ?_;refine qy ?_
 refine rc rfl rfl rfl rfl rfl rfl agb (ahg t) (CoL.refl _) rfl rfl ?_;refine qy ?_;refine a6 ?_;refine sx7 ?_;(iterate 2 refine qy ?_);refine a6 ?_;refine a8 _ rfl (fun r0=>?_) (fun r0=>?_)
 ·
  have h0:=r0
  have h0:=of_decide_eq_false (be h0)
  try simp only [ty] at h0
  refine sx7 ?_;(iterate 3 refine qy ?_);refine a6 ?_
  exact hx8 rfl rfl rfl (⟨CoC.one (by rw [show a3i t = [] from if_neg (by assumption)];exact bd),CoC.refl _,trivial⟩)
 ·
  have h0:=r0
  have h0:=of_decide_eq_true (bf h0)
  try simp only [ty] at h0
  obtain ⟨ht,h200,h10⟩:=aap h0
  refine aa ?_;refine sx7 ?_;refine qy ?_;refine a6 ?_;refine a7 ?_;refine sx7 ?_;refine qy ?_;refine a6 ?_;refine af ?_
  refine dw 5 900 true 2 71 (lf Fd.c []) (by decide) rfl (CoP.sl rfl (.inr rfl) (fun h=>h) (fun i j hi _=>absurd hi (Nat.not_lt_zero i))) (.inr rfl) rfl ?_
  refine av (ι:=Nat) ⟨[(1,some _)],[(0,some _)]⟩ ⟨⟨c9,trivial⟩,⟨u9,trivial⟩⟩ (fun a=>⟨[(5,some (.v (.one (.ref 900 (kf t.rows t.attrs.length a 0).length)))),(6,some (vI a))],[(900,some (.arr true 2 71 (kf t.rows t.attrs.length a 0).length (lf Fd.c (kf t.rows t.attrs.length a 0))))]⟩) (fun a=>a ≤ t.attrs.length) (fun a=>t.attrs.length - a) (0) (Nat.zero_le _) ⟨⟨zy,zy,trivial⟩,⟨u9,trivial⟩⟩ ?_
  rintro a ha
  have hlen:=a37 t.rows t.attrs.length a 0 h10 ha
  have hfl:=a3g t.rows t.attrs.length a h10
  refine a7 ?_;refine sx7 ?_;(iterate 5 refine qy ?_);refine a6 ?_;refine a8 _ rfl (fun r1=>?_) (fun r1=>?_)
  ·
   have h1:=of_decide_eq_true r1
   try simp only [ty] at h1
   refine aa ?_;refine a7 ?_;refine af ?_;refine sx7 ?_;(iterate 2 refine qy ?_);refine rc rfl rfl rfl rfl rfl rfl ans (aq0 t a (by assumption) (by omega)) (CoL.refl _) rfl rfl ?_
   (iterate 5 refine qy ?_);refine a6 ?_;refine sx7 ?_;refine qy ?_;refine a6 ?_;refine af ?_
   refine av (ι:=Nat) ⟨[(1,some _),(6,some _),(7,some _)],[(0,some _)]⟩ ⟨⟨c9,c9,c9,trivial⟩,⟨u9,trivial⟩⟩ (fun k=>⟨[(5,some (.v (.one (.ref 900 (kf t.rows t.attrs.length a k).length)))),(9,some (vI k))],[(900,some (.arr true 2 71 (kf t.rows t.attrs.length a k).length (lf Fd.c (kf t.rows t.attrs.length a k))))]⟩) (fun k=>k ≤ (oc t.rows t.attrs.length a).length) (fun k=>(oc t.rows t.attrs.length a).length - k) (0) (Nat.zero_le _) ⟨⟨zy,zy,trivial⟩,⟨u9,trivial⟩⟩ ?_
   rintro k hk
   have hlen2:=a37 t.rows t.attrs.length a k h10 ha
   refine a7 ?_;refine sx7 ?_;(iterate 4 refine qy ?_);refine a6 ?_;refine a8 _ rfl (fun r2=>?_) (fun r2=>?_)
   ·
    have h2:=of_decide_eq_true r2
    try simp only [ty] at h2
    refine aa ?_;refine a7 ?_;refine af ?_;refine ax (E:=aq) ae ak [0,1,2,3,4,5,6,7,8,9,10] ?_;(iterate 8 refine qy ?_);refine m9 1 ?_
    refine ra 2 true rfl rfl rfl rfl rfl rfl ?_;refine qy ?_;refine a6 ?_;refine ⟨by kernel_rfl, ?_⟩;refine gy ?_;(iterate 3 refine qy ?_);refine a6 ?_;refine ⟨k + 1, ?_, ?_, ?_⟩
    · show k + 1 ≤ _;omega
    · first | omega | (dsimp only;omega)
    · exact ⟨⟨⟨_,rfl,(df (a87 (by omega)))⟩,zy,c9,c9,c9,trivial⟩,⟨⟨_,rfl,(ji (a87 (by omega)) (CoP.refl _) (CoP.of_eq (congrArg (fun z=>PV.raw (.int .u32 z)) (vf 1 a))))⟩,u9,trivial⟩⟩
   ·
    have h2:=of_decide_eq_false r2
    try simp only [ty] at h2
    have hkl:(oc t.rows t.attrs.length a).length ≤ k:=by omega
    refine au ?_;refine gy ?_;(iterate 3 refine qy ?_);refine a6 ?_;refine ⟨a + 1, ?_, ?_, ?_⟩
    · show a + 1 ≤ _;omega
    · first | omega | (dsimp only;omega)
    · exact ⟨⟨⟨_,rfl,(d5 (a8e hkl).symm)⟩,zy,c9,trivial⟩,⟨⟨_,rfl,(ci (a8e hkl).symm)⟩,u9,trivial⟩⟩
  ·
   have h1:=of_decide_eq_false r1
   try simp only [ty] at h1
   obtain rfl:a = t.attrs.length:=by omega
   refine au ?_;refine a7 ?_;refine dn 5 rfl rfl rfl ?_;refine gy ?_;refine qy ?_
   refine rc rfl rfl rfl rfl rfl rfl apj (ag5 (kf t.rows t.attrs.length t.attrs.length 0) (agx _ _ (by omega)) (by have:=a37 t.rows t.attrs.length t.attrs.length 0 h10 (Nat.le_refl _);omega)) (⟨CoC.refl _,trivial⟩) rfl rfl ?_
   (iterate 2 refine qy ?_);refine a6 ?_
   exact hx8 rfl rfl rfl (⟨CoC.one (CoP.of_eq (by rw [akf,show a3i t = abc t.rows t.attrs.length from if_pos (by assumption)])),cci (by omega),trivial⟩)
theorem asa:aj Tryz.prog 24:=⟨Tryz.f24,Tryz.func24,by kernel_rfl,by kernel_rfl⟩
theorem atx (t:Tbl):ap Tryz.prog 24 [t.pc] (b4 [pP (fdl (a3i t))]):=by
 refine ah (nt:=11) ae Tryz.func24 rfl rfl l9 ?_;refine sx7 ?_;refine m9 0 ?_;refine qy ?_;refine a6 ?_;refine sx7 ?_;refine qy ?_;refine rc rfl rfl rfl rfl rfl rfl ati (arn t) (CoL.refl _) rfl rfl ?_
 (iterate 5 refine qy ?_);refine a6 ?_;refine sx7 ?_;(iterate 2 refine qy ?_);refine a6 ?_
 exact hx8 rfl rfl rfl (CoL.refl _)
theorem as2:aj Tryz.prog 53:=⟨Tryz.f53,Tryz.func53,by kernel_rfl,by kernel_rfl⟩
theorem as7 (n:Nat) (hn:n ≤ 8):ap Tryz.prog 53 [pI n] (b4 [pP (i7 (ni.take n))]):=by
 refine ah (nt:=8) ae Tryz.func53 rfl rfl l9 ?_;refine sx7 ?_;refine qy ?_;refine a6 ?_;refine sx7 ?_;refine m9 0 ?_;refine m9 1 ?_;refine qy ?_;refine ato rfl rfl rfl rfl rfl ?_
 refine ra 2 true rfl rfl rfl rfl rfl rfl ?_;refine qy ?_;refine a6 ?_;refine dn 2 rfl rfl rfl ?_
 exact hx8 rfl rfl rfl (⟨CoC.one (avx hn),trivial⟩)
theorem ark:aj Tryz.prog 13:=⟨Tryz.f13,Tryz.func13,by kernel_rfl,by kernel_rfl⟩
theorem au3 (s:ByteArray) (l:List ByteArray) (hl:l.length ≤ 1000000):ap Tryz.prog 13 [pS s,pP (i7 l)] (b4 [(a0n s l).pc,pI (j7 s l)]):=by
 refine ah (nt:=24) ae Tryz.func13 rfl rfl l9 ?_;refine sx7 ?_;refine m9 0 ?_;refine qy ?_;refine a6 ?_;refine sx7 ?_;refine qy ?_;refine m9 1 ?_;refine qy ?_;refine ra 2 true rfl rfl rfl rfl rfl rfl ?_
 refine qy ?_;refine m9 3 ?_;refine s9 ?_;refine a6 ?_;refine ju 3 1 rfl rfl rfl rfl rfl ?_;refine a7 ?_;refine sx7 ?_;refine qy ?_
 refine rc rfl rfl rfl rfl rfl rfl x7 (c82 (gf s l)) (⟨CoC.agg ⟨CoP.refl _,sx,bd,trivial⟩,trivial⟩) rfl rfl ?_;refine qy ?_;refine a6 ?_;refine sx7 ?_;(iterate 2 refine qy ?_);refine a6 ?_
 refine a8 _ rfl (fun r0=>?_) (fun r0=>?_)
 ·
  have h0:=r0
  have h0:=of_decide_eq_false (be h0)
  try simp only [ty] at h0
  refine sx7 ?_;(iterate 2 refine qy ?_);refine s9 ?_;refine qy ?_;refine a6 ?_;refine aw ?_;refine ⟨.inr rfl, ?_⟩
  have hh:=as3 h0
  exact f9 rfl rfl (⟨by rw [hh.2];exact CoC.agg ⟨CoP.refl _,bd,bd,trivial⟩,cci hh.1.symm,trivial⟩)
 ·
  have h0:=r0
  have h0:=of_decide_eq_true (bf h0)
  try simp only [ty] at h0
  refine aa ?_;refine a7 ?_;refine sx7 ?_;(iterate 3 refine qy ?_);refine a6 ?_;refine a8 _ rfl (fun r1=>?_) (fun r1=>?_)
  ·
   have h1:=of_decide_eq_true r1
   try simp only [ty] at h1
   refine sx7 ?_;refine qy ?_;refine s9 ?_;refine qy ?_;refine a6 ?_;refine aw ?_;refine ⟨.inr rfl, ?_⟩
   have hh:=at7 h0 (by omega)
   exact f9 rfl rfl (⟨by rw [hh.2];exact CoC.agg ⟨CoP.refl _,bd,bd,trivial⟩,cci hh.1.symm,trivial⟩)
  ·
   have h1:=of_decide_eq_false r1
   try simp only [ty] at h1
   refine aa ?_;refine sx7 ?_;refine qy ?_;refine s9 ?_;refine qy ?_;refine a6 ?_;refine aw ?_;refine ⟨.inr rfl, ?_⟩
   have hh:=avc h0 (by omega)
   exact f9 rfl rfl (⟨by rw [hh.2];exact CoC.agg ⟨CoP.refl _,sx,bd,trivial⟩,cci hh.1.symm,trivial⟩)
theorem asz:aj Tryz.prog 56:=⟨Tryz.f56,Tryz.func56,by kernel_rfl,by kernel_rfl⟩
theorem auy (t:Tbl) (r:Row):ap Tryz.prog 56 [t.pc,r.pc] (b4 [(kp t r).pc,pI (f3 t r)]):=by
 refine ah (nt:=24) ae Tryz.func56 rfl rfl l9 ?_;refine sx7 ?_;refine m9 0 ?_;refine m9 1 ?_;refine m9 2 ?_;refine qy ?_;refine a6 ?_;refine sx7 ?_;(iterate 2 refine qy ?_)
 refine rc rfl rfl rfl rfl rfl rfl ata (c61 t r) (CoL.refl _) rfl rfl ?_;(iterate 3 refine qy ?_);refine m9 3 ?_;refine s9 ?_;refine qy ?_;refine a6 ?_;refine a7 ?_;refine sx7 ?_;(iterate 2 refine qy ?_)
 refine a6 ?_;refine a8 _ rfl (fun r0=>?_) (fun r0=>?_)
 ·
  have h0:=r0
  have h0:=of_decide_eq_false (be h0)
  try simp only [ty] at h0
  refine sx7 ?_;(iterate 2 refine qy ?_);refine s9 ?_;refine qy ?_;refine a6 ?_
  exact hx8 rfl rfl rfl (⟨CoC.of_eq (by unfold kp;rw [if_pos (by assumption)]),cci (by unfold f3;rw [if_pos (by assumption)]),trivial⟩)
 ·
  have h0:=r0
  have h0:=of_decide_eq_true (bf h0)
  try simp only [ty] at h0
  refine aa ?_;refine a7 ?_;refine sx7 ?_;(iterate 4 refine qy ?_);refine a6 ?_;refine a8 _ rfl (fun r1=>?_) (fun r1=>?_)
  ·
   have h1:=of_decide_eq_true r1
   try simp only [ty] at h1
   refine sx7 ?_;refine qy ?_;refine s9 ?_;refine qy ?_;refine a6 ?_
   exact hx8 rfl rfl rfl (⟨CoC.of_eq (by unfold kp;rw [if_neg (by simpa using h0),if_pos (by omega)]),cci (by unfold f3;rw [if_neg (by simpa using h0),if_pos (by omega)]),trivial⟩)
  ·
   have h1:=of_decide_eq_false r1
   try simp only [ty] at h1
   refine aa ?_;refine sx7 ?_;refine qy ?_;refine s9 ?_;refine qy ?_;refine a6 ?_
   exact hx8 rfl rfl rfl (⟨CoC.of_eq (by unfold kp;rw [if_neg (by simpa using h0),if_neg (by omega)]),cci (by unfold f3;rw [if_neg (by simpa using h0),if_neg (by omega)]),trivial⟩)
theorem ags:aj Tryz.prog 32:=⟨Tryz.f32,Tryz.func32,by kernel_rfl,by kernel_rfl⟩
theorem ahq (n:Nat) (o:MOp) (hn:n ≤ 16):ap Tryz.prog 32 [pI n,o.pc] (b4 [(mb n o).pc]):=by
 refine ah (nt:=46) ae Tryz.func32 rfl rfl l9 ?_;refine sx7 ?_;refine m9 0 ?_;refine m9 1 ?_;refine a6 ?_;refine sx7 ?_;(iterate 5 refine qy ?_);refine m9 2 ?_;refine s9 ?_;refine a6 ?_
 refine a7 ?_;refine sx7 ?_;refine qy ?_;refine a6 ?_;refine af ?_
 refine fg 2 1 9 true 3 81 (lf Val.c (gl o.codes n)) (by decide) rfl rfl (CoP.sl rfl (.inr rfl) (fun h=>h) (fun i j hi _=>absurd hi (Nat.not_lt_zero i))) (.inr rfl) rfl rfl ?_
 refine av (ι:=Nat) ⟨[(0,some _),(3,some _),(4,some _),(5,some _)],[(0,some _),(1,some _)]⟩ ⟨⟨c9,c9,c9,c9,trivial⟩,⟨u9,u9,trivial⟩⟩ (fun k=>⟨[(6,some (vI k))],[(2,some (.box [.p (.raw (.int .i64 (gw o))), .ref 9 k])),(9,some (.arr true 3 81 k (lf Val.c (gl o.codes n))))]⟩) (fun k=>k ≤ n) (fun k=>n - k) (0) (Nat.zero_le _) ⟨⟨zy,trivial⟩,⟨u9,u9,trivial⟩⟩ ?_
 rintro k hk
 refine a7 ?_;refine sx7 ?_;(iterate 3 refine qy ?_);refine a6 ?_;refine a8 _ rfl (fun r0=>?_) (fun r0=>?_)
 ·
  have h0:=of_decide_eq_true r0
  try simp only [ty] at h0
  refine aa ?_;refine a7 ?_;refine af ?_;refine sx7 ?_;refine qy ?_;refine a6 ?_;refine a7 ?_;refine sx7 ?_;(iterate 5 refine qy ?_);refine a6 ?_
  refine a8 _ rfl (fun r1=>?_) (fun r1=>?_)
  ·
   have h1:=of_decide_eq_true r1
   try simp only [ty] at h1
   refine gy ?_;(iterate 6 refine qy ?_);refine a6 ?_;refine ax (E:=aq) ae ak [0,1,2,3,4,5,6,7] ?_;(iterate 3 refine qy ?_)
   refine rc rfl rfl rfl rfl rfl rfl a4s (c49 _ (by omega)) (CoL.refl _) rfl rfl ?_;refine m9 3 ?_;refine ra 4 true rfl rfl rfl rfl rfl rfl ?_;refine qy ?_;refine s9 ?_;refine a6 ?_;refine ⟨by kernel_rfl, ?_⟩
   refine gy ?_;(iterate 3 refine qy ?_);refine a6 ?_;refine ⟨k + 1, ?_, ?_, ?_⟩
   · show k + 1 ≤ _
     omega
   · first | omega | (dsimp only;omega)
   · exact ⟨⟨zy,c9,c9,c9,c9,trivial⟩,⟨u9,⟨_,rfl,(kz (fun h=>h) (by first | (intro j hj;rw [a4d (by omega)];revert j;exact lt3 (CoP.refl _) (CoP.refl _) (CoP.refl _)) | (intro j hj;rw [a4d (by omega),ae1 (by omega)];revert j;exact lt3 (CoP.refl _) (CoP.refl _) (CoP.refl _))))⟩,u9,u9,trivial⟩⟩
  ·
   have h1:=of_decide_eq_false r1
   try simp only [ty] at h1
   refine aa ?_;refine ax (E:=aq) ae ak [0,1,2,3,4,5,6,7] ?_;(iterate 3 refine qy ?_);refine rc rfl rfl rfl rfl rfl rfl a4s (c49 _ (by omega)) (CoL.refl _) rfl rfl ?_;refine m9 5 ?_
   refine ra 6 true rfl rfl rfl rfl rfl rfl ?_;refine qy ?_;refine s9 ?_;refine a6 ?_;refine ⟨by kernel_rfl, ?_⟩;refine gy ?_;(iterate 3 refine qy ?_);refine a6 ?_;refine ⟨k + 1, ?_, ?_, ?_⟩
   · show k + 1 ≤ _
     omega
   · first | omega | (dsimp only;omega)
   · exact ⟨⟨zy,c9,c9,c9,c9,trivial⟩,⟨u9,⟨_,rfl,(kz (fun h=>h) (by first | (intro j hj;rw [a4d (by omega)];revert j;exact lt3 (CoP.refl _) (CoP.refl _) (CoP.refl _)) | (intro j hj;rw [a4d (by omega),ae1 (by omega)];revert j;exact lt3 (CoP.refl _) (CoP.refl _) (CoP.refl _))))⟩,u9,u9,trivial⟩⟩
 ·
  have h0:=of_decide_eq_false r0
  try simp only [ty] at h0
  obtain rfl:n = k:=by omega
  refine au ?_;refine a7 ?_;refine sx7 ?_;(iterate 4 refine qy ?_);refine a6 ?_;refine a8 _ rfl (fun r2=>?_) (fun r2=>?_)
  ·
   have h2:=of_decide_eq_true r2
   try simp only [ty] at h2
   refine gy ?_;(iterate 3 refine qy ?_);refine m9 7 ?_;refine ra 8 true rfl rfl rfl rfl rfl rfl ?_;refine qy ?_;refine s9 ?_;refine a6 ?_;refine sx7 ?_;refine qy ?_;refine s9 ?_;refine a6 ?_
   exact hx8 rfl rfl rfl (⟨CoC.agg ⟨CoP.refl _,by first | (rw [show (mb n o).c 1 = vals (gl o.codes n ++ [V0]) from by unfold mb aaq;rw [if_pos (by omega)];rfl];exact ae7 a4z.symm rfl (fun _ _ _ _=>CoP.refl _) (alp (lt3 (CoP.refl _) (CoP.refl _) (CoP.refl _)))) | (rw [show (mb n o).c 1 = vals (gl o.codes n) from by unfold mb aaq;rw [if_neg (by omega)];rfl];exact CoP.sl a4z (.inl rfl) (fun h=>h) (fun _ _ _ _=>CoP.refl _)),trivial⟩,trivial⟩)
  ·
   have h2:=of_decide_eq_false r2
   try simp only [ty] at h2
   refine aa ?_;refine sx7 ?_;refine qy ?_;refine s9 ?_;refine a6 ?_
   exact hx8 rfl rfl rfl (⟨CoC.agg ⟨CoP.refl _,by first | (rw [show (mb n o).c 1 = vals (gl o.codes n ++ [V0]) from by unfold mb aaq;rw [if_pos (by omega)];rfl];exact ae7 a4z.symm rfl (fun _ _ _ _=>CoP.refl _) (alp (lt3 (CoP.refl _) (CoP.refl _) (CoP.refl _)))) | (rw [show (mb n o).c 1 = vals (gl o.codes n) from by unfold mb aaq;rw [if_neg (by omega)];rfl];exact CoP.sl a4z (.inl rfl) (fun h=>h) (fun _ _ _ _=>CoP.refl _)),trivial⟩,trivial⟩)
theorem agh:aj Tryz.prog 34:=⟨Tryz.f34,Tryz.func34,by kernel_rfl,by kernel_rfl⟩
theorem adi (n:Nat) (o:MOp) (hn:n ≤ 16):ap Tryz.prog 34 [pI n,o.pc] (b4 [.agg [.raw (.int .i64 (gw o)), .raw (.int .i64 (om n o))],(md o).pc]):=by
 refine ah (nt:=29) ae Tryz.func34 rfl rfl l9 ?_
 have hat:=o.attr.toNat_lt
 refine sx7 ?_;refine m9 0 ?_;refine m9 1 ?_;refine m9 2 ?_;refine a6 ?_;refine sx7 ?_;refine qy ?_;refine m9 3 ?_;refine s9 ?_;refine a6 ?_;refine a7 ?_;refine sx7 ?_;(iterate 4 refine qy ?_)
 refine a6 ?_;refine a8 _ rfl (fun r0=>?_) (fun r0=>?_)
 ·
  have h0:=of_decide_eq_true r0
  try simp only [ty] at h0
  refine gy ?_;(iterate 4 refine qy ?_);refine rc rfl rfl rfl rfl rfl rfl a4s (c49 _ (by omega)) (CoL.refl _) rfl rfl ?_;refine s9 ?_;refine a6 ?_;refine a7 ?_
  refine ax (E:=aq) ae ak [0,1,2,3,4,5,6,7,8,9,10,11,12,13] ?_;(iterate 12 refine qy ?_);(iterate 2 refine s9 ?_);refine a6 ?_;refine ⟨by kernel_rfl, ?_⟩
  exact hx8 rfl rfl rfl (⟨CoC.refl _,CoC.of_eq (by unfold md;first | (rw [if_pos (by omega)];rfl) | (rw [if_neg (by omega)];rfl)),trivial⟩)
 ·
  have h0:=of_decide_eq_false r0
  try simp only [ty] at h0
  refine aa ?_;refine a7 ?_;refine ax (E:=aq) ae ak [0,1,2,3,4,5,6,7,8,9,10,11,12,13] ?_;(iterate 12 refine qy ?_);(iterate 2 refine s9 ?_);refine a6 ?_
  refine ⟨by kernel_rfl, ?_⟩
  exact hx8 rfl rfl rfl (⟨CoC.refl _,CoC.of_eq (by unfold md;first | (rw [if_pos (by omega)];rfl) | (rw [if_neg (by omega)];rfl)),trivial⟩)
end Go.Hx
end

/- A part of the proof: Y10 Y5 Y11 Y12 Y13. -/
import Derived.Test.YtidophngianjiaaGreatDoorBx14
import Derived.Test.YtidophngianjiaaGreatDoorBx19
import Derived.Test.YtidophngianjiaaGreatDoorBx31
import Derived.Test.YtidophngianjiaaGreatDoorBx35
import Derived.Test.YtidophngianjiaaGreatDoorBx36
set_option linter.all false
section
namespace Go.Hx
open Go.Proofs
set_option maxRecDepth 100000
theorem aw0:goodFn Tryz.prog 189:=⟨Tryz.f189,Tryz.func189,by kernel_rfl,by kernel_rfl⟩
theorem aoi (l:List AS) (hl:l.length ≤ 8589934592):ai Tryz.prog 189 [pP (asl l)] (ao [pP (asl (a3v l))]):=by
 refine ah (nt:=49) ae Tryz.func189 rfl rfl l9 ?_;refine sx7 ?_;refine qy ?_;refine a6 ?_;refine sx7 ?_;refine qy ?_;refine a6 ?_;refine sx7 ?_;refine qy ?_
 refine rc rfl rfl rfl rfl rfl rfl aco (a7h l hl) (CoL.refl _) rfl rfl ?_;refine qy ?_;refine a6 ?_;refine a7 ?_;refine sx7 ?_;refine qy ?_;refine a6 ?_;refine ab ?_
 have hol:=ot l
 refine db 3 900 true 1 38 (lf sC []) (by decide) rfl (CoP.sl rfl (.inr rfl) (fun h=>h) (fun i j hi _=>absurd hi (Nat.not_lt_zero i))) (.inr rfl) rfl ?_
 refine aj (ι:=Nat) ⟨[(4,some _)],[]⟩ ⟨⟨c9,trivial⟩,trivial⟩ (fun i=>⟨[(3,some (.v (.one (.ref 900 (n4 l i).length)))),(5,some (vI i))],[(900,some (.arr true 1 38 (n4 l i).length (lf sC (n4 l i))))]⟩) (fun i=>i ≤ (ord l).length) (fun i=>(ord l).length - i) (0) (Nat.zero_le _) ⟨⟨zy,zy,trivial⟩,⟨u9,trivial⟩⟩ ?_
 rintro i hi
 have hlen:=akz l i
 refine a7 ?_;refine sx7 ?_;(iterate 4 refine qy ?_);refine a6 ?_;refine a8 _ rfl (fun r0=>?_) (fun r0=>?_)
 ·
  have h0:=of_decide_eq_true r0
  try simp only [ty] at h0
  refine aa ?_;refine a7 ?_;refine ab ?_;refine sx7 ?_;refine qy ?_;refine a6 ?_;refine a7 ?_;refine sx7 ?_;refine qy ?_;refine a6 ?_;refine ab ?_
  refine aj (ι:=Nat) ⟨[(3,some _),(4,some _),(5,some _)],[(900,some _)]⟩ ⟨⟨c9,c9,c9,trivial⟩,⟨u9,trivial⟩⟩ (fun k=>⟨[(6,some (vB (okM (ord l) i k))),(7,some (vI k))],[]⟩) (fun k=>k ≤ (ord l).length) (fun k=>(ord l).length - k) (0) (Nat.zero_le _) ⟨⟨⟨_,rfl,(cob rfl)⟩,zy,trivial⟩,trivial⟩ ?_
  rintro k hk
  refine a7 ?_;refine sx7 ?_;(iterate 4 refine qy ?_);refine a6 ?_;refine a8 _ rfl (fun r1=>?_) (fun r1=>?_)
  ·
   have h1:=of_decide_eq_true r1
   try simp only [ty] at h1
   refine aa ?_;refine a7 ?_;refine ab ?_;refine ax (E:=bf) ae ar [0,1,2,3,4,5,6,7,8,9,10,11,12,13,14,15,16,17,18] ?_;(iterate 2 refine qy ?_)
   refine b4 rfl rfl (fun r2=>?_) (fun r2=>?_)
   ·
    have h2:=r2
    (iterate 4 refine qy ?_ (hg:=(gtt r2)));refine b4 rfl rfl (fun r3=>?_) (fun r3=>?_)
    ·
     have h3:=of_decide_eq_true r3
     try simp only [ty] at h3
     (iterate 10 refine k9 (gtf r3) ?_);refine rq rfl rfl rfl rfl (gtt r2) ?_ (hp:=r3);(iterate 2 refine qy ?_);refine a6 ?_;refine ⟨by kernel_rfl, ?_⟩;refine gy ?_;(iterate 3 refine qy ?_);refine a6 ?_
     refine ⟨k + 1, ?_, ?_, ?_⟩
     · show k + 1 ≤ _;omega
     · first | omega | (dsimp only;omega)
     · exact ⟨⟨⟨_,rfl,(cob (by rw [okM_succ'];simp_all only [kr];simp))⟩,zy,c9,c9,c9,trivial⟩,⟨u9,trivial⟩⟩
    ·
     have h3:=of_decide_eq_false r3
     try simp only [ty] at h3
     (iterate 8 refine qy ?_ (hg:=(gff r3)));refine rc rfl rfl rfl rfl rfl rfl uf (z7 _ _) (CoL.refl _) rfl (gff r3) ?_;refine qy ?_ (hg:=(gff r3));refine qy ?_ (hg:=(gtt r2));(iterate 2 refine qy ?_)
     refine a6 ?_;refine ⟨by kernel_rfl, ?_⟩;refine gy ?_;(iterate 3 refine qy ?_);refine a6 ?_;refine ⟨k + 1, ?_, ?_, ?_⟩
     · show k + 1 ≤ _;omega
     · first | omega | (dsimp only;omega)
     · exact ⟨⟨⟨_,rfl,(cob (by rw [okM_succ'];simp_all only [kr];simp))⟩,zy,c9,c9,c9,trivial⟩,⟨u9,trivial⟩⟩
   ·
    have h2:=r2
    (iterate 4 refine k9 (gft r2) ?_);(iterate 10 refine k9 rfl ?_);refine k9 (gft r2) ?_;refine rq rfl rfl rfl rfl rfl ?_ (hp:=r2);refine qy ?_;refine a6 ?_;refine ⟨by kernel_rfl, ?_⟩;refine gy ?_
    (iterate 3 refine qy ?_);refine a6 ?_;refine ⟨k + 1, ?_, ?_, ?_⟩
    · show k + 1 ≤ _;omega
    · first | omega | (dsimp only;omega)
    · exact ⟨⟨⟨_,rfl,(cob (by rw [okM_succ'];simp_all only [kr];simp))⟩,zy,c9,c9,c9,trivial⟩,⟨u9,trivial⟩⟩
  ·
   have h1:=of_decide_eq_false r1
   try simp only [ty] at h1
   obtain rfl:k = (ord l).length:=by omega
   refine ak ?_;refine sx7 ?_;refine qy ?_;refine a6 ?_;refine a8 _ rfl (fun r4=>?_) (fun r4=>?_)
   ·
    have h4:=r4
    refine gy ?_;(iterate 5 refine qy ?_);refine m9 0 ?_;refine ra 1 true rfl rfl rfl rfl rfl rfl ?_;refine qy ?_;refine a6 ?_;refine gy ?_;(iterate 3 refine qy ?_);refine a6 ?_
    first | (refine ⟨i + 1, ?_, ?_, ?_⟩
             · show i + 1 ≤ _;omega
             · first | omega | (dsimp only;omega)
             · exact ⟨⟨⟨_,rfl,(d7 (a2s (by omega) (by assumption)))⟩,zy,c9,trivial⟩,⟨⟨_,rfl,(cw (a2s (by omega) (by assumption)) (CoP.refl _))⟩,trivial⟩⟩)
          | (refine ⟨i + 1, ?_, ?_, ?_⟩
             · show i + 1 ≤ _;omega
             · first | omega | (dsimp only;omega)
             · exact ⟨⟨⟨_,rfl,(ci (a20 (by omega) (by assumption)))⟩,zy,c9,trivial⟩,⟨⟨_,rfl,(c6 (a20 (by omega) (by assumption)))⟩,trivial⟩⟩)
   ·
    have h4:=r4
    refine aa ?_;refine gy ?_;(iterate 3 refine qy ?_);refine a6 ?_
    first | (refine ⟨i + 1, ?_, ?_, ?_⟩
             · show i + 1 ≤ _;omega
             · first | omega | (dsimp only;omega)
             · exact ⟨⟨⟨_,rfl,(d7 (a2s (by omega) (by assumption)))⟩,zy,c9,trivial⟩,⟨⟨_,rfl,(cw (a2s (by omega) (by assumption)) (CoP.refl _))⟩,trivial⟩⟩)
          | (refine ⟨i + 1, ?_, ?_, ?_⟩
             · show i + 1 ≤ _;omega
             · first | omega | (dsimp only;omega)
             · exact ⟨⟨⟨_,rfl,(ci (a20 (by omega) (by assumption)))⟩,zy,c9,trivial⟩,⟨⟨_,rfl,(c6 (a20 (by omega) (by assumption)))⟩,trivial⟩⟩)
 ·
  have h0:=of_decide_eq_false r0
  try simp only [ty] at h0
  obtain rfl:i = (ord l).length:=by omega
  refine ak ?_;refine sx7 ?_;(iterate 2 refine qy ?_);refine a6 ?_;refine bn 2 rfl rfl rfl ?_
  exact hx8 rfl rfl rfl (⟨CoC.one (CoP.of_eq (by rw [← anf];rfl)),trivial⟩)
theorem axx:goodFn Tryz.prog 157:=⟨Tryz.f157,Tryz.func157,by kernel_rfl,by kernel_rfl⟩
theorem ak0 (n:Int) (l m:List Fd) (x:AS) (hn:n ≤ 16):ai Tryz.prog 157 [pI n,pP (fdl l),pP (fdl m),pA x] (ao [pP (asl (cr n l m x))]):=by
 refine ah (nt:=48) ae Tryz.func157 rfl rfl l9 ?_
 have hsm:=ai0 (n:=n) (x:=x) hn
 refine sx7 ?_;refine qy ?_;refine a6 ?_;refine sx7 ?_;(iterate 4 refine qy ?_);refine rc rfl rfl rfl rfl rfl rfl aga (anw n l m x) (CoL.refl _) rfl rfl ?_;refine m9 0 ?_;refine s9 ?_;refine a6 ?_
 refine sx7 ?_;refine qy ?_;refine rc rfl rfl rfl rfl rfl rfl kx (l6 n) (CoL.refl _) rfl rfl ?_;(iterate 3 refine qy ?_);refine a6 ?_;refine sx7 ?_;refine qy ?_;refine a6 ?_;refine a7 ?_;refine sx7 ?_
 refine qy ?_;refine a6 ?_;refine ab ?_;refine db 11 900 true 1 38 (lf sC []) (by decide) rfl (CoP.sl rfl (.inr rfl) (fun h=>h) (fun i j hi _=>absurd hi (Nat.not_lt_zero i))) (.inr rfl) rfl ?_
 refine aj (ι:=Nat) ⟨[(3,some _),(9,some _),(10,some _)],[(0,some _)]⟩ ⟨⟨c9,c9,c9,trivial⟩,⟨u9,trivial⟩⟩ (fun k=>⟨[(11,some (.v (.one (.ref 900 (yL (af n &&& ~~~x) (orL (chT l m (af n &&& ~~~x))) x (chT l m (af n &&& ~~~x)) k).length)))),(12,some (vA (BitVec.ofNat 32 k)))],[(900,some (.arr true 1 38 (yL (af n &&& ~~~x) (orL (chT l m (af n &&& ~~~x))) x (chT l m (af n &&& ~~~x)) k).length (lf sC (yL (af n &&& ~~~x) (orL (chT l m (af n &&& ~~~x))) x (chT l m (af n &&& ~~~x)) k))))]⟩) (fun k=>1 ≤ k ∧ k ≤ (af n &&& ~~~x).toNat + 1) (fun k=>(af n &&& ~~~x).toNat + 1 - k) (1) (⟨Nat.le_refl _,by omega⟩) ⟨⟨⟨_,rfl,(ci akx)⟩,⟨_,rfl,(CoR.refl _)⟩,trivial⟩,⟨⟨_,rfl,(c6 akx)⟩,trivial⟩⟩ ?_
 rintro k ⟨hk1,hk2⟩
 have hyl:(yL (af n &&& ~~~x) (orL (chT l m (af n &&& ~~~x))) x (chT l m (af n &&& ~~~x)) k).length ≤ k:=als
 refine a7 ?_;refine sx7 ?_;(iterate 3 refine qy ?_);refine a6 ?_;refine a8 _ rfl (fun r0=>?_) (fun r0=>?_)
 ·
  have h0:=of_decide_eq_true r0
  try simp only [ty] at h0
  have hkr:k ≤ (af n &&& ~~~x).toNat:=by
   have q:asI (BitVec.ofNat 32 k) ≤ asI (af n &&& ~~~x):=by rw [← i7];exact h0
   rw [gk (by omega)] at q
   exact Int.ofNat_le.1 q
  have hnz:¬ (BitVec.ofNat 32 k) = 0:=b2h hk1 (by omega)
  refine aa ?_;refine a7 ?_;refine ab ?_;refine a7 ?_;refine ax (E:=bf) ae ar [0,1,2,3,4,5,6,7,8,9,10,11,12,13,14] ?_;(iterate 5 refine qy ?_)
  refine b4 rfl rfl (fun r1=>?_) (fun r1=>?_)
  ·
   have h1:=of_decide_eq_true r1
   try simp only [ty] at h1
   have g1:(BitVec.ofNat 32 k) &&& ~~~(af n &&& ~~~x) = 0:=aiy (by rw [← i7 (af n) x];exact h1)
   (iterate 3 refine qy ?_ (hg:=(gtt r1)));refine rc rfl rfl rfl rfl rfl rfl agm (atc (chT l m (af n &&& ~~~x))) (CoL.refl _) rfl (gtt r1) ?_;(iterate 4 refine qy ?_ (hg:=(gtt r1)))
   refine rc rfl rfl rfl rfl rfl rfl a7y (cIn (chT l m (af n &&& ~~~x)) ((orL (chT l m (af n &&& ~~~x))) &&& ~~~(x ||| (BitVec.ofNat 32 k)))) (⟨CoC.refl _,cci (by rw [bOr,i7]),trivial⟩) rfl (gtt r1) ?_
   refine qy ?_;refine a6 ?_;refine ⟨by kernel_rfl, ?_⟩;refine a8 _ rfl (fun r2=>?_) (fun r2=>?_)
   ·
    have h2:=r2
    have h2:=df r1 h2
    have hin:(orL (chT l m (af n &&& ~~~x))) &&& ~~~(x ||| (BitVec.ofNat 32 k)) ∈ (chT l m (af n &&& ~~~x)):=of_decide_eq_true h2
    have hy:yq (af n &&& ~~~x) (orL (chT l m (af n &&& ~~~x))) x (chT l m (af n &&& ~~~x)) (BitVec.ofNat 32 k) = true:=b2x hnz g1 hin
    refine gy ?_;(iterate 2 refine qy ?_);refine m9 1 ?_;refine ra 2 true rfl rfl rfl rfl rfl rfl ?_;refine qy ?_;refine a6 ?_;refine gy ?_;refine qy ?_
    refine rq rfl rfl rfl rfl rfl ?_ (hp:=by have q:=gk (k:=k) (by omega);rw [q];simp only [inR,kf,lj];omega);refine qy ?_;refine a6 ?_
    first | (refine ⟨k + 1, ?_, ?_, ?_⟩
             · exact ⟨by omega,by omega⟩
             · first | omega | (dsimp only;omega)
             · exact ⟨⟨⟨_,rfl,(d7 (a8w hy))⟩,⟨_,rfl,(fg (by rw [gk (by omega),gk (by omega)];rfl))⟩,c9,c9,c9,trivial⟩,⟨⟨_,rfl,(cw (a8w hy) (CoP.refl _))⟩,u9,trivial⟩⟩)
          | (refine ⟨k + 1, ?_, ?_, ?_⟩
             · exact ⟨by omega,by omega⟩
             · first | omega | (dsimp only;omega)
             · exact ⟨⟨⟨_,rfl,(ci (a82 hy))⟩,⟨_,rfl,(fg (by rw [gk (by omega),gk (by omega)];rfl))⟩,c9,c9,c9,trivial⟩,⟨⟨_,rfl,(c6 (a82 hy))⟩,u9,trivial⟩⟩)
   ·
    have h2:=r2
    have h2:=df r1 h2
    have hy:yq (af n &&& ~~~x) (orL (chT l m (af n &&& ~~~x))) x (chT l m (af n &&& ~~~x)) (BitVec.ofNat 32 k) = false:=by first | exact ayt g1 | exact b3s (of_decide_eq_false h2)
    refine aa ?_;refine gy ?_;refine qy ?_;refine rq rfl rfl rfl rfl rfl ?_ (hp:=by have q:=gk (k:=k) (by omega);rw [q];simp only [inR,kf,lj];omega);refine qy ?_;refine a6 ?_
    first | (refine ⟨k + 1, ?_, ?_, ?_⟩
             · exact ⟨by omega,by omega⟩
             · first | omega | (dsimp only;omega)
             · exact ⟨⟨⟨_,rfl,(d7 (a8w hy))⟩,⟨_,rfl,(fg (by rw [gk (by omega),gk (by omega)];rfl))⟩,c9,c9,c9,trivial⟩,⟨⟨_,rfl,(cw (a8w hy) (CoP.refl _))⟩,u9,trivial⟩⟩)
          | (refine ⟨k + 1, ?_, ?_, ?_⟩
             · exact ⟨by omega,by omega⟩
             · first | omega | (dsimp only;omega)
             · exact ⟨⟨⟨_,rfl,(ci (a82 hy))⟩,⟨_,rfl,(fg (by rw [gk (by omega),gk (by omega)];rfl))⟩,c9,c9,c9,trivial⟩,⟨⟨_,rfl,(c6 (a82 hy))⟩,u9,trivial⟩⟩)
  ·
   have h1:=of_decide_eq_false r1
   try simp only [ty] at h1
   have g1:¬ (BitVec.ofNat 32 k) &&& ~~~(af n &&& ~~~x) = 0:=acx (by rw [← i7 (af n) x];exact h1)
   have hy:yq (af n &&& ~~~x) (orL (chT l m (af n &&& ~~~x))) x (chT l m (af n &&& ~~~x)) (BitVec.ofNat 32 k) = false:=ayt g1
   (iterate 9 refine k9 (gft r1) ?_);refine rq rfl rfl rfl rfl rfl ?_ (hp:=r1);refine a6 ?_;refine ⟨by kernel_rfl, ?_⟩;refine a8 _ rfl (fun e=>by cases e) (fun _=>?_);refine aa ?_;refine gy ?_
   refine qy ?_;refine rq rfl rfl rfl rfl rfl ?_ (hp:=by have q:=gk (k:=k) (by omega);rw [q];simp only [inR,kf,lj];omega);refine qy ?_;refine a6 ?_
   first | (refine ⟨k + 1, ?_, ?_, ?_⟩
            · exact ⟨by omega,by omega⟩
            · first | omega | (dsimp only;omega)
            · exact ⟨⟨⟨_,rfl,(d7 (a8w hy))⟩,⟨_,rfl,(fg (by rw [gk (by omega),gk (by omega)];rfl))⟩,c9,c9,c9,trivial⟩,⟨⟨_,rfl,(cw (a8w hy) (CoP.refl _))⟩,u9,trivial⟩⟩)
         | (refine ⟨k + 1, ?_, ?_, ?_⟩
            · exact ⟨by omega,by omega⟩
            · first | omega | (dsimp only;omega)
            · exact ⟨⟨⟨_,rfl,(ci (a82 hy))⟩,⟨_,rfl,(fg (by rw [gk (by omega),gk (by omega)];rfl))⟩,c9,c9,c9,trivial⟩,⟨⟨_,rfl,(c6 (a82 hy))⟩,u9,trivial⟩⟩)
 ·
  have h0:=of_decide_eq_false r0
  try simp only [ty] at h0
  obtain rfl:k = (af n &&& ~~~x).toNat + 1:=by
   have q:¬ asI (BitVec.ofNat 32 k) ≤ asI (af n &&& ~~~x):=by rw [← i7];exact h0
   rw [gk (by omega)] at q
   have q2:¬ k ≤ (af n &&& ~~~x).toNat:=fun e=>q (Int.ofNat_le.2 e)
   omega
  refine ak ?_;refine a7 ?_;refine bn 11 rfl rfl rfl ?_;refine gy ?_;refine qy ?_
  refine rc rfl rfl rfl rfl rfl rfl aw0 (aoi (yL (af n &&& ~~~x) (orL (chT l m (af n &&& ~~~x))) x (chT l m (af n &&& ~~~x)) ((af n &&& ~~~x).toNat + 1)) (Nat.le_trans als (by omega))) (CoL.refl _) rfl rfl ?_
  refine qy ?_;refine a6 ?_
  exact hx8 rfl rfl rfl (⟨CoC.one (CoP.of_eq (by rw [ai6])),trivial⟩)
end Go.Hx
end
section
namespace Go.Hx
open Go.Proofs
set_option maxRecDepth 100000
set_option maxHeartbeats 1000000
theorem b3m (a:AS):a ||| 0 = a:=by simp
theorem awt (n:Int) (l m:List Fd):ai Tryz.prog 24 [pI n,pP (fdl l),pP (fdl m),pA 0,pA 0] (ao [pI (ck4 n l m 0)]):=by
 have h:=b16 n l m 0 0
 rw [b3m] at h
 exact h
end Go.Hx
end
section
namespace Go.Hx
open Go.Proofs
set_option maxRecDepth 100000
set_option maxHeartbeats 1000000
theorem an6 {a b:Bool} (h:(a && b) = true):a = true ∧ b = true:=by rwa [Bool.and_eq_true] at h
theorem ai3 {n:Int} {l m:List Fd} {x:AS} (hx:sub x (af n)):ai Tryz.prog 102 [pI n,pP (fdl l),pP (fdl m),pA x] (ao [pA (mc n l m x)]):=by
 have h:=alb n l m x
 rw [ase hx] at h
 exact h
theorem ave:goodFn Tryz.prog 103:=⟨Tryz.f103,Tryz.func103,by kernel_rfl,by kernel_rfl⟩
theorem avk (n:Int) (l m:List Fd) (x p:AS) (hn:n ≤ 16):ai Tryz.prog 103 [pI n,pP (fdl l),pP (fdl m),pA x,pA p] (ao [pP (asl (ge n l m x p))]):=by
 refine ah (nt:=43) ae Tryz.func103 rfl rfl l9 ?_;refine sx7 ?_;refine qy ?_;refine a6 ?_;refine sx7 ?_;(iterate 4 refine qy ?_)
 refine rc rfl rfl rfl rfl rfl rfl axx (ak0 n l m x hn) (CoL.refl _) rfl rfl ?_;refine qy ?_;refine a6 ?_;refine sx7 ?_;refine qy ?_;refine a6 ?_;refine a7 ?_;refine sx7 ?_;refine qy ?_
 refine a6 ?_;refine ab ?_;refine db 12 900 true 1 38 (lf sC []) (by decide) rfl (CoP.sl rfl (.inr rfl) (fun h=>h) (fun i j hi _=>absurd hi (Nat.not_lt_zero i))) (.inr rfl) rfl ?_
 have hbl:=yh n l m x
 refine aj (ι:=Nat) ⟨[(4,some _),(11,some _)],[]⟩ ⟨⟨c9,c9,trivial⟩,trivial⟩ (fun i=>⟨[(12,some (.v (.one (.ref 900 (jb p ((cr n l m x).take i)).length)))),(13,some (vI i))],[(900,some (.arr true 1 38 (jb p ((cr n l m x).take i)).length (lf sC (jb p ((cr n l m x).take i)))))]⟩) (fun i=>i ≤ (cr n l m x).length) (fun i=>(cr n l m x).length - i) (0) (Nat.zero_le _) ⟨⟨⟨_,rfl,(CoR.refl _)⟩,⟨_,rfl,(CoR.refl _)⟩,trivial⟩,⟨u9,trivial⟩⟩ ?_
 rintro i hi
 have hcl:(jb p ((cr n l m x).take i)).length ≤ i:=Nat.le_trans (a47 _ _) (by rw [List.length_take];omega)
 refine a7 ?_;refine sx7 ?_;(iterate 4 refine qy ?_);refine a6 ?_;refine a8 _ rfl (fun r0=>?_) (fun r0=>?_)
 ·
  have h0:=of_decide_eq_true r0
  try simp only [ty] at h0
  refine aa ?_;refine a7 ?_;refine ab ?_;refine sx7 ?_;(iterate 7 refine qy ?_);refine a6 ?_;refine a8 _ rfl (fun r1=>?_) (fun r1=>?_)
  ·
   have h1:=r1
   have h1:=of_decide_eq_false (av h1)
   try simp only [ty] at h1
   have hq:¬ (cr n l m x).getD i default &&& p = 0:=md h1
   refine gy ?_;(iterate 7 refine qy ?_);refine m9 0 ?_;refine ra 1 true rfl rfl rfl rfl rfl rfl ?_;refine qy ?_;refine a6 ?_;refine gy ?_;(iterate 3 refine qy ?_);refine a6 ?_
   first | (refine ⟨i + 1, ?_, ?_, ?_⟩
            · show i + 1 ≤ _;omega
            · first | omega | (dsimp only;omega)
            · exact ⟨⟨⟨_,rfl,(d7 (sa (by omega) hq))⟩,⟨_,rfl,(CoR.refl _)⟩,c9,c9,trivial⟩,⟨⟨_,rfl,(cw (sa (by omega) hq) (CoP.of_eq (congrArg (fun z=>PV.raw (.int .u32 z)) (i6 _ _))))⟩,trivial⟩⟩)
         | (refine ⟨i + 1, ?_, ?_, ?_⟩
            · show i + 1 ≤ _;omega
            · first | omega | (dsimp only;omega)
            · exact ⟨⟨⟨_,rfl,(ci (s6 (by omega) hq))⟩,⟨_,rfl,(CoR.refl _)⟩,c9,c9,trivial⟩,⟨⟨_,rfl,(c6 (s6 (by omega) hq))⟩,trivial⟩⟩)
  ·
   have h1:=r1
   have h1:=of_decide_eq_true (aw h1)
   try simp only [ty] at h1
   have hq:(cr n l m x).getD i default &&& p = 0:=p7 h1
   refine aa ?_;refine gy ?_;(iterate 3 refine qy ?_);refine a6 ?_
   first | (refine ⟨i + 1, ?_, ?_, ?_⟩
            · show i + 1 ≤ _;omega
            · first | omega | (dsimp only;omega)
            · exact ⟨⟨⟨_,rfl,(d7 (sa (by omega) hq))⟩,⟨_,rfl,(CoR.refl _)⟩,c9,c9,trivial⟩,⟨⟨_,rfl,(cw (sa (by omega) hq) (CoP.of_eq (congrArg (fun z=>PV.raw (.int .u32 z)) (i6 _ _))))⟩,trivial⟩⟩)
         | (refine ⟨i + 1, ?_, ?_, ?_⟩
            · show i + 1 ≤ _;omega
            · first | omega | (dsimp only;omega)
            · exact ⟨⟨⟨_,rfl,(ci (s6 (by omega) hq))⟩,⟨_,rfl,(CoR.refl _)⟩,c9,c9,trivial⟩,⟨⟨_,rfl,(c6 (s6 (by omega) hq))⟩,trivial⟩⟩)
 ·
  have h0:=of_decide_eq_false r0
  try simp only [ty] at h0
  obtain rfl:i = (cr n l m x).length:=by omega
  rw [show (cr n l m x).take (cr n l m x).length = (cr n l m x) from List.take_length]
  refine ak ?_;refine a7 ?_;refine bn 12 rfl rfl rfl ?_;refine gy ?_;refine qy ?_;refine rc rfl rfl rfl rfl rfl rfl aco (a7h (jb p (cr n l m x)) (a2d n l m x p)) (CoL.refl _) rfl rfl ?_
  refine qy ?_;refine a6 ?_
  exact hx8 rfl rfl rfl (⟨CoC.refl _,trivial⟩)
theorem adx:goodFn Tryz.prog 51:=⟨Tryz.f51,Tryz.func51,by kernel_rfl,by kernel_rfl⟩
theorem a8f (n:Int) (l m:List Fd) (p:AS) (hn:n ≤ 16) (hp:sub p (af n)):ai Tryz.prog 51 [pI n,pP (fdl l),pP (fdl m),pA p] (ao [(vF (bc n l m) p).pc,pB (vBo (bc n l m) p)]):=by
 refine ah (nt:=52) ae Tryz.func51 rfl rfl l9 ?_
 have hsl:=a9h p
 refine sx7 ?_;refine m9 0 ?_;refine qy ?_;refine a6 ?_;refine sx7 ?_;refine qy ?_;refine rc rfl rfl rfl rfl rfl rfl atu (ay8 p) (CoL.refl _) rfl rfl ?_;refine qy ?_;refine a6 ?_;refine a7 ?_
 refine sx7 ?_;refine qy ?_;refine a6 ?_;refine ab ?_
 refine aj (ι:=Nat) ⟨[(0,some _),(1,some _),(2,some _),(3,some _),(8,some _),(10,some _)],[(0,some _)]⟩ ⟨⟨c9,c9,c9,c9,c9,c9,trivial⟩,⟨u9,trivial⟩⟩ (fun i=>⟨[(11,some (vI i))],[]⟩) (fun i=>i ≤ (cb p).length ∧ ((cb p).take i).findSome? (wo n l m p) = none) (fun i=>(cb p).length - i) (0) (⟨Nat.zero_le _,rfl⟩) ⟨⟨⟨_,rfl,(CoR.refl _)⟩,trivial⟩,trivial⟩ ?_
 rintro i ⟨hi,hI⟩
 refine a7 ?_;refine sx7 ?_;(iterate 4 refine qy ?_);refine a6 ?_;refine a8 _ rfl (fun r0=>?_) (fun r0=>?_)
 ·
  have h0:=of_decide_eq_true r0
  try simp only [ty] at h0
  have hil:i < (cb p).length:=by omega
  have hxs:sub ((cb p).getD i default) p:=vf (gv hil)
  refine aa ?_;refine a7 ?_;refine ab ?_;refine a7 ?_;refine sx7 ?_;(iterate 8 refine qy ?_);refine rc rfl rfl rfl rfl rfl rfl axp (ai3 (fm hxs hp)) (CoL.refl _) rfl rfl ?_
  refine rc rfl rfl rfl rfl rfl rfl uf (z7 p (mc n l m ((cb p).getD i default))) (CoL.refl _) rfl rfl ?_;refine a6 ?_;refine a8 _ rfl (fun r1=>?_) (fun r1=>?_)
  ·
   have h1:=r1
   have hq:p &&& ~~~(mc n l m ((cb p).getD i default)) = 0:=of_decide_eq_true r1
   refine ak ?_;refine gy ?_;(iterate 3 refine qy ?_);refine a6 ?_;refine ⟨i + 1, ?_, ?_, ?_⟩
   · exact ⟨by omega,(gz hil hI).trans (by first | exact a6h hq | exact a5i hq hc)⟩
   · first | omega | (dsimp only;omega)
   · exact ⟨⟨⟨_,rfl,(CoR.refl _)⟩,c9,c9,c9,c9,c9,c9,trivial⟩,⟨u9,trivial⟩⟩
  ·
   have h1:=r1
   have hq:¬ p &&& ~~~(mc n l m ((cb p).getD i default)) = 0:=of_decide_eq_false r1
   refine aa ?_;refine sx7 ?_;(iterate 8 refine qy ?_);refine rc rfl rfl rfl rfl rfl rfl ave (avk n l m ((cb p).getD i default) p hn) (CoL.refl _) rfl rfl ?_;refine qy ?_;refine a6 ?_;refine sx7 ?_
   (iterate 3 refine qy ?_);refine a6 ?_;refine a8 _ rfl (fun r2=>?_) (fun r2=>?_)
   ·
    have h2:=of_decide_eq_true r2
    try simp only [ty] at h2
    have hc:1 < (ge n l m ((cb p).getD i default) p).length:=by omega
    have hcl:(ge n l m ((cb p).getD i default) p).length ≤ 8589934592:=Nat.le_trans (ot _) (a2d n l m ((cb p).getD i default) p)
    refine a7 ?_;refine ax (E:=bf) ae ar [0,1,2,3,4,5,6,7,8,9] ?_;(iterate 8 refine qy ?_);refine s9 ?_;refine qy ?_;refine a6 ?_;refine ⟨by kernel_rfl, ?_⟩;refine ap ?_
    refine ⟨.inr rfl, ?_⟩
    have he:a7b (bc n l m p) = (⟨((cb p).getD i default),(ge n l m ((cb p).getD i default) p).getD 0 default⟩,true):=by
     rw [show bc n l m p = some _ from oo hil hI (amz hq hc)]
     rfl
    unfold vF vBo
    exact f9 rfl rfl (by rw [he];exact ⟨CoC.agg ⟨CoP.refl _,CoP.refl _,trivial⟩,CoC.refl _,trivial⟩)
   ·
    have h2:=of_decide_eq_false r2
    try simp only [ty] at h2
    have hc:¬ 1 < (ge n l m ((cb p).getD i default) p).length:=by omega
    refine aa ?_;refine gy ?_;(iterate 3 refine qy ?_);refine a6 ?_;refine ⟨i + 1, ?_, ?_, ?_⟩
    · exact ⟨by omega,(gz hil hI).trans (by first | exact a6h hq | exact a5i hq hc)⟩
    · first | omega | (dsimp only;omega)
    · exact ⟨⟨⟨_,rfl,(CoR.refl _)⟩,c9,c9,c9,c9,c9,c9,trivial⟩,⟨u9,trivial⟩⟩
 ·
  have h0:=of_decide_eq_false r0
  try simp only [ty] at h0
  obtain rfl:i = (cb p).length:=by omega
  rw [show (cb p).take (cb p).length = (cb p) from List.take_length] at hI
  refine ak ?_;refine sx7 ?_;refine qy ?_;refine s9 ?_;refine qy ?_;refine a6 ?_;refine ap ?_;refine ⟨.inr rfl, ?_⟩
  have he:a7b (bc n l m p) = (⟨0,0⟩,false):=by
   rw [show bc n l m p = none from hI]
   rfl
  unfold vF vBo
  exact f9 rfl rfl (by rw [he];exact ⟨CoC.agg ⟨CoP.of_eq rfl,CoP.of_eq rfl,trivial⟩,CoC.refl _,trivial⟩)
theorem ae4:goodFn Tryz.prog 48:=⟨Tryz.f48,Tryz.func48,by kernel_rfl,by kernel_rfl⟩
theorem am4 (n:Int) (l m:List Fd) (hn:n ≤ 16) (k:Nat) (s:AS) (hsu:sub s (af n)) (hv:vBo (bc n l m) s = false):dg Tryz.prog 48 [.one (.p (.raw (.int .i64 n))), .one (.p (fdl l)), .one (.p (fdl m)), .one (.p (asC s))] [] (.v (.one (.ref 909 (lvG (bc n l m) k s).length))) [(909, .arr true 1 38 (lvG (bc n l m) k s).length (lf sC (lvG (bc n l m) k s)))] []:=by
 refine eq (nt:=41) ae Tryz.func48 rfl rfl l9 rfl ?_;refine sx7 ?_;refine qy ?_;refine a6 ?_;refine sx7 ?_;(iterate 4 refine qy ?_)
 refine rc rfl rfl rfl rfl rfl rfl adx (a8f n l m s hn hsu) (CoL.refl _) rfl rfl ?_;(iterate 3 refine qy ?_);refine m9 0 ?_;refine s9 ?_;refine qy ?_;refine a6 ?_;refine a7 ?_;refine sx7 ?_
 (iterate 2 refine qy ?_);refine a6 ?_;refine a8 _ rfl (fun r0=>?_) (fun r0=>?_)
 ·
  have h0:=r0
  have h0:=av h0
  refine sx7 ?_;refine qy ?_;refine m9 1 ?_;refine qy ?_;refine a6 ?_;refine rr 8 909 rfl rfl rfl rfl ?_;refine ap ?_;refine ⟨.inr rfl, ?_⟩
  have he:=a57 (k:=k) hv
  exact ⟨_,_,rfl,(by (repeat' apply And.intro) <;> first | trivial | exact Nat.le_of_ble_eq_true rfl),(by rw [he];exact CoR.refl _),⟨⟨_,rfl,(by rw [he];exact zz (CoP.refl _))⟩,trivial⟩⟩
 ·
  have h0:=r0
  have h0:=aw h0
  exfalso
  rw [hv] at r0
  exact absurd r0 (by decide)
theorem azf (n:Int) (l m:List Fd) (hn:n ≤ 16) (k:Nat) (hk:k ≤ 8) (IH:∀ s,bsz s ≤ k → sub s (af n) → dg Tryz.prog 48 [.one (.p (.raw (.int .i64 n))), .one (.p (fdl l)), .one (.p (fdl m)), .one (.p (asC s))] [] (.v (.one (.ref 900 (lvG (bc n l m) k s).length))) [(900, .arr true 1 38 (lvG (bc n l m) k s).length (lf sC (lvG (bc n l m) k s)))] []) (s:AS) (hs:bsz s ≤ k + 1) (hsu:sub s (af n)) (hv:vBo (bc n l m) s = true):dg Tryz.prog 48 [.one (.p (.raw (.int .i64 n))), .one (.p (fdl l)), .one (.p (fdl m)), .one (.p (asC s))] [] (.v (.one (.ref 909 (lvG (bc n l m) (k + 1) s).length))) [(909, .arr true 1 38 (lvG (bc n l m) (k + 1) s).length (lf sC (lvG (bc n l m) (k + 1) s)))] []:=by
 refine eq (nt:=41) ae Tryz.func48 rfl rfl l9 rfl ?_
 obtain ⟨b1,b2⟩:=mh (gm n l m) hv
 obtain ⟨s1,_,_⟩:=gm n l m s _ (um hv)
 have u1:sub (i9 (bc n l m) s) (af n):=fm s1 hsu
 have u2:sub (gl (bc n l m) s) (af n):=fm o8 hsu
 have hla:=aee (gm n l m) (k:=k) (by omega) (i9 (bc n l m) s)
 have hlb:=aee (gm n l m) (k:=k) (by omega) (gl (bc n l m) s)
 refine sx7 ?_;refine qy ?_;refine a6 ?_;refine sx7 ?_;(iterate 4 refine qy ?_);refine rc rfl rfl rfl rfl rfl rfl adx (a8f n l m s hn hsu) (CoL.refl _) rfl rfl ?_;(iterate 3 refine qy ?_);refine m9 0 ?_
 refine s9 ?_;refine qy ?_;refine a6 ?_;refine a7 ?_;refine sx7 ?_;(iterate 2 refine qy ?_);refine a6 ?_;refine a8 _ rfl (fun r0=>?_) (fun r0=>?_)
 ·
  have h0:=r0
  have h0:=av h0
  exfalso
  rw [hv] at r0
  exact absurd r0 (by decide)
 ·
  have h0:=r0
  have h0:=aw h0
  refine aa ?_;refine a7 ?_;refine ax (E:=bf) ae ar [0,1,2,3,4,5,6,7,8,9,10,11,12,13,14,15,16,17,18] ?_;(iterate 8 refine qy ?_)
  refine cn rfl rfl rfl rfl rfl rfl ae4 ((IH (i9 (bc n l m) s) (by omega) u1)) (⟨CoP.refl _,CoP.refl _,CoP.refl _,CoP.of_eq (congrArg (fun z=>PV.raw (.int .u32 z)) (by rw [bOr];rfl)),trivial⟩) trivial rfl rfl ?_
  (iterate 7 refine qy ?_)
  refine rc rfl rfl rfl rfl rfl rfl ae4 (dg.pure (args:=[pI n,pP (fdl l),pP (fdl m),pA (gl (bc n l m) s)]) (l:=[.one (.ref 900 (lvG (bc n l m) k (gl (bc n l m) s)).length)]) (IH (gl (bc n l m) s) (by omega) u2) rfl ⟨rfl,trivial⟩) (⟨CoC.refl _,CoC.refl _,CoC.refl _,cci (by rw [i7];rfl),trivial⟩) rfl rfl ?_
  refine ra 1 true rfl rfl rfl rfl rfl rfl ?_;refine qy ?_;refine a6 ?_;refine ⟨by kernel_rfl, ?_⟩;refine rr 8 909 rfl rfl rfl rfl ?_;refine ap ?_;refine ⟨.inr rfl, ?_⟩
  have he:=a61 (k:=k) hv
  exact ⟨_,_,rfl,(by (repeat' apply And.intro) <;> first | trivial | exact Nat.le_of_ble_eq_true rfl),(by rw [he,List.length_append];exact CoR.refl _),⟨⟨_,rfl,(by rw [he];exact akh _ (fun h=>h) rfl (fun i j hi hj=>CoP.refl _))⟩,trivial⟩⟩
theorem ak2 (n:Int) (l m:List Fd) (hn:n ≤ 16):∀ (k:Nat),k ≤ 9 → ∀ s,bsz s ≤ k → sub s (af n) → dg Tryz.prog 48 [.one (.p (.raw (.int .i64 n))), .one (.p (fdl l)), .one (.p (fdl m)), .one (.p (asC s))] [] (.v (.one (.ref 900 (lvG (bc n l m) k s).length))) [(900, .arr true 1 38 (lvG (bc n l m) k s).length (lf sC (lvG (bc n l m) k s)))] []
 | 0,_,s,hs,hsu=>by
  have hv:vBo (bc n l m) s = false:=by
   rw [Bool.eq_false_iff]
   intro e
   have:=(mh (gm n l m) e).1
   omega
  exact (am4 n l m hn 0 s hsu hv).swap 909 900
 | k + 1,hk,s,hs,hsu=>by
  cases hv:vBo (bc n l m) s with
  | false=>exact (am4 n l m hn (k + 1) s hsu hv).swap 909 900
  | true=>exact (azf n l m hn k (by omega) (ak2 n l m hn k (by omega)) s hs hsu hv).swap 909 900
theorem b17 (n:Int) (l m:List Fd) (hn:n ≤ 16) (s:AS) (hs:bsz s ≤ 9) (hsu:sub s (af n)):ai Tryz.prog 48 [pI n,pP (fdl l),pP (fdl m),pA s] (ao [pP (asl (lvG (bc n l m) 9 s))]) :=
 dg.pure (args:=[pI n,pP (fdl l),pP (fdl m),pA s]) (l:=[.one (.ref 900 (lvG (bc n l m) 9 s).length)]) (ak2 n l m hn 9 (Nat.le_refl _) s hs hsu) rfl ⟨rfl,trivial⟩
theorem aya:goodFn Tryz.prog 17:=⟨Tryz.f17,Tryz.func17,by kernel_rfl,by kernel_rfl⟩
theorem avs (n:Int) (l m:List Fd) (h8:n ≤ 8):ai Tryz.prog 17 [pI n,pP (fdl l),pP (fdl m)] (ao [pP (asl (ip (a4t n l m)))]):=by
 refine ah (nt:=14) ae Tryz.func17 rfl rfl l9 ?_;refine sx7 ?_;refine qy ?_;refine a6 ?_;refine sx7 ?_;(iterate 4 refine qy ?_);refine rc rfl rfl rfl rfl rfl rfl kx (l6 n) (CoL.refl _) rfl rfl ?_
 refine rc rfl rfl rfl rfl rfl rfl ae4 (b17 n l m (by omega) (af n) (Nat.le_trans (yi (m:=8) h8 (by omega)) (by decide)) (gn _)) (CoL.refl _) rfl rfl ?_
 refine rc rfl rfl rfl rfl rfl rfl az9 (aoh (lvG (bc n l m) 9 (af n)) (Nat.le_trans (aee (gm n l m) (Nat.le_refl _) _) (by decide))) (CoL.refl _) rfl rfl ?_;refine qy ?_;refine a6 ?_
 exact hx8 rfl rfl rfl (⟨CoC.one (CoP.of_eq (congrArg asl (alw h8))),trivial⟩)
theorem ayh:goodFn Tryz.prog 23:=⟨Tryz.f23,Tryz.func23,by kernel_rfl,by kernel_rfl⟩
theorem an9 (n:Int) (l m:List Fd) (ps:List AS):ai Tryz.prog 23 [pI n,pP (fdl l),pP (fdl m),pP (asl ps)] (ao [pB (pz n l m ps),pI (wg n l m ps)]):=by
 refine ah (nt:=54) ae Tryz.func23 rfl rfl l9 ?_;refine sx7 ?_;(iterate 2 refine qy ?_);refine a6 ?_;refine a7 ?_;refine sx7 ?_;(iterate 3 refine qy ?_)
 refine rc rfl rfl rfl rfl rfl rfl ayl (awt n l m) (CoL.refl _) rfl rfl ?_;refine qy ?_;refine a6 ?_;refine sx7 ?_;(iterate 2 refine qy ?_);refine a6 ?_;refine a8 _ rfl (fun r0=>?_) (fun r0=>?_)
 ·
  have h0:=r0
  have h0:=of_decide_eq_false (av h0)
  try simp only [ty] at h0
  refine sx7 ?_;(iterate 3 refine qy ?_);refine a6 ?_;refine ap ?_;refine ⟨.inr rfl, ?_⟩
  obtain ⟨e1,e2⟩:=ati (ps:=ps) (by assumption:¬ ck4 n l m 0 = 0)
  exact f9 rfl rfl (⟨ccb e2.symm,cci e1.symm,trivial⟩)
 ·
  have h0:=r0
  have h0:=of_decide_eq_true (aw h0)
  try simp only [ty] at h0
  have hz:ck4 n l m 0 = 0:=h0
  obtain ⟨hn0,hn8,hb⟩:=kz hz
  have hn16:n ≤ 16:=by omega
  refine aa ?_;refine sx7 ?_;(iterate 4 refine qy ?_);refine rc rfl rfl rfl rfl rfl rfl ady (aps n ps l m) (CoL.refl _) rfl rfl ?_;(iterate 5 refine qy ?_);refine a6 ?_;(iterate 2 refine a7 ?_)
  refine d9 3 rfl fun hps=>?_
  refine gy ?_;refine qy ?_;refine a6 ?_;refine ab ?_
  refine aj (ι:=Nat) ⟨[(0,some _),(1,some _),(2,some _),(3,some _),(12,some _)],[]⟩ ⟨⟨c9,c9,c9,c9,c9,trivial⟩,trivial⟩ (fun i=>⟨[(11,some (vB (lsB n ps l m && (ps.take i).all (fun p=>!vBo (bc n l m) p)))),(13,some (vI i))],[]⟩) (fun i=>i ≤ ps.length) (fun i=>ps.length - i) (0) (Nat.zero_le _) ⟨⟨⟨_,rfl,(cob (by simp))⟩,⟨_,rfl,(CoR.refl _)⟩,trivial⟩,trivial⟩ ?_
  rintro i hi
  refine a7 ?_;refine sx7 ?_;(iterate 5 refine qy ?_);refine b4 rfl rfl (fun r1=>?_) (fun r1=>?_)
  ·
   have h1:=of_decide_eq_true r1
   try simp only [ty] at h1
   have hil:i < ps.length:=by omega
   refine qy ?_ (hg:=(gtt r1));refine qy ?_;refine a6 ?_;refine a8 _ rfl (fun r2=>?_) (fun r2=>?_)
   ·
    have h2:=r2
    have h2:=df r1 h2
    have hlB:lsB n ps l m = true ∧ (ps.take i).all (fun p=>!vBo (bc n l m) p) = true:=by first | exact an6 h2 | exact an6 (by assumption)
    have hp:sub (ps.getD i default) (af n):=aoq hlB.1 (gv hil)
    refine aa ?_;refine a7 ?_;refine ab ?_;refine sx7 ?_;(iterate 7 refine qy ?_);refine rc rfl rfl rfl rfl rfl rfl adx (a8f n l m (ps.getD i default) hn16 hp) (CoL.refl _) rfl rfl ?_
    (iterate 3 refine qy ?_);refine m9 0 ?_;refine s9 ?_;refine qy ?_;refine a6 ?_;refine sx7 ?_;refine qy ?_;refine a6 ?_;refine a8 _ rfl (fun r3=>?_) (fun r3=>?_)
    ·
     have h3:=r3
     have hv:vBo (bc n l m) (ps.getD i default) = true:=r3
     refine gy ?_;refine qy ?_;refine a6 ?_;refine gy ?_;(iterate 3 refine qy ?_);refine a6 ?_;refine ⟨i + 1, ?_, ?_, ?_⟩
     · show i + 1 ≤ _;omega
     · first | omega | (dsimp only;omega)
     · exact ⟨⟨⟨_,rfl,(cob (by rw [yr hil,hlB.1,hlB.2,hv];rfl))⟩,⟨_,rfl,(CoR.refl _)⟩,c9,c9,c9,c9,c9,trivial⟩,trivial⟩
    ·
     have h3:=r3
     have hv:vBo (bc n l m) (ps.getD i default) = false:=r3
     refine aa ?_;refine gy ?_;(iterate 3 refine qy ?_);refine a6 ?_;refine ⟨i + 1, ?_, ?_, ?_⟩
     · show i + 1 ≤ _;omega
     · first | omega | (dsimp only;omega)
     · exact ⟨⟨⟨_,rfl,(cob (by rw [yr hil,hlB.1,hlB.2,hv];rfl))⟩,⟨_,rfl,(CoR.refl _)⟩,c9,c9,c9,c9,c9,trivial⟩,trivial⟩
   ·
    have h2:=r2
    have h2:=df r1 h2
    refine ak ?_;refine sx7 ?_;(iterate 4 refine qy ?_);refine a6 ?_
    exact hx8 rfl rfl rfl (⟨(by first | exact ccb (abf hz (by assumption)) | exact ccb (abi hz (by omega))),cci (show lsC n ps l m = wg n l m ps from (if_pos hz).symm),trivial⟩)
  ·
   have h1:=of_decide_eq_false r1
   try simp only [ty] at h1
   refine k9 (gft r1) ?_;refine rq rfl rfl rfl rfl rfl ?_ (hp:=r1);refine a6 ?_;refine a8 _ rfl (fun e=>by cases e) (fun _=>?_);refine ak ?_;refine sx7 ?_;(iterate 4 refine qy ?_);refine a6 ?_
   exact hx8 rfl rfl rfl (⟨(by first | exact ccb (abf hz (by assumption)) | exact ccb (abi hz (by omega))),cci (show lsC n ps l m = wg n l m ps from (if_pos hz).symm),trivial⟩)
end Go.Hx
end
section
namespace Go.Hx
open Go.Proofs
set_option maxRecDepth 100000
def lw (n:Int) (ps:List AS):List AS:=if ps.length = 0 then [af n] else ps.set (ps.length - 1) (ps.getD (ps.length - 1) default ||| (af n &&& ~~~(orL ps)))
theorem avo {n:Int} {ps:List AS} (h:ps.length = 0):lw n ps = [af n]:=if_pos h
theorem avp {n:Int} {ps:List AS} (h:¬ ps.length = 0):lw n ps = ps.set (ps.length - 1) (ps.getD (ps.length - 1) default ||| (af n &&& ~~~(orL ps))):=if_neg h
theorem ao0 (n:Int) (ps:List AS):(lw n ps).length ≤ ps.length + 1:=by
 unfold lw
 split
 · simp
 · rw [List.length_set];omega
theorem axh {e:TypeId} {l:List AS} {f:Nat → Nat → PV} {m:Nat} (hm:m = l.length):CoO (.arr true 1 e (0 + m) (ef 0 f (lf sC l))) (.arr true 1 e l.length (lf sC l)):=by
 subst hm
 exact ⟨fun h=>h,rfl,rfl,(Nat.zero_add _).symm,fun i j _ _=>CoP.of_eq (by simp [ef])⟩
theorem b2w {n:Int} {ps:List AS} {j k:Nat} (h:k = j):d4 .or .u32 (asI (ps.getD k default)) (d4 .andNot .u32 (asI (af n)) (asI (orL ps))) = asI (ps.getD j default ||| (af n &&& ~~~(orL ps))):=by
 subst h
 rw [i7,bOr]
theorem au0 {x:AS} {cl:Bool} {f:Nat → Nat → PV} (h:CoP (f 0 0) (asC x)):CoP (.sl 1 1 cl f) (asl [x]):=CoP.sl rfl (.inl rfl) (fun h=>by cases h) fun i j hi hj=>by
 obtain rfl:i = 0:=by omega
 obtain rfl:j = 0:=by omega
 exact h
theorem azx:goodFn Tryz.prog 21:=⟨Tryz.f21,Tryz.func21,by kernel_rfl,by kernel_rfl⟩
theorem b0c (n:Int) (ps:List AS) (hps:ps.length ≤ 8589934592):ai Tryz.prog 21 [pI n,pP (asl ps)] (ao [pP (asl (lw n ps))]):=by
 refine ah (nt:=42) ae Tryz.func21 rfl rfl l9 ?_
 refine d9 1 rfl fun hb=>?_
 refine sx7 ?_;refine qy ?_;refine a6 ?_;refine sx7 ?_;refine qy ?_;refine a6 ?_;refine a7 ?_;refine sx7 ?_;refine qy ?_;refine a6 ?_;refine ab ?_
 refine aj (ι:=Nat) ⟨[(0,some _),(1,some _)],[]⟩ ⟨⟨c9,c9,trivial⟩,trivial⟩ (fun i=>⟨[(5,some (vA (orL (ps.take i)))),(6,some (vI i))],[]⟩) (fun i=>i ≤ ps.length) (fun i=>ps.length - i) (0) (Nat.zero_le _) ⟨⟨⟨_,rfl,(CoR.refl _)⟩,⟨_,rfl,(CoR.refl _)⟩,trivial⟩,trivial⟩ ?_
 rintro i hi
 refine a7 ?_;refine sx7 ?_;(iterate 4 refine qy ?_);refine a6 ?_;refine a8 _ rfl (fun r0=>?_) (fun r0=>?_)
 ·
  have h0:=of_decide_eq_true r0
  try simp only [ty] at h0
  refine aa ?_;refine a7 ?_;refine ab ?_;refine gy ?_;(iterate 7 refine qy ?_);refine a6 ?_;refine gy ?_;(iterate 3 refine qy ?_);refine a6 ?_;refine ⟨i + 1, ?_, ?_, ?_⟩
  · show i + 1 ≤ _;omega
  · first | omega | (dsimp only;omega)
  · exact ⟨⟨⟨_,rfl,(fg ((bOr _ _).trans (congrArg asI (zd (by omega)).symm)))⟩,⟨_,rfl,(CoR.refl _)⟩,c9,c9,trivial⟩,trivial⟩
 ·
  have h0:=of_decide_eq_false r0
  try simp only [ty] at h0
  obtain rfl:i = ps.length:=by omega
  rw [show ps.take ps.length = ps from List.take_length]
  refine ak ?_;refine sx7 ?_;refine m9 900 ?_;refine qy ?_;refine ra 901 true rfl rfl rfl rfl rfl rfl ?_;refine qy ?_;refine a6 ?_
  refine uy ⟨[(0,some _),(5,some _),(7,some (.v (.one (.ref 900 ps.length))))],[(900,some (.arr true 1 38 ps.length (lf sC ps)))]⟩ (by exact ⟨⟨c9,c9,⟨_,rfl,CoR.of_eq (congrArg (fun z=>HR.v (.one (.ref 900 z))) (Nat.zero_add _))⟩,trivial⟩,⟨⟨_,rfl,axh rfl⟩,trivial⟩⟩) ?_
  refine a7 ?_;refine sx7 ?_;(iterate 3 refine qy ?_);refine a6 ?_;refine a8 _ rfl (fun r1=>?_) (fun r1=>?_)
  ·
   have h1:=of_decide_eq_true r1
   try simp only [ty] at h1
   have h0:ps.length = 0:=by omega
   refine sx7 ?_;refine qy ?_;refine rc rfl rfl rfl rfl rfl rfl kx (l6 n) (CoL.refl _) rfl rfl ?_;refine m9 902 ?_;refine qy ?_;refine a6 ?_;refine bn 4 rfl rfl rfl ?_
   exact hx8 rfl rfl rfl (⟨CoC.one (by rw [avo h0];exact au0 (CoP.refl _)),trivial⟩)
  ·
   have h1:=of_decide_eq_false r1
   try simp only [ty] at h1
   have h0:¬ ps.length = 0:=by omega
   refine aa ?_;refine a7 ?_;refine ax (E:=bf) ae ar [0,1,2,3,4,5,6,7,8,9,10,11,12] ?_;(iterate 7 refine qy ?_)
   refine rc rfl rfl rfl rfl rfl rfl kx (l6 n) (CoL.refl _) rfl rfl ?_;(iterate 4 refine qy ?_);refine s9 ?_;refine a6 ?_;refine ⟨by kernel_rfl, ?_⟩
   refine uy ⟨[(7,some _)],[(900,some (.arr true 1 38 ps.length (lf sC (ps.set (ps.length - 1) (ps.getD (ps.length - 1) default ||| (af n &&& ~~~(orL ps)))))))]⟩ (by exact ⟨⟨c9,trivial⟩,⟨⟨_,rfl,(a8r (fun h=>h) rfl (by omega) (by omega) (congrArg (fun z=>PV.raw (.int .u32 z)) (b2w (by omega))))⟩,trivial⟩⟩) ?_
   refine sx7 ?_;(iterate 2 refine qy ?_);refine a6 ?_;refine bn 4 rfl rfl rfl ?_
   exact hx8 rfl rfl rfl (⟨CoC.one (CoP.of_eq (by rw [avp h0];exact (congrArg (fun z=>PV.sl z 1 false (lf sC (ps.set (ps.length - 1) (ps.getD (ps.length - 1) default ||| (af n &&& ~~~(orL ps)))))) List.length_set.symm))),trivial⟩)
end Go.Hx
end
section
namespace Go.Hx
open Go.Proofs
set_option maxRecDepth 100000
def q8 (n:Int) (q:BitVec 8):AS:=q.setWidth 32 &&& af n
theorem b0j (x:Mx) (qs:List (BitVec 8)) (w:Bool) (hl:x.d.l.length ≤ 16777216) (hm:x.m.length ≤ 16777216):ai Tryz.prog 4 [x.pc,pP (psl 1 u8C qs),pB w] (ao [pB true]):=by
 refine ah (nt:=87) ae Tryz.func4 rfl rfl l9 ?_;refine a7 ?_
 refine d9 1 rfl fun hn=>?_
 refine gy ?_;refine m9 0 ?_;refine qy ?_;refine a6 ?_;refine sx7 ?_;refine qy ?_;refine rc rfl rfl rfl rfl rfl rfl ane (at2 x hl hm) (CoL.refl _) rfl rfl ?_;(iterate 9 refine qy ?_);refine a6 ?_
 refine a7 ?_;refine sx7 ?_;refine rc rfl rfl rfl rfl rfl rfl tv (o6) (CoL.refl _) rfl rfl ?_;(iterate 6 refine qy ?_);refine b4 rfl rfl (fun r0=>?_) (fun r0=>?_)
 ·
  have h0:=r0
  have h0:=av h0
  (iterate 2 refine k9 (gtf r0) ?_);refine rq rfl rfl rfl rfl rfl ?_ (hp:=r0);refine qy ?_;(iterate 3 refine k9 rfl ?_);refine qy ?_;refine a6 ?_;refine a8 _ rfl (fun _=>?_) (fun e=>by cases e);refine sx7 ?_
  refine rc rfl rfl rfl rfl rfl rfl tv (o6) (CoL.refl _) rfl rfl ?_;refine qy ?_;refine a6 ?_
  exact hx8 rfl rfl rfl (CoL.refl _)
 ·
  have h0:=r0
  have h0:=aw h0
  (iterate 2 refine qy ?_ (hg:=(gff r0)));(iterate 2 refine qy ?_);refine b4 rfl rfl (fun r1=>?_) (fun r1=>?_)
  ·
   have h1:=r1
   have h1:=bg r0 h1
   have h1:=of_decide_eq_true h1
   try simp only [ty] at h1
   (iterate 3 refine k9 (gtf r1) ?_);refine rq rfl rfl rfl rfl rfl ?_ (hp:=r1);refine a6 ?_;refine a8 _ rfl (fun _=>?_) (fun e=>by cases e);refine sx7 ?_
   refine rc rfl rfl rfl rfl rfl rfl tv (o6) (CoL.refl _) rfl rfl ?_;refine qy ?_;refine a6 ?_
   exact hx8 rfl rfl rfl (CoL.refl _)
  ·
   have h1:=r1
   have h1:=bg r0 h1
   have h1:=of_decide_eq_false h1
   try simp only [ty] at h1
   (iterate 3 refine qy ?_ (hg:=(gff r1)));refine qy ?_;refine a6 ?_;refine a8 _ rfl (fun r2=>?_) (fun r2=>?_)
   ·
    have h2:=r2
    have h2:=bg r1 h2
    have h2:=of_decide_eq_true h2
    try simp only [ty] at h2
    refine sx7 ?_;refine rc rfl rfl rfl rfl rfl rfl tv (o6) (CoL.refl _) rfl rfl ?_;refine qy ?_;refine a6 ?_
    exact hx8 rfl rfl rfl (CoL.refl _)
   ·
    have h2:=r2
    have h2:=bg r1 h2
    have h2:=of_decide_eq_false h2
    try simp only [ty] at h2
    have h5:qs.length ≤ 5:=by first | omega | (simp_all;omega)
    have hok:x.ok = true:=by simp_all
    obtain ⟨hx6,hx4,_⟩:=ajh hok
    have hfl:x.d.fds.length ≤ 6:=by unfold Dps.fds;rw [List.length_map];exact hx6
    have hml:x.mv.length ≤ 4:=by unfold Mx.mv;rw [List.length_map];exact hx4
    refine aa ?_;refine sx7 ?_;refine qy ?_;refine a6 ?_
    refine db 11 900 true 1 38 (lf sC []) (by decide) rfl (CoP.sl rfl (.inr rfl) (fun h=>h) (fun i j hi _=>absurd hi (Nat.not_lt_zero i))) (.inr rfl) rfl ?_;refine a7 ?_;refine sx7 ?_;(iterate 3 refine qy ?_)
    refine a6 ?_;refine ab ?_
    refine aj (ι:=Nat) ⟨[(2,some _),(7,some _),(8,some _),(9,some _),(41,some _),(42,some _)],[]⟩ ⟨⟨c9,c9,c9,c9,c9,c9,trivial⟩,trivial⟩ (fun i=>⟨[(11,some (.v (.one (.ref 900 ((qs.take i).map (q8 x.d.num)).length)))),(43,some (vI i))],[(900,some (.arr true 1 38 ((qs.take i).map (q8 x.d.num)).length (lf sC ((qs.take i).map (q8 x.d.num)))))]⟩) (fun i=>i ≤ qs.length) (fun i=>qs.length - i) (0) (Nat.zero_le _) ⟨⟨⟨_,rfl,(CoR.refl _)⟩,⟨_,rfl,(CoR.refl _)⟩,trivial⟩,⟨u9,trivial⟩⟩ ?_
    rintro i hi
    have hlen:((qs.take i).map (q8 x.d.num)).length ≤ i:=by rw [List.length_map,List.length_take];omega
    refine sx7 ?_;refine qy ?_;refine a6 ?_;refine a7 ?_;refine a8 _ rfl (fun r3=>?_) (fun r3=>?_)
    ·
     have h3:=of_decide_eq_true r3
     try simp only [ty] at h3
     refine aa ?_;refine a7 ?_;refine ab ?_;refine sx7 ?_;(iterate 3 refine qy ?_);refine a6 ?_;refine gy ?_;(iterate 4 refine qy ?_)
     refine rc rfl rfl rfl rfl rfl rfl kx (l6 x.d.num) (CoL.refl _) rfl rfl ?_;refine qy ?_;refine m9 1 ?_;refine ra 2 true rfl rfl rfl rfl rfl rfl ?_;refine qy ?_;refine a6 ?_;refine gy ?_
     (iterate 2 refine qy ?_);refine a6 ?_;refine ⟨i + 1, ?_, ?_, ?_⟩
     · show i + 1 ≤ _;omega
     · first | omega | (dsimp only;omega)
     · exact ⟨⟨⟨_,rfl,(d7 (ais (by omega)))⟩,⟨_,rfl,(CoR.refl _)⟩,c9,c9,c9,c9,c9,c9,trivial⟩,⟨⟨_,rfl,(cw (ais (by omega)) (CoP.of_eq (congrArg (fun z=>PV.raw (.int .u32 z)) (acv _ _))))⟩,trivial⟩⟩
    ·
     have h3:=of_decide_eq_false r3
     try simp only [ty] at h3
     obtain rfl:i = qs.length:=by omega
     rw [show qs.take qs.length = qs from List.take_length]
     have hq5:(qs.map (q8 x.d.num)).length ≤ 5:=by rw [List.length_map];exact h5
     have hw5:(bif w then lw x.d.num (qs.map (q8 x.d.num)) else (qs.map (q8 x.d.num))).length ≤ 6:=by
      cases w
      · exact Nat.le_trans hq5 (by decide)
      · exact Nat.le_trans (ao0 _ _) (by omega)
     refine ak ?_
     refine dm (ι:=Unit) ⟨[(7,some _),(8,some _),(9,some _)],[]⟩ ⟨⟨c9,c9,c9,trivial⟩,trivial⟩ (fun _i=>⟨[(11,some (bt (asl (bif w then lw x.d.num (qs.map (q8 x.d.num)) else (qs.map (q8 x.d.num))))))],[]⟩) (fun _i=>True) ?_ ?_
     ·
      refine a7 ?_;refine bn 11 rfl rfl rfl ?_;refine gy ?_;refine qy ?_;refine a6 ?_;refine a8 _ rfl (fun r4=>?_) (fun r4=>?_)
      ·
       have h4:=r4
       have hwt:w = true:=r4
       subst hwt
       refine gy ?_;(iterate 2 refine qy ?_);refine rc rfl rfl rfl rfl rfl rfl azx (b0c x.d.num (qs.map (q8 x.d.num)) (by omega)) (CoL.refl _) rfl rfl ?_;refine qy ?_;refine a6 ?_;refine ⟨(), ?_, ?_⟩
       · trivial
       · exact ⟨⟨⟨_,rfl,(CoR.refl _)⟩,c9,c9,c9,trivial⟩,trivial⟩
      ·
       have h4:=r4
       have hwt:w = false:=r4
       subst hwt
       refine aa ?_;refine ⟨(), ?_, ?_⟩
       · trivial
       · exact ⟨⟨⟨_,rfl,(CoR.refl _)⟩,c9,c9,c9,trivial⟩,trivial⟩
     · rintro _ _
       refine sx7 ?_;(iterate 2 refine qy ?_);refine rc rfl rfl rfl rfl rfl rfl alr (aec x.d.fds.length false (lf Fd.c x.d.fds) (by omega)) (CoL.refl _) rfl rfl ?_;refine qy ?_
       refine rc rfl rfl rfl rfl rfl rfl adc (agl x.mv.length false (lf Fd.c x.mv) (by omega)) (CoL.refl _) rfl rfl ?_;refine qy ?_
       refine rc rfl rfl rfl rfl rfl rfl ada (as2 (bif w then lw x.d.num (qs.map (q8 x.d.num)) else (qs.map (q8 x.d.num))).length false (lf sC (bif w then lw x.d.num (qs.map (q8 x.d.num)) else (qs.map (q8 x.d.num)))) (by omega)) (CoL.refl _) rfl rfl ?_
       refine rc rfl rfl rfl rfl rfl rfl ak6 (ab9 x.d.num x.d.fds x.mv (bif w then lw x.d.num (qs.map (q8 x.d.num)) else (qs.map (q8 x.d.num)))) (CoL.refl _) rfl rfl ?_;(iterate 5 refine qy ?_);refine a6 ?_
       refine sx7 ?_;(iterate 4 refine qy ?_);refine rc rfl rfl rfl rfl rfl rfl ayh (an9 x.d.num x.d.fds x.mv (bif w then lw x.d.num (qs.map (q8 x.d.num)) else (qs.map (q8 x.d.num)))) (CoL.refl _) rfl rfl ?_
       (iterate 5 refine qy ?_);refine a6 ?_;refine sx7 ?_;(iterate 4 refine qy ?_);refine b4 rfl rfl (fun r5=>?_) (fun r5=>?_)
       ·
        have h5:=r5
        (iterate 3 refine qy ?_ (hg:=(gtt r5)));(iterate 2 refine qy ?_);refine a6 ?_
        exact hx8 rfl rfl rfl (⟨ccb (by first | rfl | simp),trivial⟩)
       ·
        have h5:=r5
        simp at r5
end Go.Hx
end

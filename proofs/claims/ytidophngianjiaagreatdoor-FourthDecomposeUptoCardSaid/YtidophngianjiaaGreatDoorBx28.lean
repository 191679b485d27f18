/- A part of the proof: X21 X22 X23 Ch19 X24 Ch20 Ch21. -/
import Derived.Test.YtidophngianjiaaGreatDoorBx27
set_option linter.all false
section
namespace Go.Hx
open Go.Proofs
set_option maxRecDepth 100000
theorem au2:goodFn Tryz.prog 178:=⟨Tryz.f178,Tryz.func178,by kernel_rfl,by kernel_rfl⟩
theorem ara (n:Int) (l:List Rw) (s:AS) (a b:Nat) (h0:0 ≤ n) (h1:n ≤ 16) (hrow:∀ i,i < l.length → (l.getD i default).length = n.toNat) (hl2:l.length ≤ 4294967296) (ha:a < l.length) (hb:b < l.length) (hs:∀ j,j ∈ az s → j < n.toNat):ai Tryz.prog 178 [pT n l,pA s,pI (a:Int),pI (b:Int)] (ao [pT n (ay (dj l (eqMs (c5 l) a b (az s))))]):=by
 refine ah (nt:=88) ae Tryz.func178 rfl rfl l9 ?_;refine sx7 ?_;refine m9 0 ?_;refine m9 1 ?_;refine a6 ?_;refine sx7 ?_;(iterate 2 refine qy ?_)
 refine cn rfl rfl rfl rfl rfl rfl a7d (aob l (fun i hi=>by rw [hrow i hi];omega) (by omega)) (fe.refl _) trivial rfl rfl ?_;refine qy ?_;refine a6 ?_;refine a7 ?_;refine sx7 ?_;refine qy ?_
 refine a6 ?_;refine ab ?_
 refine aj (ι:=Nat) ⟨[(1,some _),(2,some _),(3,some _),(4,some _),(8,some _),(9,some _)],[(0,some _),(1,some _)]⟩ ⟨⟨c9,c9,c9,c9,c9,c9,trivial⟩,⟨u9,u9,trivial⟩⟩ (fun j=>⟨[(10,some (vI j))],[(901,some (.nest 121 3 1 l.length (fun i=>(l.getD i default).length) (mg (eqMs (c5 l) a b (dz s j))) none))]⟩) (fun j=>j ≤ n.toNat) (fun j=>n.toNat - j) (0) (Nat.zero_le _) ⟨⟨zy,trivial⟩,⟨u9,trivial⟩⟩ ?_
 rintro j hj
 (iterate 2 refine a7 ?_)
 have hra:=hrow a ha
 have hrb:=hrow b hb
 refine gy ?_;(iterate 4 refine qy ?_);refine a6 ?_;refine a8 _ rfl (fun r0=>?_) (fun r0=>?_)
 ·
  have h0:=of_decide_eq_true r0
  try simp only [ty] at h0
  refine aa ?_;refine a7 ?_;refine ab ?_;refine a7 ?_;refine ax (E:=bf) ae ar [0,1,2,3,4,5,6,7,8,9,10,11,12,13,14,15] ?_;(iterate 5 refine qy ?_)
  (iterate 2 refine rq rfl rfl rfl rfl rfl ?_ (hp:=(by (try simp only [Int.toNat_natCast,nM]);(repeat' apply And.intro) <;> first | trivial | rfl | omega | exact Nat.le_of_ble_eq_true rfl)));(iterate 5 refine qy ?_)
  (iterate 2 refine rq rfl rfl rfl rfl rfl ?_ (hp:=(by (try simp only [Int.toNat_natCast,nM]);(repeat' apply And.intro) <;> first | trivial | rfl | omega | exact Nat.le_of_ble_eq_true rfl)));(iterate 2 refine qy ?_)
  refine a6 ?_;refine ⟨by kernel_rfl, ?_⟩;refine a7 ?_;refine sx7 ?_;(iterate 2 refine qy ?_);refine rc rfl rfl rfl rfl rfl rfl tj (a89 s (j:Int)) (CoL.refl _) rfl rfl ?_;(iterate 2 refine qy ?_)
  refine b4 rfl rfl (fun r1=>?_) (fun r1=>?_)
  ·
   have h1:=r1
   have h1:=av h1
   (iterate 3 refine k9 (gtf r1) ?_);refine rq rfl rfl rfl rfl rfl ?_ (hp:=r1);refine a6 ?_;refine a8 _ rfl (fun _=>?_) (fun e=>by cases e);refine ak ?_;refine gy ?_;(iterate 3 refine qy ?_)
   refine a6 ?_;refine ⟨j + 1, ?_, ?_, ?_⟩
   · show j + 1 ≤ _;omega
   · first | omega | (dsimp only;omega)
   · exact ⟨⟨zy,c9,c9,c9,c9,c9,c9,trivial⟩,⟨⟨_,rfl,(by first | (rw [o9 (by omega) (by assumption)];exact CoO.refl _) | (rw [ld (by omega) (by assumption),oh,pn (by assumption)];exact CoO.refl _) | (rw [ld (by omega) (by assumption),oh];exact o0 (ux (by omega))))⟩,u9,u9,trivial⟩⟩
  ·
   have h1:=r1
   have h1:=aw h1
   (iterate 3 refine qy ?_ (hg:=(gff r1)));refine qy ?_;refine a6 ?_;refine a8 _ rfl (fun r2=>?_) (fun r2=>?_)
   ·
    have h2:=r2
    have h2:=bg r1 h2
    have h2:=of_decide_eq_true h2
    try simp only [ty] at h2
    refine ak ?_;refine gy ?_;(iterate 3 refine qy ?_);refine a6 ?_;refine ⟨j + 1, ?_, ?_, ?_⟩
    · show j + 1 ≤ _;omega
    · first | omega | (dsimp only;omega)
    · exact ⟨⟨zy,c9,c9,c9,c9,c9,c9,trivial⟩,⟨⟨_,rfl,(by first | (rw [o9 (by omega) (by assumption)];exact CoO.refl _) | (rw [ld (by omega) (by assumption),oh,pn (by assumption)];exact CoO.refl _) | (rw [ld (by omega) (by assumption),oh];exact o0 (ux (by omega))))⟩,u9,u9,trivial⟩⟩
   ·
    have h2:=r2
    have h2:=bg r1 h2
    have h2:=of_decide_eq_false h2
    try simp only [ty] at h2
    refine aa ?_;refine sx7 ?_;(iterate 4 refine qy ?_);refine a6 ?_
    refine dm (ι:=Unit) ⟨[(1,some _),(2,some _),(3,some _),(4,some _),(8,some _),(9,some _),(10,some _)],[(0,some _),(1,some _)]⟩ ⟨⟨c9,c9,c9,c9,c9,c9,c9,trivial⟩,⟨u9,u9,trivial⟩⟩ (fun _i=>⟨[(13,some (vI (loI ((eqMs (c5 l) a b (dz s j)) a j) ((eqMs (c5 l) a b (dz s j)) b j)))),(14,some (vI (hiI ((eqMs (c5 l) a b (dz s j)) a j) ((eqMs (c5 l) a b (dz s j)) b j))))],[(901,some (.nest 121 3 1 l.length (fun i=>(l.getD i default).length) (mg (eqMs (c5 l) a b (dz s j))) none))]⟩) (fun _i=>True) ?_ ?_
    ·
     refine sx7 ?_;(iterate 3 refine qy ?_);refine a6 ?_;refine a8 _ rfl (fun r3=>?_) (fun r3=>?_)
     ·
      have h3:=of_decide_eq_true r3
      try simp only [ty] at h3
      refine gy ?_;(iterate 4 refine qy ?_);refine a6 ?_;refine ⟨(), ?_, ?_⟩
      · trivial
      · exact ⟨⟨⟨_,rfl,(fg (by simp only [Int.toNat_natCast];unfold loI;split <;> omega))⟩,⟨_,rfl,(fg (by simp only [Int.toNat_natCast];unfold hiI;split <;> omega))⟩,c9,c9,c9,c9,c9,c9,c9,trivial⟩,⟨u9,u9,u9,trivial⟩⟩
     ·
      have h3:=of_decide_eq_false r3
      try simp only [ty] at h3
      refine aa ?_;refine ⟨(), ?_, ?_⟩
      · trivial
      · exact ⟨⟨⟨_,rfl,(fg (by simp only [Int.toNat_natCast];unfold loI;split <;> omega))⟩,⟨_,rfl,(fg (by simp only [Int.toNat_natCast];unfold hiI;split <;> omega))⟩,c9,c9,c9,c9,c9,c9,c9,trivial⟩,⟨u9,u9,u9,trivial⟩⟩
    · rintro _ _
      refine sx7 ?_;refine qy ?_;refine a6 ?_;refine ab ?_
      refine aj (ι:=Nat) ⟨[(1,some _),(2,some _),(3,some _),(4,some _),(8,some _),(9,some _),(10,some _),(13,some _),(14,some _)],[(0,some _),(1,some _)]⟩ ⟨⟨c9,c9,c9,c9,c9,c9,c9,c9,c9,trivial⟩,⟨u9,u9,trivial⟩⟩ (fun i=>⟨[(15,some (vI i))],[(901,some (.nest 121 3 1 l.length (fun i=>(l.getD i default).length) (mg (jr (eqMs (c5 l) a b (dz s j)) (hiI ((eqMs (c5 l) a b (dz s j)) a j) ((eqMs (c5 l) a b (dz s j)) b j)) (loI ((eqMs (c5 l) a b (dz s j)) a j) ((eqMs (c5 l) a b (dz s j)) b j)) i 0)) none))]⟩) (fun i=>i ≤ l.length) (fun i=>l.length - i) (0) (Nat.zero_le _) ⟨⟨zy,trivial⟩,⟨⟨_,rfl,(by rw [aa3];exact CoO.refl _)⟩,trivial⟩⟩ ?_
      rintro i hi
      refine a7 ?_;refine sx7 ?_;(iterate 4 refine qy ?_);refine a6 ?_;refine a8 _ rfl (fun r4=>?_) (fun r4=>?_)
      ·
       have h4:=of_decide_eq_true r4
       try simp only [ty] at h4
       have hri:=hrow i (by omega)
       refine aa ?_;refine a7 ?_;refine ab ?_;refine sx7 ?_;refine qy ?_;refine a6 ?_;refine ab ?_
       refine aj (ι:=Nat) ⟨[(1,some _),(2,some _),(3,some _),(4,some _),(8,some _),(9,some _),(10,some _),(13,some _),(14,some _),(15,some _)],[(0,some _),(1,some _)]⟩ ⟨⟨c9,c9,c9,c9,c9,c9,c9,c9,c9,c9,trivial⟩,⟨u9,u9,trivial⟩⟩ (fun k=>⟨[(16,some (vI k))],[(901,some (.nest 121 3 1 l.length (fun i=>(l.getD i default).length) (mg (jr (eqMs (c5 l) a b (dz s j)) (hiI ((eqMs (c5 l) a b (dz s j)) a j) ((eqMs (c5 l) a b (dz s j)) b j)) (loI ((eqMs (c5 l) a b (dz s j)) a j) ((eqMs (c5 l) a b (dz s j)) b j)) i k)) none))]⟩) (fun k=>k ≤ n.toNat) (fun k=>n.toNat - k) (0) (Nat.zero_le _) ⟨⟨zy,trivial⟩,⟨u9,trivial⟩⟩ ?_
       rintro k hk
       refine a7 ?_;refine sx7 ?_;(iterate 4 refine qy ?_);refine a6 ?_;refine a8 _ rfl (fun r5=>?_) (fun r5=>?_)
       ·
        have h5:=of_decide_eq_true r5
        try simp only [ty] at h5
        refine aa ?_;refine a7 ?_;refine ab ?_;refine sx7 ?_;(iterate 5 refine qy ?_)
        (iterate 2 refine rq rfl rfl rfl rfl rfl ?_ (hp:=(by (try simp only [Int.toNat_natCast,nM]);(repeat' apply And.intro) <;> first | trivial | rfl | omega | exact Nat.le_of_ble_eq_true rfl)));(iterate 2 refine qy ?_)
        refine a6 ?_;refine a8 _ rfl (fun r6=>?_) (fun r6=>?_)
        ·
         have h6:=of_decide_eq_true r6
         try simp only [ty] at h6
         refine gy ?_;(iterate 6 refine qy ?_)
         refine rq rfl rfl rfl rfl rfl ?_ (hp:=(by (try simp only [Int.toNat_natCast,nM]);(repeat' apply And.intro) <;> first | trivial | rfl | omega | exact Nat.le_of_ble_eq_true rfl))
         refine rs rfl rfl rfl rfl rfl ?_ (hp:=(by (try simp only [Int.toNat_natCast,nM]);(repeat' apply And.intro) <;> first | trivial | rfl | omega | exact Nat.le_of_ble_eq_true rfl));refine a6 ?_;refine gy ?_
         (iterate 3 refine qy ?_);refine a6 ?_;refine ⟨k + 1, ?_, ?_, ?_⟩
         · show k + 1 ≤ _;omega
         · first | omega | (dsimp only;omega)
         · exact ⟨⟨zy,c9,c9,c9,c9,c9,c9,c9,c9,c9,c9,trivial⟩,⟨⟨_,rfl,(by first | exact a2j (a68 (by assumption)) (by simp) (by simp) | (rw [a5v (by assumption)];exact CoO.refl _))⟩,u9,u9,trivial⟩⟩
        ·
         have h6:=of_decide_eq_false r6
         try simp only [ty] at h6
         refine aa ?_;refine gy ?_;(iterate 3 refine qy ?_);refine a6 ?_;refine ⟨k + 1, ?_, ?_, ?_⟩
         · show k + 1 ≤ _;omega
         · first | omega | (dsimp only;omega)
         · exact ⟨⟨zy,c9,c9,c9,c9,c9,c9,c9,c9,c9,c9,trivial⟩,⟨⟨_,rfl,(by first | exact a2j (a68 (by assumption)) (by simp) (by simp) | (rw [a5v (by assumption)];exact CoO.refl _))⟩,u9,u9,trivial⟩⟩
       ·
        have h5:=of_decide_eq_false r5
        try simp only [ty] at h5
        refine ak ?_;refine gy ?_;(iterate 3 refine qy ?_);refine a6 ?_;refine ⟨i + 1, ?_, ?_, ?_⟩
        · show i + 1 ≤ _;omega
        · first | omega | (dsimp only;omega)
        · exact ⟨⟨zy,c9,c9,c9,c9,c9,c9,c9,c9,c9,trivial⟩,⟨⟨_,rfl,(o0 (abs (by omega)))⟩,u9,u9,trivial⟩⟩
      ·
       have h4:=of_decide_eq_false r4
       try simp only [ty] at h4
       refine ak ?_;refine gy ?_;(iterate 3 refine qy ?_);refine a6 ?_;refine ⟨j + 1, ?_, ?_, ?_⟩
       · show j + 1 ≤ _;omega
       · first | omega | (dsimp only;omega)
       · exact ⟨⟨zy,c9,c9,c9,c9,c9,c9,trivial⟩,⟨⟨_,rfl,(by first | (rw [o9 (by omega) (by assumption)];exact CoO.refl _) | (rw [ld (by omega) (by assumption),oh,pn (by assumption)];exact CoO.refl _) | (rw [ld (by omega) (by assumption),oh];exact o0 (ux (by omega))))⟩,u9,u9,trivial⟩⟩
 ·
  have h0:=of_decide_eq_false r0
  try simp only [ty] at h0
  obtain rfl:j = n.toNat:=by omega
  refine ak ?_;refine a7 ?_
  have hme:=alz (s:=s) (n:=n.toNat) (by omega) hs
  refine agi 901 rfl ?_;refine bn 9 rfl rfl rfl ?_;refine gy ?_;(iterate 3 refine qy ?_)
  refine rc rfl rfl rfl rfl rfl rfl a8k (a48 n (dj l (eqMs (c5 l) a b (az s))) (by rw [jn];omega)) (⟨CoC.refl _,CoC.one (by rw [hme];exact arx rfl),trivial⟩) rfl rfl ?_;refine s9 ?_
  refine a6 ?_
  exact hx8 rfl rfl rfl (CoL.refl _)
end Go.Hx
end
section
namespace Go.Hx
open Go.Proofs
set_option maxRecDepth 100000
theorem auj:goodFn Tryz.prog 177:=⟨Tryz.f177,Tryz.func177,by kernel_rfl,by kernel_rfl⟩
theorem b1v (n:Int) (l:List Rw) (x:Fd) (a b:Nat) (h0:0 ≤ n) (h1:n ≤ 16) (hrow:∀ i,i < l.length → (l.getD i default).length = n.toNat) (hl2:l.length ≤ 4294967296) (ha:a < l.length) (hb:b < l.length):ai Tryz.prog 177 [pT n l,x.pc,pI (a:Int),pI (b:Int)] (ao [pT n (ay (l ++ [(d5 (l.getD a default) (l.getD b default) (x.lhs ||| x.rhs))]))]):=by
 refine ah (nt:=51) ae Tryz.func177 rfl rfl l9 ?_;refine sx7 ?_;refine m9 0 ?_;refine m9 1 ?_;refine m9 2 ?_;refine a6 ?_;refine a7 ?_
 have hra:=hrow a ha
 have hrb:=hrow b hb
 refine gy ?_;refine m9 3 ?_;(iterate 5 refine qy ?_);refine ra 4 true rfl rfl rfl rfl rfl rfl ?_;refine qy ?_;refine a6 ?_;refine a7 ?_;refine sx7 ?_;refine qy ?_;refine a6 ?_;refine ab ?_
 refine aj (ι:=Nat) ⟨[(2,some _),(4,some _),(5,some _),(8,some _),(9,some _)],[(0,some _),(1,some _),(2,some _)]⟩ ⟨⟨c9,c9,c9,c9,c9,trivial⟩,⟨u9,u9,u9,trivial⟩⟩ (fun j=>⟨[(10,some (vI j))],[(3,some (.arr true 1 3 (0 + (l.getD b default).length) (lf zC (jp (l.getD a default) (l.getD b default) (x.lhs ||| x.rhs) j))))]⟩) (fun j=>j ≤ n.toNat) (fun j=>n.toNat - j) (0) (Nat.zero_le _) ⟨⟨zy,trivial⟩,⟨⟨_,rfl,(ac5 (fun _ _=>rfl))⟩,trivial⟩⟩ ?_
 rintro j hj
 refine a7 ?_;refine sx7 ?_;(iterate 4 refine qy ?_);refine a6 ?_;refine a8 _ rfl (fun r0=>?_) (fun r0=>?_)
 ·
  have h0:=of_decide_eq_true r0
  try simp only [ty] at h0
  refine aa ?_;refine a7 ?_;refine ab ?_;refine sx7 ?_;(iterate 6 refine qy ?_);refine rc rfl rfl rfl rfl rfl rfl tj (a89 (x.lhs ||| x.rhs) (j:Int)) (⟨cci (by rw [bOr]),CoC.refl _,trivial⟩) rfl rfl ?_
  refine a6 ?_;refine a8 _ rfl (fun r1=>?_) (fun r1=>?_)
  ·
   have h1:=r1
   refine gy ?_;(iterate 8 refine qy ?_)
   (iterate 3 refine rq rfl rfl rfl rfl rfl ?_ (hp:=(by (try simp only [Int.toNat_natCast,nM]);(repeat' apply And.intro) <;> first | trivial | rfl | omega | exact Nat.le_of_ble_eq_true rfl)))
   refine rs rfl rfl rfl rfl rfl ?_ (hp:=(by (try simp only [Int.toNat_natCast,nM]);(repeat' apply And.intro) <;> first | trivial | rfl | omega | exact Nat.le_of_ble_eq_true rfl));refine a6 ?_;refine gy ?_
   (iterate 3 refine qy ?_);refine a6 ?_;refine ⟨j + 1, ?_, ?_, ?_⟩
   · show j + 1 ≤ _;omega
   · first | omega | (dsimp only;omega)
   · exact ⟨⟨zy,c9,c9,c9,c9,c9,trivial⟩,⟨⟨_,rfl,(by first | exact qe (by omega) (by assumption) (by omega) (by omega) | exact qp (Bool.eq_false_iff.1 (by assumption)))⟩,u9,u9,u9,trivial⟩⟩
  ·
   have h1:=r1
   refine aa ?_;refine gy ?_;(iterate 3 refine qy ?_);refine a6 ?_;refine ⟨j + 1, ?_, ?_, ?_⟩
   · show j + 1 ≤ _;omega
   · first | omega | (dsimp only;omega)
   · exact ⟨⟨zy,c9,c9,c9,c9,c9,trivial⟩,⟨⟨_,rfl,(by first | exact qe (by omega) (by assumption) (by omega) (by omega) | exact qp (Bool.eq_false_iff.1 (by assumption)))⟩,u9,u9,u9,trivial⟩⟩
 ·
  have h0:=of_decide_eq_false r0
  try simp only [ty] at h0
  obtain rfl:j = n.toNat:=by omega
  refine ak ?_;refine a7 ?_;refine bn 9 rfl rfl rfl ?_;refine ax (E:=bf) ae ar [0,1,2,3,4,5,6,7,8,9] ?_;(iterate 4 refine qy ?_)
  refine cn rfl rfl rfl rfl rfl rfl a7d (acp l (fun i hi=>by rw [hrow i hi];omega) (by omega)) (fe.refl _) trivial rfl rfl ?_;refine qy ?_;refine m9 5 ?_;refine ra 6 true rfl rfl rfl rfl rfl rfl ?_
  refine cn rfl rfl rfl rfl rfl rfl a8k (ai.eat (hcs:=[.one (.p (.raw (.int .i64 n))), .one (.ref 901 (l ++ [(d5 (l.getD a default) (l.getD b default) (x.lhs ||| x.rhs))]).length)]) (o1:=[(901, .arr true 1 121 (l ++ [(d5 (l.getD a default) (l.getD b default) (x.lhs ||| x.rhs))]).length (lf rC (l ++ [(d5 (l.getD a default) (l.getD b default) (x.lhs ||| x.rhs))])))]) (a48 n (l ++ [(d5 (l.getD a default) (l.getD b default) (x.lhs ||| x.rhs))]) (by simp;omega)) rfl (by (repeat' apply And.intro) <;> first | trivial | rfl) (CoL.refl _)) (⟨CoP.refl _,congrArg (HV.ref 901) (by simp),trivial⟩) ⟨⟨_,rfl,(cw rfl (ahg (by first | omega | (simp only [Int.toNat_natCast];omega)) (by first | omega | (simp only [Int.toNat_natCast];omega))))⟩,trivial⟩ rfl rfl ?_
  refine s9 ?_;refine a6 ?_;refine ⟨by kernel_rfl, ?_⟩
  exact hx8 rfl rfl rfl (CoL.refl _)
end Go.Hx
end
section
namespace Go.Hx
open Go.Proofs
set_option maxRecDepth 100000
theorem aw9:goodFn Tryz.prog 210:=⟨Tryz.f210,Tryz.func210,by kernel_rfl,by kernel_rfl⟩
theorem b36 (n:Int) (l:List Rw) (p m:List Fd) (i a b:Nat) (h0:0 ≤ n) (h1:n ≤ 16) (hrow:∀ i,i < l.length → (l.getD i default).length = n.toNat) (ha:a < l.length) (hb:b < l.length) (hi:i < p.length):ai Tryz.prog 210 [pT n l,pP (fdl p),pP (fdl m), .agg [.raw (.bool false), .raw (.int .i64 (i:Int)), .raw (.int .i64 (a:Int)), .raw (.int .i64 (b:Int))]] (ao [pB (dx l (p.getD i default) a b)]):=by
 refine ah (nt:=85) ae Tryz.func210 rfl rfl l9 ?_;refine sx7 ?_;refine m9 0 ?_;refine m9 1 ?_;refine qy ?_;refine a6 ?_;refine a7 ?_
 have hra:=hrow a ha
 have hrb:=hrow b hb
 refine ax (E:=bf) ae ar [0,1,2,3,4,5,6,7,8,9,10,11,12,13] ?_;(iterate 14 refine qy ?_);refine a6 ?_;refine ⟨by kernel_rfl, ?_⟩;refine a7 ?_;refine sx7 ?_;(iterate 3 refine qy ?_)
 refine a6 ?_;refine a8 _ rfl (fun _=>?_) (fun e=>by cases e);refine sx7 ?_;(iterate 8 refine qy ?_)
 refine rc rfl rfl rfl rfl rfl rfl xe (xl (l.getD a default) (l.getD b default) (p.getD i default).lhs (by omega) (by omega)) (CoL.refl _) rfl rfl ?_;refine qy ?_;refine b4 rfl rfl (fun r0=>?_) (fun r0=>?_)
 ·
  have h0:=r0
  (iterate 8 refine qy ?_ (hg:=(gtt r0)));refine rc rfl rfl rfl rfl rfl rfl xe (xl (l.getD a default) (l.getD b default) (p.getD i default).rhs (by omega) (by omega)) (CoL.refl _) rfl (gtt r0) ?_
  refine qy ?_ (hg:=(gtt r0));(iterate 2 refine qy ?_);refine a6 ?_
  exact hx8 rfl rfl rfl (⟨ccb (by first | exact (ye (by assumption)).symm | simp_all [dx]),trivial⟩)
 ·
  have h0:=r0
  (iterate 10 refine k9 (gft r0) ?_);refine rq rfl rfl rfl rfl rfl ?_ (hp:=r0);refine qy ?_;refine a6 ?_
  exact hx8 rfl rfl rfl (⟨ccb (by first | exact (ye (by assumption)).symm | simp_all [dx]),trivial⟩)
theorem b3a (n:Int) (l:List Rw) (p m:List Fd) (i a b:Nat) (h0:0 ≤ n) (h1:n ≤ 16) (hrow:∀ i,i < l.length → (l.getD i default).length = n.toNat) (ha:a < l.length) (hb:b < l.length) (hi:i < m.length):ai Tryz.prog 210 [pT n l,pP (fdl p),pP (fdl m), .agg [.raw (.bool true), .raw (.int .i64 (i:Int)), .raw (.int .i64 (a:Int)), .raw (.int .i64 (b:Int))]] (ao [pB (a1x l (m.getD i default) a b)]):=by
 refine ah (nt:=85) ae Tryz.func210 rfl rfl l9 ?_;refine sx7 ?_;refine m9 0 ?_;refine m9 1 ?_;refine qy ?_;refine a6 ?_;refine a7 ?_
 have hra:=hrow a ha
 have hrb:=hrow b hb
 refine ax (E:=bf) ae ar [0,1,2,3,4,5,6,7,8,9,10,11,12,13] ?_;(iterate 14 refine qy ?_);refine a6 ?_;refine ⟨by kernel_rfl, ?_⟩;refine a7 ?_;refine sx7 ?_;(iterate 3 refine qy ?_)
 refine a6 ?_;refine a8 _ rfl (fun e=>by cases e) (fun _=>?_);refine aa ?_;refine sx7 ?_;(iterate 5 refine qy ?_);refine m9 2 ?_;refine s9 ?_;refine a6 ?_;refine a7 ?_;refine sx7 ?_
 (iterate 4 refine qy ?_);refine rc rfl rfl rfl rfl rfl rfl xe (xl (l.getD a default) (l.getD b default) (m.getD i default).lhs (by omega) (by omega)) (CoL.refl _) rfl rfl ?_;refine qy ?_;refine a6 ?_
 refine a8 _ rfl (fun r0=>?_) (fun r0=>?_)
 ·
  have h0:=r0
  have h0:=av h0
  refine sx7 ?_;refine qy ?_;refine a6 ?_
  exact hx8 rfl rfl rfl (⟨ccb (by unfold a1x;simp_all),trivial⟩)
 ·
  have h0:=r0
  have h0:=aw h0
  refine aa ?_;refine sx7 ?_;refine m9 3 ?_;refine qy ?_;refine ra 4 true rfl rfl rfl rfl rfl rfl ?_;refine qy ?_;refine a6 ?_;refine a7 ?_;refine sx7 ?_;refine qy ?_;refine a6 ?_;refine ab ?_
  refine aj (ι:=Nat) ⟨[(4,some _),(9,some _),(11,some _),(12,some _)],[(0,some _),(2,some _)]⟩ ⟨⟨c9,c9,c9,c9,trivial⟩,⟨u9,u9,trivial⟩⟩ (fun j=>⟨[(13,some (vI j))],[(3,some (.arr true 1 3 (0 + (l.getD b default).length) (lf zC (jp (l.getD a default) (l.getD b default) (m.getD i default).rhs j))))]⟩) (fun j=>j ≤ n.toNat) (fun j=>n.toNat - j) (0) (Nat.zero_le _) ⟨⟨zy,trivial⟩,⟨⟨_,rfl,(ac5 (fun _ _=>rfl))⟩,trivial⟩⟩ ?_
  rintro j hj
  refine a7 ?_;refine sx7 ?_;(iterate 4 refine qy ?_);refine a6 ?_;refine a8 _ rfl (fun r1=>?_) (fun r1=>?_)
  ·
   have h1:=of_decide_eq_true r1
   try simp only [ty] at h1
   refine aa ?_;refine a7 ?_;refine ab ?_;refine sx7 ?_;(iterate 3 refine qy ?_);refine rc rfl rfl rfl rfl rfl rfl tj (a89 (m.getD i default).rhs (j:Int)) (CoL.refl _) rfl rfl ?_;refine a6 ?_
   refine a8 _ rfl (fun r2=>?_) (fun r2=>?_)
   ·
    have h2:=r2
    refine gy ?_;(iterate 4 refine qy ?_)
    (iterate 3 refine rq rfl rfl rfl rfl rfl ?_ (hp:=(by (try simp only [Int.toNat_natCast,nM]);(repeat' apply And.intro) <;> first | trivial | rfl | omega | exact Nat.le_of_ble_eq_true rfl)))
    refine rs rfl rfl rfl rfl rfl ?_ (hp:=(by (try simp only [Int.toNat_natCast,nM]);(repeat' apply And.intro) <;> first | trivial | rfl | omega | exact Nat.le_of_ble_eq_true rfl));refine a6 ?_;refine gy ?_
    (iterate 3 refine qy ?_);refine a6 ?_;refine ⟨j + 1, ?_, ?_, ?_⟩
    · show j + 1 ≤ _;omega
    · first | omega | (dsimp only;omega)
    · exact ⟨⟨zy,c9,c9,c9,c9,trivial⟩,⟨⟨_,rfl,(by first | exact qe (by omega) (by assumption) (by omega) (by omega) | exact qp (Bool.eq_false_iff.1 (by assumption)))⟩,u9,u9,trivial⟩⟩
   ·
    have h2:=r2
    refine aa ?_;refine gy ?_;(iterate 3 refine qy ?_);refine a6 ?_;refine ⟨j + 1, ?_, ?_, ?_⟩
    · show j + 1 ≤ _;omega
    · first | omega | (dsimp only;omega)
    · exact ⟨⟨zy,c9,c9,c9,c9,trivial⟩,⟨⟨_,rfl,(by first | exact qe (by omega) (by assumption) (by omega) (by omega) | exact qp (Bool.eq_false_iff.1 (by assumption)))⟩,u9,u9,trivial⟩⟩
  ·
   have h1:=of_decide_eq_false r1
   try simp only [ty] at h1
   obtain rfl:j = n.toNat:=by omega
   refine ak ?_;refine a7 ?_;refine bn 12 rfl rfl rfl ?_;refine gy ?_;(iterate 2 refine qy ?_)
   refine rc rfl rfl rfl rfl rfl rfl abb (ab7 n l (d5 (l.getD a default) (l.getD b default) (m.getD i default).rhs)) (⟨CoC.refl _,ahg (by first | omega | (simp only [Int.toNat_natCast];omega)) (by first | omega | (simp only [Int.toNat_natCast];omega)),trivial⟩) rfl rfl ?_
   (iterate 2 refine qy ?_);refine a6 ?_
   exact hx8 rfl rfl rfl (⟨ccb (by unfold a1x;simp_all),trivial⟩)
end Go.Hx
end
section
namespace Go.Hx
open Go.Proofs
def muK (p:List Fd) (k:Nat):Bool:=decide (p.length ≤ k)
def ixK (p:List Fd) (k:Nat):Nat:=if p.length ≤ k then k - p.length else k
def chE (l:List Rw) (p m:List Fd) (s:St):Bool:=if s.1 = true then a1x l (m.getD s.2.1 default) s.2.2.1 s.2.2.2 else dx l (p.getD s.2.1 default) s.2.2.1 s.2.2.2
theorem cCh (n:Int) (l:List Rw) (p m:List Fd) (k a b:Nat) (hT:tok n l = true) (ha:a < l.length) (hb:b < l.length) (hk:k < p.length + m.length) :
 ai Tryz.prog 210 [pT n l,pP (fdl p),pP (fdl m),St.pc (muK p k,ixK p k,a,b)] (ao [pB (chE l p m (muK p k,ixK p k,a,b))]):=by
 obtain ⟨h0,h1,h2,h3⟩:=go hT
 by_cases h:p.length ≤ k
 · have e1:muK p k = true:=decide_eq_true h
   have e2:ixK p k = k - p.length:=if_pos h
   rw [e1,e2]
   exact b3a n l p m (k - p.length) a b h0 h1 h3 ha hb (by omega)
 · have e1:muK p k = false:=decide_eq_false h
   have e2:ixK p k = k:=if_neg h
   rw [e1,e2]
   exact b36 n l p m k a b h0 h1 h3 ha hb (by omega)
def gp (l:List Rw) (p m:List Fd) (k a b:Nat):Bool:=decide (a ≠ b) && chE l p m (muK p k,ixK p k,a,b)
def vt (l:List Rw) (p m:List Fd):Option St:=(eo (gp l p m) (p.length + m.length) l.length).map fun x=>(muK p x.1,ixK p x.1,x.2.1,x.2.2)
section
variable {l:List Rw} {p m:List Fd} {k a b:Nat}
theorem axm (h:¬ a = b) (h2:chE l p m (muK p k,ixK p k,a,b) = true):gp l p m k a b = true:=by unfold gp;rw [decide_eq_true h,h2];rfl
theorem acm (h:a = b):gp l p m k a b = false:=by unfold gp;rw [decide_eq_false (fun e=>e h)];rfl
theorem ab3 (h2:chE l p m (muK p k,ixK p k,a,b) = false):gp l p m k a b = false:=by unfold gp;rw [h2,Bool.and_false]
theorem axj (h:eo (gp l p m) (p.length + m.length) l.length = some (k,a,b)):vt l p m = some (muK p k,ixK p k,a,b):=by unfold vt;rw [h];rfl
theorem awx (h:eo (gp l p m) (p.length + m.length) l.length = none):vt l p m = none:=by unfold vt;rw [h];rfl
end
end Go.Hx
end
section
namespace Go.Hx
open Go.Proofs
set_option maxRecDepth 100000
theorem avi:goodFn Tryz.prog 175:=⟨Tryz.f175,Tryz.func175,by kernel_rfl,by kernel_rfl⟩
theorem ayu (n:Int) (l:List Rw) (p m:List Fd) (hT:tok n l = true) (hp:p.length ≤ 64) (hm:m.length ≤ 64):ai Tryz.prog 175 [pT n l,pP (fdl p),pP (fdl m)] (ao [St.pc ((vt l p m).getD (false,0,0,0)),pB (vt l p m).isSome]):=by
 refine ah (nt:=66) ae Tryz.func175 rfl rfl l9 ?_;refine a7 ?_
 obtain ⟨hn0,hn16,hl256,hrow⟩:=go hT
 refine d9 1 rfl fun hn1=>?_
 refine d9 2 rfl fun hn2=>?_
 refine gy ?_;refine m9 0 ?_;refine m9 1 ?_;refine qy ?_;refine a6 ?_;refine a7 ?_;refine sx7 ?_;refine qy ?_;refine a6 ?_;refine ab ?_
 refine aj (ι:=Nat) ⟨[(1,some _),(2,some _),(3,some _),(6,some _)],[(0,some _),(1,some _)]⟩ ⟨⟨c9,c9,c9,c9,trivial⟩,⟨u9,u9,trivial⟩⟩ (fun k=>⟨[(8,some (vI k))],[]⟩) (fun k=>k ≤ p.length + m.length ∧ ∀ i',i' < k → ∀ a',a' < l.length → ∀ b',b' < l.length → gp l p m i' a' b' = false) (fun k=>p.length + m.length - k) (0) (⟨Nat.zero_le _,cg⟩) ⟨⟨zy,trivial⟩,trivial⟩ ?_
 rintro k ⟨hk,hK⟩
 refine a7 ?_;refine sx7 ?_;(iterate 7 refine qy ?_);refine a6 ?_;refine a8 _ rfl (fun r0=>?_) (fun r0=>?_)
 ·
  have h0:=of_decide_eq_true r0
  try simp only [ty] at h0
  refine aa ?_;refine a7 ?_;refine ab ?_;refine sx7 ?_;(iterate 2 refine qy ?_);refine m9 2 ?_;refine s9 ?_;refine a6 ?_
  refine dm (ι:=Unit) ⟨[(1,some _),(2,some _),(3,some _),(6,some _),(8,some _),(9,some _)],[(0,some _),(1,some _)]⟩ ⟨⟨c9,c9,c9,c9,c9,c9,trivial⟩,⟨u9,u9,trivial⟩⟩ (fun _i=>⟨[],[(2,some (.box [.p (.raw (.bool (muK p k))), .p (.raw (.int .i64 (ixK p k:Int))), .p (.raw (.int .i64 0)), .p (.raw (.int .i64 0))]))]⟩) (fun _i=>True) ?_ ?_
  ·
   refine sx7 ?_;(iterate 4 refine qy ?_);refine a6 ?_;refine a8 _ rfl (fun r1=>?_) (fun r1=>?_)
   ·
    have h1:=of_decide_eq_true r1
    try simp only [ty] at h1
    refine gy ?_;(iterate 5 refine qy ?_);refine s9 ?_;refine a6 ?_;refine ⟨(), ?_, ?_⟩
    · trivial
    · exact ⟨⟨c9,c9,c9,c9,c9,c9,trivial⟩,⟨⟨_,rfl,(by unfold muK ixK;first | (rw [decide_eq_true (by omega),if_pos (by omega)];refine ⟨CoP.refl _,CoP.of_eq (by congr 2;omega),CoP.refl _,CoP.refl _,trivial⟩) | (rw [decide_eq_false (by omega),if_neg (by omega)];exact ⟨CoP.refl _,CoP.refl _,CoP.refl _,CoP.refl _,trivial⟩))⟩,u9,u9,trivial⟩⟩
   ·
    have h1:=of_decide_eq_false r1
    try simp only [ty] at h1
    refine aa ?_;refine ⟨(), ?_, ?_⟩
    · trivial
    · exact ⟨⟨c9,c9,c9,c9,c9,c9,trivial⟩,⟨⟨_,rfl,(by unfold muK ixK;first | (rw [decide_eq_true (by omega),if_pos (by omega)];refine ⟨CoP.refl _,CoP.of_eq (by congr 2;omega),CoP.refl _,CoP.refl _,trivial⟩) | (rw [decide_eq_false (by omega),if_neg (by omega)];exact ⟨CoP.refl _,CoP.refl _,CoP.refl _,CoP.refl _,trivial⟩))⟩,u9,u9,trivial⟩⟩
  · rintro _ _
    refine sx7 ?_;refine qy ?_;refine s9 ?_;refine a6 ?_;refine ab ?_
    refine aj (ι:=Nat × Nat) ⟨[(1,some _),(2,some _),(3,some _),(6,some _),(8,some _),(9,some _)],[(0,some _),(1,some _)]⟩ ⟨⟨c9,c9,c9,c9,c9,c9,trivial⟩,⟨u9,u9,trivial⟩⟩ (fun y=>⟨[],[(2,some (.box [.p (.raw (.bool (muK p k))), .p (.raw (.int .i64 (ixK p k:Int))), .p (.raw (.int .i64 (y.1:Int))), .p (.raw (.int .i64 (y.2:Int)))]))]⟩) (fun y=>y.1 ≤ l.length ∧ ∀ a',a' < y.1 → ∀ b',b' < l.length → gp l p m k a' b' = false) (fun y=>l.length - y.1) ((0,0)) (⟨Nat.zero_le _,cg⟩) ⟨trivial,⟨u9,trivial⟩⟩ ?_
    rintro y ⟨hy,hA⟩
    refine a7 ?_;refine sx7 ?_;(iterate 6 refine qy ?_);refine a6 ?_;refine a8 _ rfl (fun r2=>?_) (fun r2=>?_)
    ·
     have h2:=of_decide_eq_true r2
     try simp only [ty] at h2
     refine aa ?_;refine a7 ?_;refine ab ?_;refine sx7 ?_;refine qy ?_;refine s9 ?_;refine a6 ?_;refine ab ?_
     refine aj (ι:=Nat) ⟨[(1,some _),(2,some _),(3,some _),(6,some _),(8,some _),(9,some _)],[(0,some _),(1,some _)]⟩ ⟨⟨c9,c9,c9,c9,c9,c9,trivial⟩,⟨u9,u9,trivial⟩⟩ (fun b=>⟨[],[(2,some (.box [.p (.raw (.bool (muK p k))), .p (.raw (.int .i64 (ixK p k:Int))), .p (.raw (.int .i64 (y.1:Int))), .p (.raw (.int .i64 (b:Int)))]))]⟩) (fun b=>b ≤ l.length ∧ ∀ b',b' < b → gp l p m k y.1 b' = false) (fun b=>l.length - b) (0) (⟨Nat.zero_le _,cg⟩) ⟨trivial,⟨u9,trivial⟩⟩ ?_
     rintro b ⟨hb,hB⟩
     refine a7 ?_;refine sx7 ?_;(iterate 6 refine qy ?_);refine a6 ?_;refine a8 _ rfl (fun r3=>?_) (fun r3=>?_)
     ·
      have h3:=of_decide_eq_true r3
      try simp only [ty] at h3
      refine aa ?_;refine a7 ?_;refine ab ?_;refine sx7 ?_;(iterate 6 refine qy ?_);refine b4 rfl rfl (fun r4=>?_) (fun r4=>?_)
      ·
       have h4:=r4
       have h4:=of_decide_eq_false (av h4)
       try simp only [ty] at h4
       (iterate 4 refine qy ?_ (hg:=(gtt r4)));refine rc rfl rfl rfl rfl rfl rfl aw9 (cCh n l p m k y.1 b hT (by omega) (by omega) (by omega)) (CoL.refl _) rfl (gtt r4) ?_;refine qy ?_;refine a6 ?_
       refine a8 _ rfl (fun r5=>?_) (fun r5=>?_)
       ·
        have h5:=r5
        have h5:=df r4 h5
        refine sx7 ?_;refine qy ?_;refine s9 ?_;refine qy ?_;refine a6 ?_;refine ap ?_;refine ⟨.inr rfl, ?_⟩
        have he:=axj (wc (P:=gp l p m) (i:=k) (a:=y.1) (b:=b) (by omega) (by omega) (by omega) (axm (by omega) (by assumption)) hK hA hB)
        exact f9 rfl rfl (by rw [he];exact CoL.refl _)
       ·
        have h5:=r5
        have h5:=df r4 h5
        refine aa ?_;refine gy ?_;(iterate 4 refine qy ?_);refine s9 ?_;refine a6 ?_;refine ⟨b + 1, ?_, ?_, ?_⟩
        · exact ⟨by show b + 1 ≤ _;omega,br hB (by first | exact acm (by omega) | exact ab3 (by assumption))⟩
        · first | omega | (dsimp only;omega)
        · exact ⟨⟨c9,c9,c9,c9,c9,c9,trivial⟩,⟨u9,u9,u9,trivial⟩⟩
      ·
       have h4:=r4
       have h4:=of_decide_eq_true (aw h4)
       try simp only [ty] at h4
       (iterate 5 refine k9 (gft r4) ?_);refine rq rfl rfl rfl rfl rfl ?_ (hp:=r4);refine a6 ?_;refine a8 _ rfl (fun e=>by cases e) (fun _=>?_);refine aa ?_;refine gy ?_;(iterate 4 refine qy ?_)
       refine s9 ?_;refine a6 ?_;refine ⟨b + 1, ?_, ?_, ?_⟩
       · exact ⟨by show b + 1 ≤ _;omega,br hB (by first | exact acm (by omega) | exact ab3 (by assumption))⟩
       · first | omega | (dsimp only;omega)
       · exact ⟨⟨c9,c9,c9,c9,c9,c9,trivial⟩,⟨u9,u9,u9,trivial⟩⟩
     ·
      have h3:=of_decide_eq_false r3
      try simp only [ty] at h3
      refine ak ?_;refine gy ?_;(iterate 4 refine qy ?_);refine s9 ?_;refine a6 ?_;refine ⟨(y.1 + 1,b), ?_, ?_, ?_⟩
      · exact ⟨by show y.1 + 1 ≤ _;omega,br hA (fun b' hb'=>hB b' (by omega))⟩
      · first | omega | (dsimp only;omega)
      · exact ⟨⟨c9,c9,c9,c9,c9,c9,trivial⟩,⟨u9,u9,u9,trivial⟩⟩
    ·
     have h2:=of_decide_eq_false r2
     try simp only [ty] at h2
     refine ak ?_;refine gy ?_;(iterate 3 refine qy ?_);refine a6 ?_;refine ⟨k + 1, ?_, ?_, ?_⟩
     · exact ⟨by show k + 1 ≤ _;omega,br hK (fun a' ha'=>hA a' (by omega))⟩
     · first | omega | (dsimp only;omega)
     · exact ⟨⟨zy,c9,c9,c9,c9,trivial⟩,⟨u9,u9,trivial⟩⟩
 ·
  have h0:=of_decide_eq_false r0
  try simp only [ty] at h0
  refine ak ?_;refine sx7 ?_;refine qy ?_;refine s9 ?_;refine qy ?_;refine a6 ?_;refine ap ?_;refine ⟨.inr rfl, ?_⟩
  have he:=awx (wj (P:=gp l p m) (I:=p.length + m.length) (L:=l.length) fun j hj=>hK j (by omega))
  exact f9 rfl rfl (by rw [he];exact CoL.refl _)
end Go.Hx
end
section
namespace Go.Hx
theorem ua {α:Type} {f g:Nat → Option α}:∀ {ks:List Nat},(∀ k,k ∈ ks → f k = g k) → ks.findSome? f = ks.findSome? g
 | [],_=>rfl
 | k :: ks,h=>by
  have h1:=h k (by simp)
  have h2:=ua (ks:=ks) fun j hj=>h j (by simp [hj])
  simp only [List.findSome?_cons,h1,h2]
theorem a4d {p q:Nat → Bool}:∀ {ks:List Nat},(∀ k,k ∈ ks → p k = q k) → ks.find? p = ks.find? q
 | [],_=>rfl
 | k :: ks,h=>by
  have h1:=h k (by simp)
  have h2:=a4d (ks:=ks) fun j hj=>h j (by simp [hj])
  simp only [List.find?_cons,h1,h2]
theorem xv {s t:AS} {i:Nat}:c4 (s ||| t) (i:Int) = (c4 s (i:Int) || c4 t (i:Int)):=by
 by_cases h:i < 32
 · rw [cj h,cj h,cj h,BitVec.getLsbD_or]
 · rw [ui (by omega),ui (by omega),ui (by omega)]
   rfl
theorem aw6 {a b:Rw} {s t:AS} (hl:a.length = b.length) (h:j0 a b s = true):d5 a b t = d5 a b (s ||| t):=by
 have h:=of_decide_eq_true h
 unfold d5
 refine List.map_congr_left fun i hi=>?_
 have hi:=List.mem_range.1 hi
 rw [xv]
 by_cases h1:c4 s (i:Int) = true
 · have:=h i (by omega) h1
   rw [h1,Bool.true_or,if_pos rfl]
   split
   · rfl
   · exact this.symm
 · rw [Bool.eq_false_iff.2 h1,Bool.false_or]
theorem aq2 (a:Rw) (s:AS):d5 a a s = a:=by
 refine mq (ju a a s) fun j hj=>?_
 rw [ju] at hj
 unfold d5
 rw [List.getD_eq_getElem?_getD,List.getElem?_map,List.getElem?_range hj]
 show (if c4 s (j:Int) = true then a.getD j default else a.getD j default) = _
 split <;> rfl
theorem a5a {l:List Rw} {x:Fd} {a:Nat}:dx l x a a = false:=a4p (y8 fun _ _ _=>rfl)
theorem a5u {l:List Rw} {x:Fd} {a:Nat} (ha:a < l.length):ek l x a a = false:=by
 refine a4i ?_
 rw [aq2,List.any_eq_true]
 exact ⟨_,x9 ha,decide_eq_true rfl⟩
theorem as4 {n:Int} {l:List Rw} {x:Fd} {a b:Nat} (hT:tok n l = true) (ha:a < l.length) (hb:b < l.length):a1x l x a b = ek l x a b:=by
 obtain ⟨_,_,_,h3⟩:=go hT
 unfold a1x ek
 by_cases h:j0 (l.getD a default) (l.getD b default) x.lhs = true
 · rw [aw6 (by rw [h3 a ha,h3 b hb]) h]
 · rw [Bool.eq_false_iff.2 h];rfl
theorem axv {l:List Rw} {p m:List Fd} {k a b:Nat} (hk:k < p.length):gp l p m k a b = dx l (p.getD k default) a b:=by
 have e1:muK p k = false:=decide_eq_false (by omega)
 have e2:ixK p k = k:=if_neg (by omega)
 unfold gp
 rw [e1,e2]
 by_cases h:a = b
 · subst h;rw [a5a,decide_eq_false (fun e=>e rfl)];rfl
 · rw [decide_eq_true h];rfl
theorem axw {n:Int} {l:List Rw} {p m:List Fd} {k a b:Nat} (hT:tok n l = true) (ha:a < l.length) (hb:b < l.length):gp l p m (p.length + k) a b = ek l (m.getD k default) a b:=by
 have e1:muK p (p.length + k) = true:=decide_eq_true (by omega)
 have e2:ixK p (p.length + k) = k:=(if_pos (by omega)).trans (by omega)
 unfold gp
 rw [e1,e2]
 by_cases h:a = b
 · subst h;rw [a5u ha,decide_eq_false (fun e=>e rfl)];rfl
 · rw [decide_eq_true h,← as4 hT ha hb];rfl
theorem a4j {n:Int} {l:List Rw} {p m:List Fd} (hT:tok n l = true):vt l p m = dp l p m:=by
 have e1:(List.range p.length).findSome? (fun i=>(List.range l.length).findSome? fun a=>((List.range l.length).find? fun b=>gp l p m i a b).map fun b=>(i,a,b)) = eo (fun i a b=>dx l (p.getD i default) a b) p.length l.length :=
  ua fun i hi=>ua fun a _=>by rw [a4d fun b _=>axv (List.mem_range.1 hi)]
 have e2:(List.range m.length).findSome? (fun i=>(List.range l.length).findSome? fun a=>((List.range l.length).find? fun b=>gp l p m (p.length + i) a b).map fun b=>(p.length + i,a,b)) = (eo (fun i a b=>ek l (m.getD i default) a b) m.length l.length).map fun x=>(p.length + x.1,x.2):=by
  unfold eo
  rw [List.map_findSome?]
  refine ua fun i _=>?_
  show _ = Option.map _ ((List.range l.length).findSome? _)
  rw [List.map_findSome?]
  refine ua fun a ha=>?_
  rw [a4d fun b hb=>axw hT (List.mem_range.1 ha) (List.mem_range.1 hb)]
  show _ = Option.map _ (Option.map _ _)
  rw [Option.map_map]
  rfl
 have e:eo (gp l p m) (p.length + m.length) l.length = (eo (fun i a b=>dx l (p.getD i default) a b) p.length l.length).or ((eo (fun i a b=>ek l (m.getD i default) a b) m.length l.length).map fun x=>(p.length + x.1,x.2)):=by
  rw [← e1,← e2]
  unfold eo
  rw [List.range_add,List.findSome?_append,List.findSome?_map]
  rfl
 unfold vt dp
 rw [e]
 cases h:eo (fun i a b=>dx l (p.getD i default) a b) p.length l.length with
 | some x =>
  obtain ⟨i,a,b⟩:=x
  have hi:=(yn h).1
  show some (muK p i,ixK p i,a,b) = some (false,i,a,b)
  rw [show muK p i = false from decide_eq_false (by omega),show ixK p i = i from if_neg (by omega)]
 | none =>
  rw [Option.none_or]
  cases eo (fun i a b=>ek l (m.getD i default) a b) m.length l.length with
  | none=>rfl
  | some x =>
   obtain ⟨i,a,b⟩:=x
   show some (muK p (p.length + i),ixK p (p.length + i),a,b) = some (true,i,a,b)
   rw [show muK p (p.length + i) = true from decide_eq_true (by omega),show ixK p (p.length + i) = i from (if_pos (by omega)).trans (by omega)]
end Go.Hx
end
section
namespace Go.Hx
def ig (l:List Rw) (p m:List Fd) (mu:Bool) (i a b:Int):Prop:=a < 0 ∨ (l.length:Int) ≤ a ∨ b < 0 ∨ (l.length:Int) ≤ b ∨ a = b ∨ i < 0 ∨ (mu = true ∧ (m.length:Int) ≤ i) ∨ (mu = false ∧ (p.length:Int) ≤ i)
instance (l:List Rw) (p m:List Fd) (mu:Bool) (i a b:Int):Decidable (ig l p m mu i a b):=by unfold ig;infer_instance
def ji (n:Int) (l:List Rw) (p m:List Fd) (mu:Bool) (i a b:Int):Int × List Rw × Int :=
 if ckE n l p m = 0 then if ig l p m mu i a b then (0,[],1) else dn n l p m (mu,i.toNat,a.toNat,b.toNat) else (0,[],ckE n l p m)
section
variable {n:Int} {l:List Rw} {p m:List Fd} {mu:Bool} {i a b:Int}
theorem aay (h:tok n l = false):ji n l p m mu i a b = (0,[],1):=by
 have e:ckE n l p m = 1:=if_neg (by rw [h];decide)
 unfold ji
 rw [e]
 rfl
theorem aeh (h:tok n l = true) (h2:¬ c8 n p m = 0):ji n l p m mu i a b = (0,[],c8 n p m):=by
 have e:ckE n l p m = c8 n p m:=if_pos h
 unfold ji
 rw [e,if_neg h2]
theorem gc (h:tok n l = true) (h2:c8 n p m = 0) (h3:ig l p m mu i a b):ji n l p m mu i a b = (0,[],1):=by
 have e:ckE n l p m = c8 n p m:=if_pos h
 unfold ji
 rw [e,if_pos h2,if_pos h3]
theorem ym (h:tok n l = true) (h2:c8 n p m = 0) (h3:¬ ig l p m mu i a b):ji n l p m mu i a b = dn n l p m (mu,i.toNat,a.toNat,b.toNat):=by
 have e:ckE n l p m = c8 n p m:=if_pos h
 unfold ji
 rw [e,if_pos h2,if_neg h3]
end
end Go.Hx
end

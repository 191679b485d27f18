/- A part of the proof: X10 Ch7 X11 Ch8 X12 Ch9 X13 Ch10. -/
import Derived.Test.YtidophngianjiaaGreatDoorBx16
import Derived.Test.YtidophngianjiaaGreatDoorBx25
set_option linter.all false
section
namespace Go.Hx
open Go.Proofs
set_option maxRecDepth 100000
theorem aup:goodFn Tryz.prog 218:=⟨Tryz.f218,Tryz.func218,by kernel_rfl,by kernel_rfl⟩
theorem aug (n:Int) (l:List Rw) (s:AS) (a b:Nat) (hl:∀ i,i < l.length → (l.getD i default).length ≤ 17592186044416) (hl2:l.length ≤ 8589934592) (ha:a < l.length) (hb:b < l.length) (hs:∀ j,j ∈ az s → ∀ i,i < l.length → j < (l.getD i default).length):ai Tryz.prog 218 [pT n l,pA s,pI (a:Int),pI (b:Int)] (ao [pT n (ay (dj l (eqMs (c5 l) a b (az s))))]):=by
 refine ah (nt:=76) ae Tryz.func218 rfl rfl l9 ?_;refine sx7 ?_;refine m9 0 ?_;refine m9 1 ?_;refine a6 ?_;refine sx7 ?_;refine qy ?_
 refine cn rfl rfl rfl rfl rfl rfl a7z (aqe n l hl (by omega)) (fe.refl _) trivial rfl rfl ?_;refine m9 2 ?_;refine s9 ?_;refine a6 ?_;refine a7 ?_;refine sx7 ?_;refine qy ?_
 refine rc rfl rfl rfl rfl rfl rfl agn (azu s) (CoL.refl _) rfl rfl ?_;(iterate 2 refine qy ?_);refine a6 ?_;refine ab ?_
 refine aj (ι:=Nat) ⟨[(2,some _),(3,some _),(8,some _),(9,some _),(20,some _),(21,some _)],[(1,some _),(2,some _)]⟩ ⟨⟨c9,c9,c9,c9,c9,c9,trivial⟩,⟨u9,u9,trivial⟩⟩ (fun q=>⟨[(22,some (vI q))],[(901,some (.nest 121 3 1 l.length (fun i=>(l.getD i default).length) (mg (eqMs (c5 l) a b ((az s).take q))) none))]⟩) (fun q=>q ≤ (az s).length) (fun q=>(az s).length - q) (0) (Nat.zero_le _) ⟨⟨zy,trivial⟩,⟨u9,trivial⟩⟩ ?_
 rintro q hq
 have hm32:=aoc s
 refine sx7 ?_;refine qy ?_;refine a6 ?_;refine a7 ?_;refine a8 _ rfl (fun r0=>?_) (fun r0=>?_)
 ·
  have h0:=of_decide_eq_true r0
  try simp only [ty] at h0
  have hjm:((az s).getD q default) ∈ az s:=aq3 (by omega)
  have hja:=hs _ hjm a ha
  have hjb:=hs _ hjm b hb
  refine aa ?_;refine a7 ?_;refine ab ?_;refine sx7 ?_;(iterate 3 refine qy ?_);refine a6 ?_;refine a7 ?_
  refine ax (E:=bf) ae ar [0,1,2,3,4,5,6,7,8,9,10,11,12,13,14,15,16,17] ?_;(iterate 6 refine qy ?_)
  refine rq rfl rfl rfl rfl rfl ?_ (hp:=(by (try simp only [Int.toNat_natCast,nM]);(repeat' apply And.intro) <;> first | trivial | rfl | omega | exact Nat.le_of_ble_eq_true rfl));(iterate 7 refine qy ?_)
  refine rq rfl rfl rfl rfl rfl ?_ (hp:=(by (try simp only [Int.toNat_natCast,nM]);(repeat' apply And.intro) <;> first | trivial | rfl | omega | exact Nat.le_of_ble_eq_true rfl));(iterate 3 refine qy ?_);refine a6 ?_
  refine ⟨by kernel_rfl, ?_⟩;refine a7 ?_;refine sx7 ?_;(iterate 3 refine qy ?_);refine a6 ?_;refine a8 _ rfl (fun r1=>?_) (fun r1=>?_)
  ·
   have h1:=of_decide_eq_true r1
   try simp only [ty] at h1
   refine ak ?_;refine gy ?_;(iterate 2 refine qy ?_);refine a6 ?_
   first | (refine ⟨q + 1, ?_, ?_, ?_⟩
            · show q + 1 ≤ _;omega
            · first | omega | (dsimp only;omega)
            · exact ⟨⟨zy,c9,c9,c9,c9,c9,c9,trivial⟩,⟨⟨_,rfl,(by rw [vm (by omega),pn (by assumption)];exact CoO.refl _)⟩,u9,u9,trivial⟩⟩)
         | (refine ⟨q + 1, ?_, ?_, ?_⟩
            · show q + 1 ≤ _;omega
            · first | omega | (dsimp only;omega)
            · exact ⟨⟨zy,c9,c9,c9,c9,c9,c9,trivial⟩,⟨⟨_,rfl,(by rw [vm (by omega)];exact o0 (ux (by omega)))⟩,u9,u9,trivial⟩⟩)
  ·
   have h1:=of_decide_eq_false r1
   try simp only [ty] at h1
   refine aa ?_;refine sx7 ?_;(iterate 4 refine qy ?_);refine a6 ?_;refine ab ?_
   refine aj (ι:=Nat) ⟨[(2,some _),(3,some _),(8,some _),(9,some _),(12,some _),(13,some _),(20,some _),(21,some _),(22,some _),(46,some _),(47,some _)],[(1,some _),(2,some _)]⟩ ⟨⟨c9,c9,c9,c9,c9,c9,c9,c9,c9,c9,c9,trivial⟩,⟨u9,u9,trivial⟩⟩ (fun i=>⟨[(48,some (vI i))],[(901,some (.nest 121 3 1 l.length (fun i=>(l.getD i default).length) (mg (jr (eqMs (c5 l) a b ((az s).take q)) (hiI ((eqMs (c5 l) a b ((az s).take q)) a ((az s).getD q default)) ((eqMs (c5 l) a b ((az s).take q)) b ((az s).getD q default))) (loI ((eqMs (c5 l) a b ((az s).take q)) a ((az s).getD q default)) ((eqMs (c5 l) a b ((az s).take q)) b ((az s).getD q default))) i 0)) none))]⟩) (fun i=>i ≤ l.length) (fun i=>l.length - i) (0) (Nat.zero_le _) ⟨⟨zy,trivial⟩,⟨⟨_,rfl,(by rw [aa3];exact CoO.refl _)⟩,trivial⟩⟩ ?_
   rintro i hi
   refine sx7 ?_;refine qy ?_;refine a6 ?_;refine a7 ?_;refine a8 _ rfl (fun r2=>?_) (fun r2=>?_)
   ·
    have h2:=of_decide_eq_true r2
    try simp only [ty] at h2
    have hli:=hl i (by omega)
    refine aa ?_;refine a7 ?_;refine ab ?_;refine sx7 ?_;(iterate 3 refine qy ?_);refine a6 ?_;refine sx7 ?_;(iterate 3 refine qy ?_);refine a6 ?_;refine ab ?_
    refine aj (ι:=Nat) ⟨[(2,some _),(3,some _),(8,some _),(9,some _),(12,some _),(13,some _),(15,some _),(20,some _),(21,some _),(22,some _),(46,some _),(47,some _),(48,some _),(53,some _)],[(1,some _),(2,some _)]⟩ ⟨⟨c9,c9,c9,c9,c9,c9,c9,c9,c9,c9,c9,c9,c9,c9,trivial⟩,⟨u9,u9,trivial⟩⟩ (fun k=>⟨[(54,some (vI k))],[(901,some (.nest 121 3 1 l.length (fun i=>(l.getD i default).length) (mg (jr (eqMs (c5 l) a b ((az s).take q)) (hiI ((eqMs (c5 l) a b ((az s).take q)) a ((az s).getD q default)) ((eqMs (c5 l) a b ((az s).take q)) b ((az s).getD q default))) (loI ((eqMs (c5 l) a b ((az s).take q)) a ((az s).getD q default)) ((eqMs (c5 l) a b ((az s).take q)) b ((az s).getD q default))) i k)) none))]⟩) (fun k=>k ≤ (l.getD i default).length) (fun k=>(l.getD i default).length - k) (0) (Nat.zero_le _) ⟨⟨zy,trivial⟩,⟨u9,trivial⟩⟩ ?_
    rintro k hk
    refine sx7 ?_;refine qy ?_;refine a6 ?_;refine a7 ?_;refine a8 _ rfl (fun r3=>?_) (fun r3=>?_)
    ·
     have h3:=of_decide_eq_true r3
     try simp only [ty] at h3
     refine aa ?_;refine a7 ?_;refine ab ?_;refine sx7 ?_;(iterate 2 refine qy ?_);refine a6 ?_;refine sx7 ?_;(iterate 2 refine qy ?_)
     (iterate 2 refine rq rfl rfl rfl rfl rfl ?_ (hp:=(by (try simp only [Int.toNat_natCast,nM]);(repeat' apply And.intro) <;> first | trivial | rfl | omega | exact Nat.le_of_ble_eq_true rfl)));(iterate 4 refine qy ?_)
     refine a6 ?_;refine a8 _ rfl (fun r4=>?_) (fun r4=>?_)
     ·
      have h4:=of_decide_eq_true r4
      try simp only [ty] at h4
      refine gy ?_;(iterate 5 refine qy ?_);refine rq rfl rfl rfl rfl rfl ?_ (hp:=(by (try simp only [Int.toNat_natCast,nM]);(repeat' apply And.intro) <;> first | trivial | rfl | omega | exact Nat.le_of_ble_eq_true rfl))
      refine rs rfl rfl rfl rfl rfl ?_ (hp:=(by (try simp only [Int.toNat_natCast,nM]);(repeat' apply And.intro) <;> first | trivial | rfl | omega | exact Nat.le_of_ble_eq_true rfl));refine a6 ?_;refine gy ?_
      (iterate 2 refine qy ?_);refine a6 ?_;refine ⟨k + 1, ?_, ?_, ?_⟩
      · show k + 1 ≤ _;omega
      · first | omega | (dsimp only;omega)
      · exact ⟨⟨zy,c9,c9,c9,c9,c9,c9,c9,c9,c9,c9,c9,c9,c9,c9,trivial⟩,⟨⟨_,rfl,(by first | exact a2j (a68 (by assumption)) (by simp) (by simp) | (rw [a5v (by assumption)];exact CoO.refl _))⟩,u9,u9,trivial⟩⟩
     ·
      have h4:=of_decide_eq_false r4
      try simp only [ty] at h4
      refine aa ?_;refine gy ?_;(iterate 2 refine qy ?_);refine a6 ?_;refine ⟨k + 1, ?_, ?_, ?_⟩
      · show k + 1 ≤ _;omega
      · first | omega | (dsimp only;omega)
      · exact ⟨⟨zy,c9,c9,c9,c9,c9,c9,c9,c9,c9,c9,c9,c9,c9,c9,trivial⟩,⟨⟨_,rfl,(by first | exact a2j (a68 (by assumption)) (by simp) (by simp) | (rw [a5v (by assumption)];exact CoO.refl _))⟩,u9,u9,trivial⟩⟩
    ·
     have h3:=of_decide_eq_false r3
     try simp only [ty] at h3
     refine ak ?_;refine gy ?_;(iterate 2 refine qy ?_);refine a6 ?_;refine ⟨i + 1, ?_, ?_, ?_⟩
     · show i + 1 ≤ _;omega
     · first | omega | (dsimp only;omega)
     · exact ⟨⟨zy,c9,c9,c9,c9,c9,c9,c9,c9,c9,c9,c9,trivial⟩,⟨⟨_,rfl,(o0 (abs (by omega)))⟩,u9,u9,trivial⟩⟩
   ·
    have h2:=of_decide_eq_false r2
    try simp only [ty] at h2
    refine ak ?_;refine gy ?_;(iterate 2 refine qy ?_);refine a6 ?_
    first | (refine ⟨q + 1, ?_, ?_, ?_⟩
             · show q + 1 ≤ _;omega
             · first | omega | (dsimp only;omega)
             · exact ⟨⟨zy,c9,c9,c9,c9,c9,c9,trivial⟩,⟨⟨_,rfl,(by rw [vm (by omega),pn (by assumption)];exact CoO.refl _)⟩,u9,u9,trivial⟩⟩)
          | (refine ⟨q + 1, ?_, ?_, ?_⟩
             · show q + 1 ≤ _;omega
             · first | omega | (dsimp only;omega)
             · exact ⟨⟨zy,c9,c9,c9,c9,c9,c9,trivial⟩,⟨⟨_,rfl,(by rw [vm (by omega)];exact o0 (ux (by omega)))⟩,u9,u9,trivial⟩⟩)
 ·
  have h0:=of_decide_eq_false r0
  try simp only [ty] at h0
  obtain rfl:q = (az s).length:=by omega
  refine ak ?_;refine a7 ?_;refine agi 901 rfl ?_;refine gy ?_;refine qy ?_
  refine cn rfl rfl rfl rfl rfl rfl a83 ((a7p n (dj l (eqMs (c5 l) a b (az s))) (by rw [jn];omega)).swap 900 901) (⟨⟨CoP.refl _,congrArg (HV.ref 901) (jn _ _).symm,trivial⟩,trivial⟩) ⟨⟨_,rfl,(by rw [List.take_length];exact ag6 rfl)⟩,trivial⟩ rfl rfl ?_
  refine s9 ?_;refine a6 ?_
  exact hx8 rfl rfl rfl (CoL.refl _)
end Go.Hx
end
section
namespace Go.Hx
def qq (n:Int) (l:List Rw) (row:Rw):Int × List Rw × Int:=if 256 < (ay (l ++ [row])).length then (0,[],3) else (n,ay (l ++ [row]),0)
theorem bz {s:Nat} {f:Nat → Nat → PV}:CoP (.sl 0 s true f) (rl []):=CoP.sl rfl (.inr rfl) (fun h=>by cases h) fun i j hi _=>absurd hi (Nat.not_lt_zero i)
def fdE (n:Int) (l:List Rw) (a b:Nat) (x:Fd):Int × List Rw × Int:=if j0 (l.getD a default) (l.getD b default) x.lhs = true then (n,ay (dj l (eqMs (c5 l) a b (az x.rhs))),0) else (0,[],1)
def mvE (n:Int) (l:List Rw) (a b:Nat) (x:Fd):Int × List Rw × Int:=if j0 (l.getD a default) (l.getD b default) x.lhs = true then qq n l (d5 (l.getD a default) (l.getD b default) (x.lhs ||| x.rhs)) else (0,[],1)
theorem go {n:Int} {l:List Rw} (h:tok n l = true):0 ≤ n ∧ n ≤ 16 ∧ l.length ≤ 256 ∧ ∀ i,i < l.length → (l.getD i default).length = n.toNat:=by
 unfold tok at h
 rw [Bool.and_eq_true,decide_eq_true_iff,decide_eq_true_iff] at h
 obtain ⟨⟨h0,h1,h2⟩,h3⟩:=h
 refine ⟨h0,h1,h2,fun i hi=>?_⟩
 have:=h3 i hi
 unfold ll at this
 rw [Bool.and_eq_true,Bool.and_eq_true,decide_eq_true_iff] at this
 omega
theorem a1w {n:Int} (h0:0 ≤ n) (h1:n ≤ 16) {x:Fd} (h:inU n x = true) {j:Nat} (hj:j ∈ az x.rhs):j < n.toNat:=by
 obtain ⟨_,h3⟩:=(n7 h0 h1).1 h
 obtain ⟨h4,h5⟩:=jh.1 hj
 have h6:x.rhs >>> n.toNat = 0:=(mz (n:=n.toNat) (by omega)).1 (by unfold af at h3;rwa [Nat.min_eq_left (by omega)] at h3)
 rcases Nat.lt_or_ge j n.toNat with h | h
 · exact h
 · rw [b13.1 h6 j h4 h] at h5;cases h5
end Go.Hx
end
section
namespace Go.Hx
open Go.Proofs
set_option maxRecDepth 100000
theorem axe:goodFn Tryz.prog 219:=⟨Tryz.f219,Tryz.func219,by kernel_rfl,by kernel_rfl⟩
theorem b3h (n:Int) (l:List Rw) (row:Rw) (hl:∀ i,i < l.length → (l.getD i default).length ≤ 17592186044416) (hl2:l.length ≤ 4294967296):ai Tryz.prog 219 [pT n l,pZ row] (ao [pT (qq n l row).1 (qq n l row).2.1,pI (qq n l row).2.2]):=by
 refine ah (nt:=23) ae Tryz.func219 rfl rfl l9 ?_;refine sx7 ?_;refine m9 0 ?_;refine m9 1 ?_;refine qy ?_;refine a6 ?_;refine sx7 ?_;refine qy ?_
 refine cn rfl rfl rfl rfl rfl rfl a7z (agk n l hl (by omega)) (fe.refl _) trivial rfl rfl ?_;refine m9 2 ?_;refine s9 ?_;refine a6 ?_;refine sx7 ?_;(iterate 3 refine qy ?_);refine m9 3 ?_
 refine ra 4 true rfl rfl rfl rfl rfl rfl ?_;refine qy ?_;refine s9 ?_;refine a6 ?_;refine sx7 ?_;refine qy ?_
 refine cn rfl rfl rfl rfl rfl rfl a83 ((a7p n (l ++ [row]) (by simp;omega)).swap 900 901) (⟨⟨CoP.refl _,congrArg (HV.ref 901) (by simp),trivial⟩,trivial⟩) ⟨⟨_,rfl,cw rfl (CoP.refl _)⟩,trivial⟩ rfl rfl ?_
 refine s9 ?_;refine a6 ?_;refine a7 ?_;refine sx7 ?_;(iterate 4 refine qy ?_);refine a6 ?_;refine a8 _ rfl (fun r0=>?_) (fun r0=>?_)
 ·
  have h0:=of_decide_eq_true r0
  try simp only [ty] at h0
  refine sx7 ?_;refine qy ?_;refine s9 ?_;refine qy ?_;refine a6 ?_;refine ap ?_;refine ⟨.inr rfl, ?_⟩
  have he:qq n l row = (0,[],3):=if_pos (by omega)
  exact f9 rfl rfl (by rw [he];exact ⟨CoC.agg ⟨CoP.refl _,bz,trivial⟩,CoC.refl _,trivial⟩)
 ·
  have h0:=of_decide_eq_false r0
  try simp only [ty] at h0
  refine aa ?_;refine sx7 ?_;refine qy ?_;refine s9 ?_;refine qy ?_;refine a6 ?_;refine ap ?_;refine ⟨.inr rfl, ?_⟩
  have he:qq n l row = (n,ay (l ++ [row]),0):=if_neg (by omega)
  exact f9 rfl rfl (by rw [he];exact CoL.refl _)
theorem awj:goodFn Tryz.prog 183:=⟨Tryz.f183,Tryz.func183,by kernel_rfl,by kernel_rfl⟩
theorem axy (n:Int) (l:List Rw) (p m:List Fd) (i a b:Nat) (hT:tok n l = true) (ha:a < l.length) (hb:b < l.length) (hi:i < p.length) (hu:inU n (p.getD i default) = true):ai Tryz.prog 183 [pT n l,pP (fdl p),pP (fdl m), .agg [.raw (.bool false), .raw (.int .i64 (i:Int)), .raw (.int .i64 (a:Int)), .raw (.int .i64 (b:Int))]] (ao [pT (fdE n l a b (p.getD i default)).1 (fdE n l a b (p.getD i default)).2.1,pI (fdE n l a b (p.getD i default)).2.2]):=by
 refine ah (nt:=75) ae Tryz.func183 rfl rfl l9 ?_;refine a7 ?_
 obtain ⟨hn0,hn16,hl256,hrow⟩:=go hT
 have hra:=hrow a ha
 have hrb:=hrow b hb
 have hbig:∀ i,i < l.length → (l.getD i default).length ≤ 17592186044416:=fun i hi=>by rw [hrow i hi];omega
 refine gy ?_;refine m9 0 ?_;refine m9 1 ?_;refine m9 2 ?_;refine qy ?_;refine a6 ?_;refine a7 ?_;refine ax (E:=bf) ae ar [0,1,2,3,4,5,6,7,8,9,10,11,12,13] ?_
 (iterate 14 refine qy ?_);refine a6 ?_;refine ⟨by kernel_rfl, ?_⟩;refine a7 ?_;refine sx7 ?_;(iterate 3 refine qy ?_);refine a6 ?_;refine a8 _ rfl (fun _=>?_) (fun e=>by cases e);refine a7 ?_
 refine sx7 ?_;(iterate 8 refine qy ?_);refine rc rfl rfl rfl rfl rfl rfl xc (a0n (l.getD a default) (l.getD b default) (p.getD i default).lhs (by omega) (by omega)) (CoL.refl _) rfl rfl ?_;refine qy ?_;refine a6 ?_
 refine a8 _ rfl (fun r0=>?_) (fun r0=>?_)
 ·
  have h0:=r0
  have h0:=av h0
  refine sx7 ?_;refine qy ?_;refine s9 ?_;refine qy ?_;refine a6 ?_;refine ap ?_;refine ⟨.inr rfl, ?_⟩
  have he:fdE n l a b (p.getD i default) = (0,[],1):=if_neg (by simp_all)
  exact f9 rfl rfl (by rw [he];exact ⟨CoC.agg ⟨CoP.refl _,bz,trivial⟩,CoC.refl _,trivial⟩)
 ·
  have h0:=r0
  have h0:=aw h0
  refine aa ?_;refine a7 ?_;refine ax (E:=bf) ae ar [0,1,2,3,4,5,6,7,8,9,10,11,12,13] ?_;(iterate 11 refine qy ?_)
  refine rc rfl rfl rfl rfl rfl rfl aup (aug n l (p.getD i default).rhs a b hbig (by omega) ha hb (fun j hj i hi=>by rw [hrow i hi];exact a1w hn0 hn16 hu hj)) (CoL.refl _) rfl rfl ?_;refine s9 ?_;refine qy ?_
  refine a6 ?_;refine ⟨by kernel_rfl, ?_⟩;refine ap ?_;refine ⟨.inr rfl, ?_⟩
  have he:fdE n l a b (p.getD i default) = (n,ay (dj l (eqMs (c5 l) a b (az (p.getD i default).rhs))),0):=if_pos (by simp_all)
  exact f9 rfl rfl (by rw [he];exact CoL.refl _)
theorem avb (n:Int) (l:List Rw) (p m:List Fd) (i a b:Nat) (hT:tok n l = true) (ha:a < l.length) (hb:b < l.length) (hi:i < m.length):ai Tryz.prog 183 [pT n l,pP (fdl p),pP (fdl m), .agg [.raw (.bool true), .raw (.int .i64 (i:Int)), .raw (.int .i64 (a:Int)), .raw (.int .i64 (b:Int))]] (ao [pT (mvE n l a b (m.getD i default)).1 (mvE n l a b (m.getD i default)).2.1,pI (mvE n l a b (m.getD i default)).2.2]):=by
 refine ah (nt:=75) ae Tryz.func183 rfl rfl l9 ?_;refine a7 ?_
 obtain ⟨hn0,hn16,hl256,hrow⟩:=go hT
 have hra:=hrow a ha
 have hrb:=hrow b hb
 have hbig:∀ i,i < l.length → (l.getD i default).length ≤ 17592186044416:=fun i hi=>by rw [hrow i hi];omega
 refine gy ?_;refine m9 0 ?_;refine m9 1 ?_;refine m9 2 ?_;refine qy ?_;refine a6 ?_;refine a7 ?_;refine ax (E:=bf) ae ar [0,1,2,3,4,5,6,7,8,9,10,11,12,13] ?_
 (iterate 14 refine qy ?_);refine a6 ?_;refine ⟨by kernel_rfl, ?_⟩;refine a7 ?_;refine sx7 ?_;(iterate 3 refine qy ?_);refine a6 ?_;refine a8 _ rfl (fun e=>by cases e) (fun _=>?_);refine aa ?_
 refine sx7 ?_;(iterate 5 refine qy ?_);refine m9 3 ?_;refine s9 ?_;refine a6 ?_;refine a7 ?_;refine sx7 ?_;(iterate 4 refine qy ?_)
 refine rc rfl rfl rfl rfl rfl rfl xc (a0n (l.getD a default) (l.getD b default) (m.getD i default).lhs (by omega) (by omega)) (CoL.refl _) rfl rfl ?_;refine qy ?_;refine a6 ?_
 refine a8 _ rfl (fun r0=>?_) (fun r0=>?_)
 ·
  have h0:=r0
  have h0:=av h0
  refine sx7 ?_;refine qy ?_;refine s9 ?_;refine qy ?_;refine a6 ?_;refine ap ?_;refine ⟨.inr rfl, ?_⟩
  have he:mvE n l a b (m.getD i default) = (0,[],1):=if_neg (by simp_all)
  exact f9 rfl rfl (by rw [he];exact ⟨CoC.agg ⟨CoP.refl _,bz,trivial⟩,CoC.refl _,trivial⟩)
 ·
  have h0:=r0
  have h0:=aw h0
  refine aa ?_;refine a7 ?_;refine ax (E:=bf) ae ar [0,1,2,3,4,5,6,7,8,9,10,11,12,13] ?_;(iterate 8 refine qy ?_)
  refine rc rfl rfl rfl rfl rfl rfl agy (anc (l.getD a default) (l.getD b default) ((m.getD i default).lhs ||| (m.getD i default).rhs) (by omega) (by omega)) (⟨CoC.refl _,CoC.refl _,cci (by rw [bOr];rfl),trivial⟩) rfl rfl ?_
  refine rc rfl rfl rfl rfl rfl rfl axe (b3h n l (d5 (l.getD a default) (l.getD b default) ((m.getD i default).lhs ||| (m.getD i default).rhs)) hbig (by omega)) (CoL.refl _) rfl rfl ?_;(iterate 2 refine qy ?_)
  refine s9 ?_;refine qy ?_;refine a6 ?_;refine ⟨by kernel_rfl, ?_⟩;refine ap ?_;refine ⟨.inr rfl, ?_⟩
  have he:mvE n l a b (m.getD i default) = qq n l (d5 (l.getD a default) (l.getD b default) ((m.getD i default).lhs ||| (m.getD i default).rhs)):=if_pos (by simp_all)
  exact f9 rfl rfl (by rw [he];exact CoL.refl _)
end Go.Hx
end
section
namespace Go.Hx
def eo (P:Nat → Nat → Nat → Bool) (I L:Nat):Option (Nat × Nat × Nat) :=
 (List.range I).findSome? fun i=>(List.range L).findSome? fun a=>((List.range L).find? fun b=>P i a b).map fun b=>(i,a,b)
theorem a7x {α:Type} {f:Nat → Option α}:∀ {n k:Nat} {x:α},k < n → f k = some x → (∀ j,j < k → f j = none) → (List.range n).findSome? f = some x
 | n + 1,k,x,hk,h,hb=>by
  rw [List.range_succ,List.findSome?_append]
  by_cases e:k < n
  · rw [a7x e h hb];rfl
  · obtain rfl:k = n:=by omega
    have:(List.range k).findSome? f = none:=by
     rw [List.findSome?_eq_none_iff]
     intro j hj
     exact hb j (List.mem_range.1 hj)
    rw [this]
    simp [h]
theorem a7q {α:Type} {f:Nat → Option α} {n:Nat} (h:∀ j,j < n → f j = none):(List.range n).findSome? f = none:=by
 rw [List.findSome?_eq_none_iff]
 intro j hj
 exact h j (List.mem_range.1 hj)
theorem a2f {p:Nat → Bool} {n:Nat} (h:∀ j,j < n → p j = false):(List.range n).find? p = none:=by
 rw [List.find?_eq_none]
 intro j hj
 rw [h j (List.mem_range.1 hj)]
 decide
theorem avd {p:Nat → Bool} {n k:Nat} (hk:k < n) (h:p k = true) (hb:∀ j,j < k → p j = false):(List.range n).find? p = some k:=by
 induction n with
 | zero=>omega
 | succ n ih =>
  rw [List.range_succ,List.find?_append]
  by_cases e:k < n
  · rw [ih e];rfl
  · obtain rfl:k = n:=by omega
    rw [a2f hb]
    simp [h]
theorem wc {P:Nat → Nat → Nat → Bool} {I L i a b:Nat} (hi:i < I) (ha:a < L) (hb:b < L) (h:P i a b = true) (h1:∀ i',i' < i → ∀ a',a' < L → ∀ b',b' < L → P i' a' b' = false) (h2:∀ a',a' < a → ∀ b',b' < L → P i a' b' = false) (h3:∀ b',b' < b → P i a b' = false) :
 eo P I L = some (i,a,b):=by
 refine a7x hi ?_ fun j hj=>a7q fun a' ha'=>by rw [a2f fun b' hb'=>h1 j hj a' ha' b' hb'];rfl
 refine a7x ha ?_ fun a' ha'=>by rw [a2f fun b' hb'=>h2 a' ha' b' hb'];rfl
 rw [avd hb h h3]
 rfl
theorem wj {P:Nat → Nat → Nat → Bool} {I L:Nat} (h:∀ i',i' < I → ∀ a',a' < L → ∀ b',b' < L → P i' a' b' = false):eo P I L = none :=
 a7q fun i hi=>a7q fun a ha=>by rw [a2f fun b hb=>h i hi a ha b hb];rfl
def dx (l:List Rw) (x:Fd) (a b:Nat):Bool:=j0 (l.getD a default) (l.getD b default) x.lhs && !j0 (l.getD a default) (l.getD b default) x.rhs
def ek (l:List Rw) (x:Fd) (a b:Nat):Bool:=j0 (l.getD a default) (l.getD b default) x.lhs && !(l.any fun r=>decide (r = d5 (l.getD a default) (l.getD b default) (x.lhs ||| x.rhs)))
section
variable {l:List Rw} {x:Fd} {a b:Nat}
theorem awz (h:j0 (l.getD a default) (l.getD b default) x.lhs = true) (h2:j0 (l.getD a default) (l.getD b default) x.rhs = false):dx l x a b = true:=by unfold dx;rw [h,h2];rfl
theorem ye (h:j0 (l.getD a default) (l.getD b default) x.lhs = false):dx l x a b = false:=by unfold dx;rw [h];rfl
theorem a4p (h:j0 (l.getD a default) (l.getD b default) x.rhs = true):dx l x a b = false:=by unfold dx;rw [h];simp
theorem ax8 (h:j0 (l.getD a default) (l.getD b default) x.lhs = true) (h2:(l.any fun r=>decide (r = d5 (l.getD a default) (l.getD b default) (x.lhs ||| x.rhs))) = false):ek l x a b = true:=by unfold ek;rw [h,h2];rfl
theorem abw (h:j0 (l.getD a default) (l.getD b default) x.lhs = false):ek l x a b = false:=by unfold ek;rw [h];rfl
theorem a4i (h:(l.any fun r=>decide (r = d5 (l.getD a default) (l.getD b default) (x.lhs ||| x.rhs))) = true):ek l x a b = false:=by unfold ek;rw [h];simp
end
abbrev St:=Bool × Nat × Nat × Nat
abbrev St.pc (s:St):PC:=.agg [.raw (.bool s.1), .raw (.int .i64 (s.2.1:Int)), .raw (.int .i64 (s.2.2.1:Int)), .raw (.int .i64 (s.2.2.2:Int))]
def dp (l:List Rw) (p m:List Fd):Option St :=
 match eo (fun i a b=>dx l (p.getD i default) a b) p.length l.length with
 | some x=>some (false,x)
 | none=>(eo (fun i a b=>ek l (m.getD i default) a b) m.length l.length).map fun x=>(true,x)
theorem avm {l:List Rw} {p m:List Fd} {x:Nat × Nat × Nat} (h:eo (fun i a b=>dx l (p.getD i default) a b) p.length l.length = some x):dp l p m = some (false,x):=by unfold dp;rw [h]
theorem ax4 {l:List Rw} {p m:List Fd} {x:Nat × Nat × Nat} (h0:eo (fun i a b=>dx l (p.getD i default) a b) p.length l.length = none) (h:eo (fun i a b=>ek l (m.getD i default) a b) m.length l.length = some x):dp l p m = some (true,x):=by unfold dp;rw [h0,h];rfl
theorem av7 {l:List Rw} {p m:List Fd} (h0:eo (fun i a b=>dx l (p.getD i default) a b) p.length l.length = none) (h:eo (fun i a b=>ek l (m.getD i default) a b) m.length l.length = none):dp l p m = none:=by unfold dp;rw [h0,h];rfl
end Go.Hx
end
section
namespace Go.Hx
open Go.Proofs
set_option maxRecDepth 100000
set_option maxHeartbeats 1000000
theorem avc:goodFn Tryz.prog 182:=⟨Tryz.f182,Tryz.func182,by kernel_rfl,by kernel_rfl⟩
theorem b07 (n:Int) (l:List Rw) (p m:List Fd) (hT:tok n l = true):ai Tryz.prog 182 [pT n l,pP (fdl p),pP (fdl m)] (ao [St.pc ((dp l p m).getD (false,0,0,0)),pB (dp l p m).isSome]):=by
 refine ah (nt:=132) ae Tryz.func182 rfl rfl l9 ?_;refine a7 ?_
 obtain ⟨hn0,hn16,hl256,hrow⟩:=go hT
 refine d9 1 rfl fun hn1=>?_
 refine d9 2 rfl fun hn2=>?_
 refine gy ?_;refine m9 0 ?_;refine m9 1 ?_;refine qy ?_;refine a6 ?_;refine a7 ?_;refine sx7 ?_;(iterate 3 refine qy ?_);refine a6 ?_;refine ab ?_
 refine aj (ι:=Nat) ⟨[(2,some _),(3,some _),(6,some _),(16,some _),(17,some _)],[(0,some _),(1,some _)]⟩ ⟨⟨c9,c9,c9,c9,c9,trivial⟩,⟨u9,u9,trivial⟩⟩ (fun i=>⟨[(18,some (vI i))],[]⟩) (fun i=>i ≤ p.length ∧ (∀ i',i' < i → ∀ a',a' < l.length → ∀ b',b' < l.length → dx l (p.getD i' default) a' b' = false)) (fun i=>p.length - i) (0) (⟨Nat.zero_le _,cg⟩) ⟨⟨zy,trivial⟩,trivial⟩ ?_
 rintro i ⟨hi,hI⟩
 refine sx7 ?_;refine qy ?_;refine a6 ?_;refine a7 ?_;refine a8 _ rfl (fun r0=>?_) (fun r0=>?_)
 ·
  have h0:=of_decide_eq_true r0
  try simp only [ty] at h0
  refine aa ?_;refine a7 ?_;refine ab ?_;refine sx7 ?_;(iterate 3 refine qy ?_);refine m9 2 ?_;refine qy ?_;refine s9 ?_;refine a6 ?_;refine sx7 ?_;(iterate 4 refine qy ?_);refine a6 ?_
  refine ab ?_
  refine aj (ι:=Nat) ⟨[(2,some _),(3,some _),(6,some _),(8,some _),(9,some _),(16,some _),(17,some _),(18,some _),(25,some _)],[(0,some _),(1,some _),(2,some _)]⟩ ⟨⟨c9,c9,c9,c9,c9,c9,c9,c9,c9,trivial⟩,⟨u9,u9,u9,trivial⟩⟩ (fun a=>⟨[(26,some (vI a))],[]⟩) (fun a=>a ≤ l.length ∧ (∀ a',a' < a → ∀ b',b' < l.length → dx l (p.getD i default) a' b' = false)) (fun a=>l.length - a) (0) (⟨Nat.zero_le _,cg⟩) ⟨⟨zy,trivial⟩,trivial⟩ ?_
  rintro a ⟨ha,hA⟩
  refine sx7 ?_;refine qy ?_;refine a6 ?_;refine a7 ?_;refine a8 _ rfl (fun r1=>?_) (fun r1=>?_)
  ·
   have h1:=of_decide_eq_true r1
   try simp only [ty] at h1
   refine aa ?_;refine a7 ?_;refine ab ?_;refine sx7 ?_;(iterate 2 refine qy ?_);refine a6 ?_;refine sx7 ?_;(iterate 4 refine qy ?_);refine a6 ?_;refine ab ?_
   refine aj (ι:=Nat) ⟨[(2,some _),(3,some _),(6,some _),(8,some _),(9,some _),(10,some _),(16,some _),(17,some _),(18,some _),(25,some _),(26,some _),(31,some _)],[(0,some _),(1,some _),(2,some _)]⟩ ⟨⟨c9,c9,c9,c9,c9,c9,c9,c9,c9,c9,c9,c9,trivial⟩,⟨u9,u9,u9,trivial⟩⟩ (fun b=>⟨[(32,some (vI b))],[]⟩) (fun b=>b ≤ l.length ∧ (∀ b',b' < b → dx l (p.getD i default) a b' = false)) (fun b=>l.length - b) (0) (⟨Nat.zero_le _,cg⟩) ⟨⟨zy,trivial⟩,trivial⟩ ?_
   rintro b ⟨hb,hB⟩
   refine sx7 ?_;refine qy ?_;refine a6 ?_;refine a7 ?_;refine a8 _ rfl (fun r2=>?_) (fun r2=>?_)
   ·
    have h2:=of_decide_eq_true r2
    try simp only [ty] at h2
    refine aa ?_;refine a7 ?_;refine ab ?_;refine sx7 ?_;(iterate 2 refine qy ?_);refine a6 ?_;refine a7 ?_
    refine ax (E:=bf) ae ar [0,1,2,3,4,5,6,7,8,9,10,11,12,13,14,15,16,17,18,19,20,21,22,23,24,25,26,27,28] ?_;(iterate 12 refine qy ?_)
    refine rc rfl rfl rfl rfl rfl rfl xc (a0n (l.getD a default) (l.getD b default) (p.getD i default).lhs (by rw [hrow _ (by omega),hrow _ (by omega)]) (by rw [hrow _ (by omega)];omega)) (CoL.refl _) rfl rfl ?_
    refine qy ?_;refine b4 rfl rfl (fun r3=>?_) (fun r3=>?_)
    ·
     have h3:=r3
     (iterate 12 refine qy ?_ (hg:=(gtt r3)))
     refine rc rfl rfl rfl rfl rfl rfl xc (a0n (l.getD a default) (l.getD b default) (p.getD i default).rhs (by rw [hrow _ (by omega),hrow _ (by omega)]) (by rw [hrow _ (by omega)];omega)) (CoL.refl _) rfl (gtt r3) ?_
     refine qy ?_ (hg:=(gtt r3));refine qy ?_;refine a6 ?_;refine ⟨by kernel_rfl, ?_⟩;refine a8 _ rfl (fun r4=>?_) (fun r4=>?_)
     ·
      have h4:=r4
      have h4:=df r3 h4
      have h4:=av h4
      refine sx7 ?_;(iterate 4 refine qy ?_);refine s9 ?_;refine qy ?_;refine a6 ?_;refine ap ?_;refine ⟨.inr rfl, ?_⟩
      have he:=avm (m:=m) (wc (P:=fun i a b=>dx l (p.getD i default) a b) (i:=i) (a:=a) (b:=b) (by omega) (by omega) (by omega) (awz (by assumption) (by assumption)) hI hA hB)
      exact f9 rfl rfl (by rw [he];exact CoL.refl _)
     ·
      have h4:=r4
      have h4:=df r3 h4
      have h4:=aw h4
      refine aa ?_;refine gy ?_;(iterate 2 refine qy ?_);refine a6 ?_;refine ⟨b + 1, ?_, ?_, ?_⟩
      · exact ⟨by show b + 1 ≤ _;omega,br hB (by first | exact ye (by assumption) | exact a4p (by assumption))⟩
      · first | omega | (dsimp only;omega)
      · exact ⟨⟨zy,c9,c9,c9,c9,c9,c9,c9,c9,c9,c9,c9,c9,trivial⟩,⟨u9,u9,u9,trivial⟩⟩
    ·
     have h3:=r3
     (iterate 14 refine k9 (gft r3) ?_);refine rq rfl rfl rfl rfl rfl ?_ (hp:=r3);refine a6 ?_;refine ⟨by kernel_rfl, ?_⟩;refine a8 _ rfl (fun e=>by cases e) (fun _=>?_);refine aa ?_;refine gy ?_
     (iterate 2 refine qy ?_);refine a6 ?_;refine ⟨b + 1, ?_, ?_, ?_⟩
     · exact ⟨by show b + 1 ≤ _;omega,br hB (by first | exact ye (by assumption) | exact a4p (by assumption))⟩
     · first | omega | (dsimp only;omega)
     · exact ⟨⟨zy,c9,c9,c9,c9,c9,c9,c9,c9,c9,c9,c9,c9,trivial⟩,⟨u9,u9,u9,trivial⟩⟩
   ·
    have h2:=of_decide_eq_false r2
    try simp only [ty] at h2
    refine ak ?_;refine gy ?_;(iterate 2 refine qy ?_);refine a6 ?_;refine ⟨a + 1, ?_, ?_, ?_⟩
    · exact ⟨by show a + 1 ≤ _;omega,br hA (fun b' hb'=>hB b' (by omega))⟩
    · first | omega | (dsimp only;omega)
    · exact ⟨⟨zy,c9,c9,c9,c9,c9,c9,c9,c9,c9,trivial⟩,⟨u9,u9,u9,trivial⟩⟩
  ·
   have h1:=of_decide_eq_false r1
   try simp only [ty] at h1
   refine ak ?_;refine gy ?_;(iterate 2 refine qy ?_);refine a6 ?_;refine ⟨i + 1, ?_, ?_, ?_⟩
   · exact ⟨by show i + 1 ≤ _;omega,br hI (fun a' ha'=>hA a' (by omega))⟩
   · first | omega | (dsimp only;omega)
   · exact ⟨⟨zy,c9,c9,c9,c9,c9,trivial⟩,⟨u9,u9,trivial⟩⟩
 ·
  have h0:=of_decide_eq_false r0
  try simp only [ty] at h0
  obtain rfl:i = p.length:=by omega
  have hno:=wj (P:=fun i a b=>dx l (p.getD i default) a b) (I:=p.length) (L:=l.length) hI
  refine ak ?_;refine a7 ?_;refine sx7 ?_;(iterate 3 refine qy ?_);refine a6 ?_;refine ab ?_
  refine aj (ι:=Nat) ⟨[(3,some _),(6,some _),(71,some _),(72,some _)],[(0,some _),(1,some _)]⟩ ⟨⟨c9,c9,c9,c9,trivial⟩,⟨u9,u9,trivial⟩⟩ (fun k=>⟨[(73,some (vI k))],[]⟩) (fun k=>k ≤ m.length ∧ (∀ i',i' < k → ∀ a',a' < l.length → ∀ b',b' < l.length → ek l (m.getD i' default) a' b' = false)) (fun k=>m.length - k) (0) (⟨Nat.zero_le _,cg⟩) ⟨⟨zy,trivial⟩,trivial⟩ ?_
  rintro k ⟨hk,hK⟩
  refine sx7 ?_;refine qy ?_;refine a6 ?_;refine a7 ?_;refine a8 _ rfl (fun r5=>?_) (fun r5=>?_)
  ·
   have h5:=of_decide_eq_true r5
   try simp only [ty] at h5
   refine aa ?_;refine a7 ?_;refine ab ?_;refine sx7 ?_;(iterate 3 refine qy ?_);refine m9 3 ?_;refine qy ?_;refine s9 ?_;refine a6 ?_;refine sx7 ?_;(iterate 4 refine qy ?_);refine a6 ?_
   refine ab ?_
   refine aj (ι:=Nat) ⟨[(3,some _),(6,some _),(12,some _),(13,some _),(71,some _),(72,some _),(73,some _),(80,some _)],[(0,some _),(1,some _),(3,some _)]⟩ ⟨⟨c9,c9,c9,c9,c9,c9,c9,c9,trivial⟩,⟨u9,u9,u9,trivial⟩⟩ (fun c=>⟨[(81,some (vI c))],[]⟩) (fun c=>c ≤ l.length ∧ (∀ a',a' < c → ∀ b',b' < l.length → ek l (m.getD k default) a' b' = false)) (fun c=>l.length - c) (0) (⟨Nat.zero_le _,cg⟩) ⟨⟨zy,trivial⟩,trivial⟩ ?_
   rintro c ⟨hc,hC⟩
   refine sx7 ?_;refine qy ?_;refine a6 ?_;refine a7 ?_;refine a8 _ rfl (fun r6=>?_) (fun r6=>?_)
   ·
    have h6:=of_decide_eq_true r6
    try simp only [ty] at h6
    refine aa ?_;refine a7 ?_;refine ab ?_;refine sx7 ?_;(iterate 2 refine qy ?_);refine a6 ?_;refine sx7 ?_;(iterate 4 refine qy ?_);refine a6 ?_;refine ab ?_
    refine aj (ι:=Nat) ⟨[(3,some _),(6,some _),(12,some _),(13,some _),(14,some _),(71,some _),(72,some _),(73,some _),(80,some _),(81,some _),(86,some _)],[(0,some _),(1,some _),(3,some _)]⟩ ⟨⟨c9,c9,c9,c9,c9,c9,c9,c9,c9,c9,c9,trivial⟩,⟨u9,u9,u9,trivial⟩⟩ (fun d=>⟨[(87,some (vI d))],[]⟩) (fun d=>d ≤ l.length ∧ (∀ b',b' < d → ek l (m.getD k default) c b' = false)) (fun d=>l.length - d) (0) (⟨Nat.zero_le _,cg⟩) ⟨⟨zy,trivial⟩,trivial⟩ ?_
    rintro d ⟨hd,hD⟩
    refine sx7 ?_;refine qy ?_;refine a6 ?_;refine a7 ?_;refine a8 _ rfl (fun r7=>?_) (fun r7=>?_)
    ·
     have h7:=of_decide_eq_true r7
     try simp only [ty] at h7
     refine aa ?_;refine a7 ?_;refine ab ?_;refine sx7 ?_;(iterate 2 refine qy ?_);refine a6 ?_;refine a7 ?_
     refine ax (E:=bf) ae ar [0,1,2,3,4,5,6,7,8,9,10,11,12,13,14,15,16,17,18,19,20,21,22,23,24,25,26,27,28,29,30,31,32,33] ?_;(iterate 12 refine qy ?_)
     refine rc rfl rfl rfl rfl rfl rfl xc (a0n (l.getD c default) (l.getD d default) (m.getD k default).lhs (by rw [hrow _ (by omega),hrow _ (by omega)]) (by rw [hrow _ (by omega)];omega)) (CoL.refl _) rfl rfl ?_
     refine qy ?_;refine b4 rfl rfl (fun r8=>?_) (fun r8=>?_)
     ·
      have h8:=r8
      (iterate 16 refine qy ?_ (hg:=(gtt r8)))
      refine rc rfl rfl rfl rfl rfl rfl agy (anc (l.getD c default) (l.getD d default) ((m.getD k default).lhs ||| (m.getD k default).rhs) (by rw [hrow _ (by omega),hrow _ (by omega)]) (by rw [hrow _ (by omega)];omega)) (⟨CoC.refl _,CoC.refl _,cci (by rw [bOr];rfl),trivial⟩) rfl (gtt r8) ?_
      refine rc rfl rfl rfl rfl rfl rfl aln (asw n l (d5 (l.getD c default) (l.getD d default) ((m.getD k default).lhs ||| (m.getD k default).rhs))) (CoL.refl _) rfl (gtt r8) ?_;refine qy ?_ (hg:=(gtt r8))
      refine qy ?_;refine a6 ?_;refine ⟨by kernel_rfl, ?_⟩;refine a8 _ rfl (fun r9=>?_) (fun r9=>?_)
      ·
       have h9:=r9
       have h9:=df r8 h9
       have h9:=av h9
       refine sx7 ?_;(iterate 4 refine qy ?_);refine s9 ?_;refine qy ?_;refine a6 ?_;refine ap ?_;refine ⟨.inr rfl, ?_⟩
       have he:=ax4 hno (wc (P:=fun i a b=>ek l (m.getD i default) a b) (i:=k) (a:=c) (b:=d) (by omega) (by omega) (by omega) (ax8 (by assumption) (by assumption)) hK hC hD)
       exact f9 rfl rfl (by rw [he];exact CoL.refl _)
      ·
       have h9:=r9
       have h9:=df r8 h9
       have h9:=aw h9
       refine aa ?_;refine gy ?_;(iterate 2 refine qy ?_);refine a6 ?_;refine ⟨d + 1, ?_, ?_, ?_⟩
       · exact ⟨by show d + 1 ≤ _;omega,br hD (by first | exact abw (by assumption) | exact a4i (by assumption))⟩
       · first | omega | (dsimp only;omega)
       · exact ⟨⟨zy,c9,c9,c9,c9,c9,c9,c9,c9,c9,c9,c9,trivial⟩,⟨u9,u9,u9,trivial⟩⟩
     ·
      have h8:=r8
      (iterate 19 refine k9 (gft r8) ?_);refine rq rfl rfl rfl rfl rfl ?_ (hp:=r8);refine a6 ?_;refine ⟨by kernel_rfl, ?_⟩;refine a8 _ rfl (fun e=>by cases e) (fun _=>?_);refine aa ?_;refine gy ?_
      (iterate 2 refine qy ?_);refine a6 ?_;refine ⟨d + 1, ?_, ?_, ?_⟩
      · exact ⟨by show d + 1 ≤ _;omega,br hD (by first | exact abw (by assumption) | exact a4i (by assumption))⟩
      · first | omega | (dsimp only;omega)
      · exact ⟨⟨zy,c9,c9,c9,c9,c9,c9,c9,c9,c9,c9,c9,trivial⟩,⟨u9,u9,u9,trivial⟩⟩
    ·
     have h7:=of_decide_eq_false r7
     try simp only [ty] at h7
     refine ak ?_;refine gy ?_;(iterate 2 refine qy ?_);refine a6 ?_;refine ⟨c + 1, ?_, ?_, ?_⟩
     · exact ⟨by show c + 1 ≤ _;omega,br hC (fun b' hb'=>hD b' (by omega))⟩
     · first | omega | (dsimp only;omega)
     · exact ⟨⟨zy,c9,c9,c9,c9,c9,c9,c9,c9,trivial⟩,⟨u9,u9,u9,trivial⟩⟩
   ·
    have h6:=of_decide_eq_false r6
    try simp only [ty] at h6
    refine ak ?_;refine gy ?_;(iterate 2 refine qy ?_);refine a6 ?_;refine ⟨k + 1, ?_, ?_, ?_⟩
    · exact ⟨by show k + 1 ≤ _;omega,br hK (fun a' ha'=>hC a' (by omega))⟩
    · first | omega | (dsimp only;omega)
    · exact ⟨⟨zy,c9,c9,c9,c9,trivial⟩,⟨u9,u9,trivial⟩⟩
  ·
   have h5:=of_decide_eq_false r5
   try simp only [ty] at h5
   refine ak ?_;refine sx7 ?_;refine qy ?_;refine s9 ?_;refine qy ?_;refine a6 ?_;refine ap ?_;refine ⟨.inr rfl, ?_⟩
   have he:=av7 hno (wj (P:=fun i a b=>ek l (m.getD i default) a b) (I:=m.length) (L:=l.length) fun j hj=>hK j (by omega))
   exact f9 rfl rfl (by rw [he];exact CoL.refl _)
end Go.Hx
end
section
namespace Go.Hx
def stV (n:Int) (i:Nat) (p:AS) (c:Nat):Int:=if c4 p (c:Int) = true then (c:Int) else n + (i:Int) * n + (c:Int)
def stT (n:Int) (i:Nat) (p:AS) (k:Nat):Rw:=(List.range n.toNat).map fun c=>if c < k then stV n i p c else 0
def stR (n:Int) (i:Nat) (p:AS):Rw:=(List.range n.toNat).map fun c=>stV n i p c
def bj (n:Int) (ps:List AS):List Rw:=(List.range ps.length).map fun i=>stR n i (ps.getD i default)
theorem a2k (n:Int) (i:Nat) (p:AS):(stR n i p).length = n.toNat:=by unfold stR;simp
theorem mo (n:Int) (ps:List AS):(bj n ps).length = ps.length:=by unfold bj;simp
theorem aa7 {n:Int} {ps:List AS} {i:Nat} (h:i < ps.length):(bj n ps).getD i default = stR n i (ps.getD i default):=by
 unfold bj
 rw [List.getD_eq_getElem?_getD,List.getElem?_map,List.getElem?_range h]
 rfl
theorem ag9 (n:Int) (i:Nat) (p:AS) {k:Nat} (h:n.toNat ≤ k):stT n i p k = stR n i p:=by
 unfold stT stR
 refine List.map_congr_left fun c hc=>?_
 have:=List.mem_range.1 hc
 rw [if_pos (by omega)]
theorem aey {n:Int} {i:Nat} {p:AS} {k c:Nat} (h:c < n.toNat):(stT n i p k).getD c default = if c < k then stV n i p c else 0:=by
 unfold stT
 rw [List.getD_eq_getElem?_getD,List.getElem?_map,List.getElem?_range h]
 rfl
theorem ad8 {n:Int} {i:Nat} {p:AS} {N:Nat} {f:Nat → Nat → PV} (hN:N = n.toNat) (hf:∀ a,f a 0 = .raw (.int .i64 0)):CoO (.arr true 1 3 N f) (.arr true 1 3 N (lf zC (stT n i p 0))) :=
 ⟨fun h=>h,rfl,rfl,rfl,fun a j ha hj=>by
  obtain rfl:j = 0:=by omega
  refine CoP.of_eq ?_
  rw [hf]
  show _ = PV.raw (.int .i64 ((stT n i p 0).getD a default))
  rw [aey (by omega),if_neg (by omega)]⟩
theorem a4u {n:Int} {i:Nat} {p:AS} {k:Nat}:∀ c,c < n.toNat → (stT n i p (k + 1)).getD c default = if c = k then stV n i p k else (stT n i p k).getD c default:=fun c hc=>by
 rw [aey hc,aey hc]
 by_cases h:c = k
 · rw [if_pos h,if_pos (by omega),h]
 · rw [if_neg h]
   by_cases h2:c < k
   · rw [if_pos h2,if_pos (by omega)]
   · rw [if_neg h2,if_neg (by omega)]
theorem aoa {n:Int} {i:Nat} {p:AS} {k a b N:Nat} {x:Int} (h:c4 p (k:Int) = true) (hN:N = n.toNat) (ha:a = k) (hb:b = k) :
 CoO (.arr true 1 3 N (dw (dw (lf zC (stT n i p k)) a 0 [.raw (.int .i64 x)]) b 0 [.raw (.int .i64 (k:Int))])) (.arr true 1 3 N (lf zC (stT n i p (k + 1)))):=by
 subst ha hb
 refine ⟨fun h=>h,rfl,rfl,rfl,fun c j hc hj=>CoP.of_eq ?_⟩
 obtain rfl:j = 0:=by omega
 show _ = PV.raw (.int .i64 ((stT n i p (b + 1)).getD c default))
 rw [a4u c (by omega)]
 unfold dw
 by_cases e:c = b
 · rw [if_pos ⟨e,by omega,by simp⟩,if_pos e]
   unfold stV
   rw [if_pos h]
   rfl
 · rw [if_neg (fun x=>e x.1),if_neg (fun x=>e x.1),if_neg e]
   rfl
theorem ao2 {n:Int} {i:Nat} {p:AS} {k a N:Nat} (h:¬ c4 p (k:Int) = true) (hN:N = n.toNat) (ha:a = k) :
 CoO (.arr true 1 3 N (dw (lf zC (stT n i p k)) a 0 [.raw (.int .i64 (n + (i:Int) * n + (k:Int)))])) (.arr true 1 3 N (lf zC (stT n i p (k + 1)))):=by
 subst ha
 refine ⟨fun h=>h,rfl,rfl,rfl,fun c j hc hj=>CoP.of_eq ?_⟩
 obtain rfl:j = 0:=by omega
 show _ = PV.raw (.int .i64 ((stT n i p (a + 1)).getD c default))
 rw [a4u c (by omega)]
 unfold dw
 by_cases e:c = a
 · rw [if_pos ⟨e,by omega,by simp⟩,if_pos e]
   unfold stV
   rw [if_neg h]
   rfl
 · rw [if_neg (fun x=>e x.1),if_neg e]
   rfl
theorem at6 {s:AS} {n:Int}:(asI s).fdiv (2 ^ (min n.toNat 32)) = 0 ↔ s >>> n.toNat = 0:=by
 rw [wn,show (0:Int) = asI 0 from rfl,ep]
theorem b02 {n:Int} {i:Nat} (h0:0 ≤ n) (h1:n ≤ 16) (hi:i ≤ 64):0 ≤ (i:Int) * n ∧ (i:Int) * n ≤ 1024:=by
 refine ⟨Int.mul_nonneg (by omega) h0, ?_⟩
 have h2:(i:Int) * n ≤ (i:Int) * 16:=Int.mul_le_mul_of_nonneg_left h1 (by omega)
 omega
def fb (n:Int) (ps:List AS):Int × List Rw × Int :=
 if n < 0 ∨ 16 < n then (0,[],7) else if 64 < ps.length then (0,[],3) else if ps.all (fun p=>decide (p >>> n.toNat = 0)) = true then (n,ay (bj n ps),0) else (0,[],1)
theorem zh {n:Int} {ps:List AS} (h:n < 0 ∨ 16 < n):fb n ps = (0,[],7):=if_pos h
theorem aei {n:Int} {ps:List AS} (h:¬ (n < 0 ∨ 16 < n)) (h2:64 < ps.length):fb n ps = (0,[],3):=by unfold fb;rw [if_neg h,if_pos h2]
theorem abe {n:Int} {ps:List AS} {i:Nat} (h:¬ (n < 0 ∨ 16 < n)) (h2:¬ 64 < ps.length) (hi:i < ps.length) (h3:¬ (ps.getD i default) >>> n.toNat = 0):fb n ps = (0,[],1):=by
 unfold fb
 rw [if_neg h,if_neg h2,if_neg (fun e=>absurd (a5b (l:=ps) (p:=fun p:AS=>decide (p >>> n.toNat = 0)) hi (decide_eq_false h3)) (by rw [e];decide))]
theorem a4g {n:Int} {ps:List AS} (h:¬ (n < 0 ∨ 16 < n)) (h2:¬ 64 < ps.length) (h3:∀ j,j < ps.length → (ps.getD j default) >>> n.toNat = 0):fb n ps = (n,ay (bj n ps),0):=by
 unfold fb
 rw [if_neg h,if_neg h2,if_pos (aap (l:=ps) (p:=fun p:AS=>decide (p >>> n.toNat = 0)) fun j hj=>decide_eq_true (h3 j hj))]
theorem apz {n:Int} {ps:List AS} {i k:Nat} (hi:i < ps.length) (hk:n.toNat ≤ k):CoP (.sl n.toNat 1 false (lf zC (stT n i (ps.getD i default) k))) (lf rC (bj n ps) i 0):=by
 show CoP _ (zl ((bj n ps).getD i default))
 rw [aa7 hi,ag9 n i _ hk]
 exact CoP.sl (a2k _ _ _) (.inl rfl) (fun h=>h) fun a j ha hj=>CoP.refl _
end Go.Hx
end
section
namespace Go.Hx
open Go.Proofs
set_option maxRecDepth 100000
theorem awv:goodFn Tryz.prog 148:=⟨Tryz.f148,Tryz.func148,by kernel_rfl,by kernel_rfl⟩
theorem ayb (n:Int) (ps:List AS):ai Tryz.prog 148 [pI n,pP (asl ps)] (ao [pT (fb n ps).1 (fb n ps).2.1,pI (fb n ps).2.2]):=by
 refine ah (nt:=73) ae Tryz.func148 rfl rfl l9 ?_;refine sx7 ?_;refine m9 0 ?_;refine qy ?_;refine a6 ?_;refine a7 ?_;refine ab ?_;refine sx7 ?_;(iterate 3 refine qy ?_)
 refine b4 rfl rfl (fun r0=>?_) (fun r0=>?_)
 ·
  have h0:=of_decide_eq_true r0
  try simp only [ty] at h0
  (iterate 2 refine k9 (gtf r0) ?_);refine rq rfl rfl rfl rfl rfl ?_ (hp:=r0);refine qy ?_;refine a6 ?_;refine a8 _ rfl (fun _=>?_) (fun e=>by cases e);refine sx7 ?_;refine qy ?_;refine s9 ?_;refine qy ?_
  refine a6 ?_;refine ap ?_;refine ⟨.inr rfl, ?_⟩
  have he:=zh (n:=n) (ps:=ps) (by omega)
  exact f9 rfl rfl (by rw [he];exact ⟨CoC.agg ⟨CoP.refl _,bz,trivial⟩,CoC.refl _,trivial⟩)
 ·
  have h0:=of_decide_eq_false r0
  try simp only [ty] at h0
  (iterate 2 refine qy ?_ (hg:=(gff r0)));(iterate 2 refine qy ?_);refine a6 ?_;refine a8 _ rfl (fun r1=>?_) (fun r1=>?_)
  ·
   have h1:=r1
   have h1:=bg r0 h1
   have h1:=of_decide_eq_true h1
   try simp only [ty] at h1
   refine sx7 ?_;refine qy ?_;refine s9 ?_;refine qy ?_;refine a6 ?_;refine ap ?_;refine ⟨.inr rfl, ?_⟩
   have he:=zh (n:=n) (ps:=ps) (by omega)
   exact f9 rfl rfl (by rw [he];exact ⟨CoC.agg ⟨CoP.refl _,bz,trivial⟩,CoC.refl _,trivial⟩)
  ·
   have h1:=r1
   have h1:=bg r0 h1
   have h1:=of_decide_eq_false h1
   try simp only [ty] at h1
   refine sx7 ?_;(iterate 4 refine qy ?_);refine a6 ?_;refine a8 _ rfl (fun r2=>?_) (fun r2=>?_)
   ·
    have h2:=of_decide_eq_true r2
    try simp only [ty] at h2
    refine sx7 ?_;refine qy ?_;refine s9 ?_;refine qy ?_;refine a6 ?_;refine ap ?_;refine ⟨.inr rfl, ?_⟩
    have he:=aei (n:=n) (ps:=ps) (by omega) (by omega)
    exact f9 rfl rfl (by rw [he];exact ⟨CoC.agg ⟨CoP.refl _,bz,trivial⟩,CoC.refl _,trivial⟩)
   ·
    have h2:=of_decide_eq_false r2
    try simp only [ty] at h2
    refine aa ?_;refine sx7 ?_;(iterate 2 refine qy ?_);refine m9 1 ?_;refine s9 ?_;refine a6 ?_
    refine np 1 1 900 true 1 121 (lf rC (bj n ps)) (by decide) rfl rfl (CoP.sl rfl (.inr rfl) (fun h=>h) (fun i j hi _=>absurd hi (Nat.not_lt_zero i))) (.inr rfl) rfl rfl ?_;refine a7 ?_;refine sx7 ?_
    (iterate 3 refine qy ?_);refine a6 ?_;refine ab ?_
    refine aj (ι:=Nat) ⟨[(0,some _),(4,some _),(6,some _),(26,some _),(27,some _)],[(0,some _)]⟩ ⟨⟨c9,c9,c9,c9,c9,trivial⟩,⟨u9,trivial⟩⟩ (fun i=>⟨[(28,some (vI i))],[(1,some (.box [.p (.raw (.int .i64 n)), .ref 900 i])),(900,some (.arr true 1 121 i (lf rC (bj n ps))))]⟩) (fun i=>i ≤ ps.length ∧ ∀ j,j < i → (ps.getD j default) >>> n.toNat = 0) (fun i=>ps.length - i) (0) (⟨Nat.zero_le _,cg⟩) ⟨⟨zy,trivial⟩,⟨u9,u9,trivial⟩⟩ ?_
    rintro i ⟨hi,hI⟩
    refine sx7 ?_;refine qy ?_;refine a6 ?_;refine a7 ?_;refine a8 _ rfl (fun r3=>?_) (fun r3=>?_)
    ·
     have h3:=of_decide_eq_true r3
     try simp only [ty] at h3
     have hin:=b02 (n:=n) (i:=i) (by omega) (by omega) (by omega)
     refine aa ?_;refine a7 ?_;refine ab ?_;refine sx7 ?_;(iterate 5 refine qy ?_);refine a6 ?_;refine a7 ?_;refine sx7 ?_;(iterate 4 refine qy ?_);refine a6 ?_
     refine a8 _ rfl (fun r4=>?_) (fun r4=>?_)
     ·
      have h4:=r4
      have h4:=of_decide_eq_false (av h4)
      try simp only [ty] at h4
      refine sx7 ?_;refine qy ?_;refine s9 ?_;refine qy ?_;refine a6 ?_;refine ap ?_;refine ⟨.inr rfl, ?_⟩
      have he:=abe (n:=n) (ps:=ps) (i:=i) (by omega) (by omega) (by omega) (fun e=>absurd (at6.2 e) (by assumption))
      exact f9 rfl rfl (by rw [he];exact ⟨CoC.agg ⟨CoP.refl _,bz,trivial⟩,CoC.refl _,trivial⟩)
     ·
      have h4:=r4
      have h4:=of_decide_eq_true (aw h4)
      try simp only [ty] at h4
      refine aa ?_;refine sx7 ?_;refine qy ?_;refine m9 2 ?_;refine qy ?_;refine a6 ?_;refine a7 ?_;refine sx7 ?_;(iterate 2 refine qy ?_);refine a6 ?_;refine ab ?_
      refine aj (ι:=Nat) ⟨[(0,some _),(4,some _),(6,some _),(7,some _),(8,some _),(9,some _),(26,some _),(27,some _),(28,some _),(40,some _)],[(1,some _),(900,some _),(0,some _)]⟩ ⟨⟨c9,c9,c9,c9,c9,c9,c9,c9,c9,c9,trivial⟩,⟨u9,u9,u9,trivial⟩⟩ (fun k=>⟨[(41,some (vI k))],[(2,some (.arr true 1 3 n.toNat (lf zC (stT n i (ps.getD i default) k))))]⟩) (fun k=>k ≤ n.toNat) (fun k=>n.toNat - k) (0) (Nat.zero_le _) ⟨⟨zy,trivial⟩,⟨⟨_,rfl,(ad8 rfl (fun _=>rfl))⟩,trivial⟩⟩ ?_
      rintro k hk
      refine sx7 ?_;refine qy ?_;refine a6 ?_;refine a7 ?_;refine a8 _ rfl (fun r5=>?_) (fun r5=>?_)
      ·
       have h5:=of_decide_eq_true r5
       try simp only [ty] at h5
       refine aa ?_;refine a7 ?_;refine ab ?_;refine sx7 ?_;(iterate 2 refine qy ?_);refine a6 ?_;refine sx7 ?_;(iterate 10 refine qy ?_);refine s9 ?_;refine a6 ?_;refine sx7 ?_
       (iterate 5 refine qy ?_);refine a6 ?_;refine a8 _ rfl (fun r6=>?_) (fun r6=>?_)
       ·
        have h6:=of_decide_eq_true r6
        try simp only [ty] at h6
        refine gy ?_;(iterate 4 refine qy ?_);refine s9 ?_;refine a6 ?_;refine gy ?_;(iterate 2 refine qy ?_);refine a6 ?_;refine ⟨k + 1, ?_, ?_, ?_⟩
        · show k + 1 ≤ _;omega
        · first | omega | (dsimp only;omega)
        · exact ⟨⟨zy,c9,c9,c9,c9,c9,c9,c9,c9,c9,c9,trivial⟩,⟨⟨_,rfl,(by first | exact aoa ((pl (by omega)).1 (by assumption)) rfl (by omega) (by omega) | exact ao2 (fun e=>absurd ((pl (by omega)).2 e) (by assumption)) rfl (by omega))⟩,u9,u9,u9,trivial⟩⟩
       ·
        have h6:=of_decide_eq_false r6
        try simp only [ty] at h6
        refine aa ?_;refine gy ?_;(iterate 2 refine qy ?_);refine a6 ?_;refine ⟨k + 1, ?_, ?_, ?_⟩
        · show k + 1 ≤ _;omega
        · first | omega | (dsimp only;omega)
        · exact ⟨⟨zy,c9,c9,c9,c9,c9,c9,c9,c9,c9,c9,trivial⟩,⟨⟨_,rfl,(by first | exact aoa ((pl (by omega)).1 (by assumption)) rfl (by omega) (by omega) | exact ao2 (fun e=>absurd ((pl (by omega)).2 e) (by assumption)) rfl (by omega))⟩,u9,u9,u9,trivial⟩⟩
      ·
       have h5:=of_decide_eq_false r5
       try simp only [ty] at h5
       refine ak ?_;refine bn 9 rfl rfl rfl ?_;refine gy ?_;(iterate 3 refine qy ?_);refine m9 3 ?_;refine ra 4 true rfl rfl rfl rfl rfl rfl ?_;refine qy ?_;refine s9 ?_;refine a6 ?_;refine gy ?_
       (iterate 2 refine qy ?_);refine a6 ?_;refine ⟨i + 1, ?_, ?_, ?_⟩
       · exact ⟨by show i + 1 ≤ _;omega,br hI (at6.1 (by assumption))⟩
       · first | omega | (dsimp only;omega)
       · exact ⟨⟨zy,c9,c9,c9,c9,c9,trivial⟩,⟨u9,⟨_,rfl,(n5 (fun h=>h) (fun j hj=>by obtain rfl:j = 0:=(by omega);exact apz (by omega) (by omega)))⟩,u9,trivial⟩⟩
    ·
     have h3:=of_decide_eq_false r3
     try simp only [ty] at h3
     obtain rfl:i = ps.length:=by omega
     refine ak ?_;refine sx7 ?_;refine qy ?_
     refine cn rfl rfl rfl rfl rfl rfl a83 ((a7p n (bj n ps) (by rw [mo];omega))) (⟨⟨CoP.refl _,congrArg (HV.ref 900) (mo _ _).symm,trivial⟩,trivial⟩) ⟨⟨_,rfl,mn rfl (mo _ _).symm⟩,trivial⟩ rfl rfl ?_
     refine s9 ?_;refine qy ?_;refine a6 ?_;refine ap ?_;refine ⟨.inr rfl, ?_⟩
     have he:=a4g (n:=n) (ps:=ps) (by omega) (by omega) (fun j hj=>hI j (by omega))
     exact f9 rfl rfl (by rw [he];exact CoL.refl _)
end Go.Hx
end
section
namespace Go.Hx
def ct (n:Int):Rw:=(List.range n.toNat).map fun (i:Nat)=>(i:Int)
theorem yt (n:Int):(ct n).length = n.toNat:=by unfold ct;simp
theorem apw {n:Int} {k:Nat} (h:k < n.toNat):CoP (.raw (.int .i64 (k:Int))) (lf zC (ct n) k 0):=by
 refine CoP.of_eq ?_
 show _ = PV.raw (.int .i64 ((ct n).getD k default))
 unfold ct
 rw [List.getD_eq_getElem?_getD,List.getElem?_map,List.getElem?_range h]
 rfl
theorem a6i {n:Int} {i:Nat} {p:AS} {k:Nat} (h:k < n.toNat):(stR n i p).getD k default = stV n i p k:=by
 unfold stR
 rw [List.getD_eq_getElem?_getD,List.getElem?_map,List.getElem?_range h]
 rfl
theorem ag3 {n:Int} {i:Nat} {p:AS} {k:Nat} (h:k < n.toNat) (hh:c4 p (k:Int) = true):CoP (.raw (.int .i64 (k:Int))) (lf zC (stR n i p) k 0):=by
 refine CoP.of_eq ?_
 show _ = PV.raw (.int .i64 ((stR n i p).getD k default))
 rw [a6i h]
 unfold stV
 rw [if_pos hh]
theorem ahe {n:Int} {i:Nat} {p:AS} {k:Nat} (h:k < n.toNat) (hh:c4 p (k:Int) = false):CoP (.raw (.int .i64 (n + (i:Int) * n + (k:Int)))) (lf zC (stR n i p) k 0):=by
 refine CoP.of_eq ?_
 show _ = PV.raw (.int .i64 ((stR n i p).getD k default))
 rw [a6i h]
 unfold stV
 rw [hh,if_neg (by decide)]
theorem ams {n:Int} {ps:List AS} {i k:Nat} (hi:i < ps.length) (hk:k = n.toNat):CoP (.sl k 1 false (lf zC (stR n i (ps.getD i default)))) (lf rC (bj n ps) i 0):=by
 show CoP _ (zl ((bj n ps).getD i default))
 rw [aa7 hi]
 exact CoP.sl (by rw [a2k,hk]) (.inl rfl) (fun h=>h) fun a j ha hj=>CoP.refl _
theorem aj8 {s:AS} {n:Int} (h0:0 ≤ n) (h1:n ≤ 16):sub s (af n) ↔ s >>> n.toNat = 0:=by
 unfold af
 rw [Nat.min_eq_left (by omega)]
 exact mz (by omega)
def a1x (l:List Rw) (x:Fd) (a b:Nat):Bool:=j0 (l.getD a default) (l.getD b default) x.lhs && !(l.any fun r=>decide (r = d5 (l.getD a default) (l.getD b default) x.rhs))
theorem ac5 {a b:Rw} {s:AS} {g:Nat → Nat → PV} {f:Nat → Nat → PV} {e:TypeId} (hf:∀ i j,f i j = lf zC b i j):CoO (.arr true 1 e (0 + b.length) (ef 0 g f)) (.arr true 1 e (0 + b.length) (lf zC (jp a b s 0))):=by
 rw [← a9y]
 exact ⟨fun h=>h,rfl,rfl,rfl,fun i j _ _=>CoP.of_eq (by simp [ef,hf])⟩
theorem ahg {a b:Rw} {s:AS} {k m:Nat} (hk:k = b.length) (hm:m = b.length):CoC (.one (.sl m 1 false (lf zC (jp a b s k)))) (pZ (d5 a b s)):=by
 subst hk
 rw [adu]
 exact ajw ((ju a b s).trans hm.symm)
end Go.Hx
end

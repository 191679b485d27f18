/- A part of the proof: Gr4. -/
import Derived.Test.YtodligmokcbbkaaGreatDoorRx34
set_option linter.all false
section
namespace Go.Hx
open Go.Proofs
set_option maxRecDepth 100000
set_option maxHeartbeats 1000000
theorem p8 {s:Nat} {f:Nat → Nat → PV}:CoP (.sl 0 s true f) (zl []):=CoP.sl rfl (.inr rfl) (fun _=>by first | rfl | trivial) fun i j hi _=>absurd hi (Nat.not_lt_zero i)
theorem amm {n:Nat} {d:Fd} (hn:n ≤ 16) (h:(d8 .or .u32 (asI d.lhs) (asI d.rhs)).fdiv (2 ^ (min ((n:Nat):Int).toNat 32)) = 0):sub (d.lhs ||| d.rhs) (am (n:Int)):=by
 obtain ⟨h1,h2⟩:=(vd (n:=(n:Int)) (by omega) (by omega)).1 (ng.1 h)
 refine bf.2 fun z hz hb=>?_
 rw [BitVec.getLsbD_or,Bool.or_eq_true] at hb
 rcases hb with hb | hb
 · exact bf.1 h1 z hz hb
 · exact bf.1 h2 z hz hb
theorem atl (t:Tbl) (d:Fd) (h:¬ cb t = 0):aj Tryz.prog 5 [t.pc,d.pc] (ao [pP (zl (oi t d)),pI (ja t d)]):=by
 refine ai (nt:=81) ae Tryz.func5 rfl rfl l9 ?_;refine sx7 ?_;refine m9 0 ?_;refine m9 1 ?_;(iterate 2 refine qy ?_);refine a6 ?_;refine a7 ?_;refine sx7 ?_;refine qy ?_
 refine rc rfl rfl rfl rfl rfl rfl zr (c88 t) (CoL.refl _) rfl rfl ?_;refine qy ?_;refine a6 ?_;refine sx7 ?_;(iterate 2 refine qy ?_);refine a6 ?_;refine a8 _ rfl (fun r0=>?_) (fun r0=>?_)
 ·
  have h0:=r0
  have h0:=of_decide_eq_false (b7 h0)
  try simp only [ty] at h0
  refine sx7 ?_;(iterate 3 refine qy ?_);refine a6 ?_;refine df ?_;refine ⟨.inr rfl, ?_⟩
  have he:=ahl (d:=d) h
  exact f9 rfl rfl ((by rw [vn (by rw [he];first | assumption | decide),he];exact ⟨CoC.one p8,CoC.refl _,trivial⟩))
 ·
  have h0:=r0
  have h0:=of_decide_eq_true (b6 h0)
  try simp only [ty] at h0
  exfalso
  omega
theorem at8 (t:Tbl) (d:Fd) (hT:TOk t) (hs:¬ sub (d.lhs ||| d.rhs) (am ((t.attrs.length:Nat):Int))):aj Tryz.prog 5 [t.pc,d.pc] (ao [pP (zl (oi t d)),pI (ja t d)]):=by
 refine ai (nt:=81) ae Tryz.func5 rfl rfl l9 ?_
 have htz:=ir.2 hT
 have hn:=hT.na
 have hnr:=hT.nr
 have h0z:(0:Int) ≤ ((t.attrs.length:Nat):Int):=by omega
 have h1z:((t.attrs.length:Nat):Int) ≤ 16:=by omega
 refine sx7 ?_;refine m9 0 ?_;refine m9 1 ?_;(iterate 2 refine qy ?_);refine a6 ?_;refine a7 ?_;refine sx7 ?_;refine qy ?_;refine rc rfl rfl rfl rfl rfl rfl zr (c88 t) (CoL.refl _) rfl rfl ?_;refine qy ?_
 refine a6 ?_;refine sx7 ?_;(iterate 2 refine qy ?_);refine a6 ?_;refine a8 _ rfl (fun r0=>?_) (fun r0=>?_)
 ·
  have h0:=r0
  have h0:=of_decide_eq_false (b7 h0)
  try simp only [ty] at h0
  exfalso
  omega
 ·
  have h0:=r0
  have h0:=of_decide_eq_true (b6 h0)
  try simp only [ty] at h0
  refine aa ?_;refine sx7 ?_;(iterate 4 refine qy ?_);refine a6 ?_;refine a7 ?_;refine sx7 ?_;(iterate 8 refine qy ?_);refine a6 ?_;refine a8 _ rfl (fun r1=>?_) (fun r1=>?_)
  ·
   have h1:=r1
   have h1:=of_decide_eq_false (b7 h1)
   try simp only [ty] at h1
   refine sx7 ?_;(iterate 2 refine qy ?_);refine a6 ?_;refine df ?_;refine ⟨.inr rfl, ?_⟩
   have he:=ahv htz hs
   exact f9 rfl rfl ((by rw [vn (by rw [he];first | assumption | decide),he];exact ⟨CoC.one p8,CoC.refl _,trivial⟩))
  ·
   have h1:=r1
   have h1:=of_decide_eq_true (b6 h1)
   try simp only [ty] at h1
   exact absurd (amm hn h1) hs
theorem aur (t:Tbl) (d:Fd) (hT:TOk t) (hs:sub (d.lhs ||| d.rhs) (am ((t.attrs.length:Nat):Int))) (hmv:mvB t d = false) (hcm:ab2 t d = mvB t d):aj Tryz.prog 5 [t.pc,d.pc] (ao [pP (zl (oi t d)),pI (ja t d)]):=by
 refine ai (nt:=81) ae Tryz.func5 rfl rfl l9 ?_
 have htz:=ir.2 hT
 have hn:=hT.na
 have hnr:=hT.nr
 have h0z:(0:Int) ≤ ((t.attrs.length:Nat):Int):=by omega
 have h1z:((t.attrs.length:Nat):Int) ≤ 16:=by omega
 refine sx7 ?_;refine m9 0 ?_;refine m9 1 ?_;(iterate 2 refine qy ?_);refine a6 ?_;refine a7 ?_;refine sx7 ?_;refine qy ?_;refine rc rfl rfl rfl rfl rfl rfl zr (c88 t) (CoL.refl _) rfl rfl ?_;refine qy ?_
 refine a6 ?_;refine sx7 ?_;(iterate 2 refine qy ?_);refine a6 ?_;refine a8 _ rfl (fun r0=>?_) (fun r0=>?_)
 ·
  have h0:=r0
  have h0:=of_decide_eq_false (b7 h0)
  try simp only [ty] at h0
  exfalso
  omega
 ·
  have h0:=r0
  have h0:=of_decide_eq_true (b6 h0)
  try simp only [ty] at h0
  refine aa ?_;refine sx7 ?_;(iterate 4 refine qy ?_);refine a6 ?_;refine a7 ?_;refine sx7 ?_;(iterate 8 refine qy ?_);refine a6 ?_;refine a8 _ rfl (fun r1=>?_) (fun r1=>?_)
  ·
   have h1:=r1
   have h1:=of_decide_eq_false (b7 h1)
   try simp only [ty] at h1
   exact absurd (ng.2 ((vd (n:=((t.attrs.length:Nat):Int)) (by omega) (by omega)).2 ⟨a14 hs,bf.2 fun z hz hb=>bf.1 hs z hz (by rw [BitVec.getLsbD_or,hb,Bool.or_true])⟩)) h1
  ·
   have h1:=r1
   have h1:=of_decide_eq_true (b6 h1)
   try simp only [ty] at h1
   refine aa ?_;refine a7 ?_;refine sx7 ?_;(iterate 2 refine qy ?_);refine rc rfl rfl rfl rfl rfl rfl ah7 (acb t d hT hs) (CoL.refl _) rfl rfl ?_;(iterate 5 refine qy ?_);refine a6 ?_;refine sx7 ?_
   (iterate 6 refine qy ?_);refine a6 ?_;refine a8 _ rfl (fun r2=>?_) (fun r2=>?_)
   ·
    have h2:=r2
    have h2:=b7 h2
    refine sx7 ?_;(iterate 2 refine qy ?_);refine a6 ?_;refine df ?_;refine ⟨.inr rfl, ?_⟩
    have he:=ahy htz hs hmv
    exact f9 rfl rfl ((by rw [vn (by rw [he];first | assumption | decide),he];exact ⟨CoC.one p8,CoC.refl _,trivial⟩))
   ·
    have h2:=r2
    have h2:=b6 h2
    exfalso
    rw [hcm,hmv] at r2
    exact absurd r2 (by decide)
theorem avo (t:Tbl) (d:Fd) (hi:∀ r ∈ t.rows,∀ v ∈ r.vals,su v.num):aj Tryz.prog 5 [t.pc,d.pc] (ao [pP (zl (oi t d)),pI (ja t d)]):=by
 by_cases h1:cb t = 0
 · have hT:=ir.1 h1
   by_cases h2:sub (d.lhs ||| d.rhs) (am ((t.attrs.length:Nat):Int))
   · have he:∀ r ∈ t.rows,∀ v ∈ r.vals,ku v:=fun r hr v hv=>⟨List.all_eq_true.1 (m8 hT.rs r hr).2.2 v hv,hi r hr v hv⟩
     have hcm:=amw (d:=d) hT he
     cases h3:mvB t d with
     | true=>exact asx t d hT h2 h3 hcm
     | false=>exact aur t d hT h2 h3 hcm
   · exact at8 t d hT h2
 · exact atl t d h1
theorem aoe (t:Tbl) (d:Fd) (h:¬ cb t = 0):aj Tryz.prog 17 [t.pc,d.pc] (ao [pB false,pI (cb t)]):=by
 refine ai (nt:=75) ae Tryz.func17 rfl rfl l9 ?_;refine sx7 ?_;refine m9 0 ?_;refine m9 1 ?_;(iterate 2 refine qy ?_);refine a6 ?_;refine a7 ?_;refine sx7 ?_;refine qy ?_
 refine rc rfl rfl rfl rfl rfl rfl a9c (c82 t) (CoL.refl _) rfl rfl ?_;refine qy ?_;refine a6 ?_;refine sx7 ?_;(iterate 2 refine qy ?_);refine a6 ?_;refine a8 _ rfl (fun r0=>?_) (fun r0=>?_)
 ·
  have h0:=r0
  have h0:=of_decide_eq_false (b7 h0)
  try simp only [ty] at h0
  refine sx7 ?_;(iterate 3 refine qy ?_);refine a6 ?_
  exact hx8 rfl rfl rfl (CoL.refl _)
 ·
  have h0:=r0
  have h0:=of_decide_eq_true (b6 h0)
  try simp only [ty] at h0
  exfalso
  omega
theorem amx (t:Tbl) (d:Fd) (hT:TOk t) (hs:¬ sub (d.lhs ||| d.rhs) (am ((t.attrs.length:Nat):Int))):aj Tryz.prog 17 [t.pc,d.pc] (ao [pB false,pI 1]):=by
 refine ai (nt:=75) ae Tryz.func17 rfl rfl l9 ?_
 have htz:=ir.2 hT
 have hn:=hT.na
 have hnr:=hT.nr
 have h0z:(0:Int) ≤ ((t.attrs.length:Nat):Int):=by omega
 have h1z:((t.attrs.length:Nat):Int) ≤ 16:=by omega
 refine sx7 ?_;refine m9 0 ?_;refine m9 1 ?_;(iterate 2 refine qy ?_);refine a6 ?_;refine a7 ?_;refine sx7 ?_;refine qy ?_;refine rc rfl rfl rfl rfl rfl rfl a9c (c82 t) (CoL.refl _) rfl rfl ?_;refine qy ?_
 refine a6 ?_;refine sx7 ?_;(iterate 2 refine qy ?_);refine a6 ?_;refine a8 _ rfl (fun r0=>?_) (fun r0=>?_)
 ·
  have h0:=r0
  have h0:=of_decide_eq_false (b7 h0)
  try simp only [ty] at h0
  exfalso
  omega
 ·
  have h0:=r0
  have h0:=of_decide_eq_true (b6 h0)
  try simp only [ty] at h0
  refine aa ?_;refine sx7 ?_;(iterate 4 refine qy ?_);refine a6 ?_;refine a7 ?_;refine sx7 ?_;(iterate 6 refine qy ?_)
  refine rc rfl rfl rfl rfl rfl rfl ags (ade ((t.attrs.length:Nat):Int) (d.lhs ||| d.rhs)) (⟨CoC.refl _,cci (bOr _ _),trivial⟩) rfl rfl ?_;refine qy ?_;refine a6 ?_
  refine a8 _ rfl (fun r1=>?_) (fun r1=>?_)
  ·
   have h1:=r1
   have h1:=b7 h1
   refine sx7 ?_;(iterate 2 refine qy ?_);refine a6 ?_
   exact hx8 rfl rfl rfl (CoL.refl _)
  ·
   have h1:=r1
   have h1:=b6 h1
   exfalso
   simp_all
theorem ag7:ak Tryz.prog 19:=⟨Tryz.f19,Tryz.func19,by kernel_rfl,by kernel_rfl⟩
theorem aho (t:Tbl) (i:Nat) (s:AS) (hok:t.ok) (hi:i < t.rows.length):aj Tryz.prog 19 [t.pc,pI i,pA s] (ao [pB (a8o t.rows i s)]):=by
 refine ai (nt:=32) ae Tryz.func19 rfl rfl l9 ?_
 have hrl:=hok.2.1
 refine sx7 ?_;refine m9 0 ?_;refine qy ?_;refine a6 ?_;refine a7 ?_;refine sx7 ?_;refine qy ?_;refine a6 ?_;refine af ?_
 refine aw (ι:=Nat) ⟨[(1,some _),(2,some _),(3,some _)],[(0,some _)]⟩ ⟨⟨c9,c9,c9,trivial⟩,⟨u9,trivial⟩⟩ (fun k=>⟨[(7,some (vI k))],[]⟩) (fun k=>k ≤ t.rows.length ∧ (∀ j,j < k → uw t.rows i s j = false)) (fun k=>t.rows.length - k) (0) (⟨Nat.zero_le _,dq⟩) ⟨⟨zy,trivial⟩,trivial⟩ ?_
 rintro k ⟨hk,hIk⟩
 refine a7 ?_;refine sx7 ?_;(iterate 5 refine qy ?_);refine a6 ?_;refine a8 _ rfl (fun r0=>?_) (fun r0=>?_)
 ·
  have h0:=of_decide_eq_true r0
  try simp only [ty] at h0
  refine aa ?_;refine a7 ?_;refine af ?_;refine a7 ?_;refine dp (E:=ci) ae ct [0,1,2,3,4,5,6,7,8,9,10,11,12,13,14,15,16] ?_;(iterate 4 refine qy ?_)
  refine bd rfl rfl (fun r1=>?_) (fun r1=>?_)
  ·
   have h1:=r1
   have h1:=of_decide_eq_false (b7 h1)
   try simp only [ty] at h1
   (iterate 11 refine qy ?_ (hg:=(gtt r1)));refine rc rfl rfl rfl rfl rfl rfl a3q (a84 (t.rows.getD i default) (t.rows.getD k default) s (hok.2.2 i (by omega)) (hok.2.2 k (by omega))) (CoL.refl _) rfl (gtt r1) ?_
   refine qy ?_;refine a6 ?_;refine ⟨by kernel_rfl, ?_⟩;refine a8 _ rfl (fun r2=>?_) (fun r2=>?_)
   ·
    have h2:=r2
    have h2:=ck r1 h2
    have hq:uw t.rows i s k = true:=by unfold uw;rw [decide_eq_false (by omega:¬ k = i)];simp_all
    refine sx7 ?_;refine qy ?_;refine a6 ?_
    exact hx8 rfl rfl rfl (⟨ccb (List.any_eq_true.2 ⟨k,List.mem_range.2 (by omega),hq⟩).symm,trivial⟩)
   ·
    have h2:=r2
    have h2:=ck r1 h2
    have hq:uw t.rows i s k = false:=by unfold uw;rw [decide_eq_false (by omega:¬ k = i)];simp_all
    refine aa ?_;refine gy ?_;(iterate 3 refine qy ?_);refine a6 ?_;refine ⟨k + 1, ?_, ?_, ?_⟩
    · exact ⟨by show k + 1 ≤ _;omega,cu hIk (hq)⟩
    · first | omega | (dsimp only;omega)
    · exact ⟨⟨zy,c9,c9,c9,trivial⟩,⟨u9,trivial⟩⟩
  ·
   have h1:=r1
   have h1:=of_decide_eq_true (b6 h1)
   try simp only [ty] at h1
   have hq:uw t.rows i s k = false:=by unfold uw;rw [decide_eq_true (by omega:k = i)];rfl
   (iterate 12 refine k9 (gft r1) ?_);refine rq rfl rfl rfl rfl rfl ?_ (hp:=r1);refine a6 ?_;refine ⟨by kernel_rfl, ?_⟩;refine a8 _ rfl (fun e=>by cases e) (fun _=>?_);refine aa ?_;refine gy ?_
   (iterate 3 refine qy ?_);refine a6 ?_;refine ⟨k + 1, ?_, ?_, ?_⟩
   · exact ⟨by show k + 1 ≤ _;omega,cu hIk (hq)⟩
   · first | omega | (dsimp only;omega)
   · exact ⟨⟨zy,c9,c9,c9,trivial⟩,⟨u9,trivial⟩⟩
 ·
  have h0:=of_decide_eq_false r0
  try simp only [ty] at h0
  obtain rfl:k = t.rows.length:=by omega
  refine az ?_;refine sx7 ?_;refine qy ?_;refine a6 ?_
  exact hx8 rfl rfl rfl (⟨ccb (List.any_eq_false.2 fun j hj=>by rw [hIk j (List.mem_range.1 hj)];decide).symm,trivial⟩)
theorem aqu (t:Tbl) (d:Fd) (h:¬ cb t = 0):aj Tryz.prog 6 [t.pc,d.pc] (ao [pP (zl (oi t d)),pI (ja t d)]):=by
 refine ai (nt:=63) ae Tryz.func6 rfl rfl l9 ?_;refine sx7 ?_;refine m9 0 ?_;refine m9 1 ?_;(iterate 2 refine qy ?_);refine a6 ?_;refine sx7 ?_;(iterate 2 refine qy ?_)
 refine rc rfl rfl rfl rfl rfl rfl a3p (aoe t d h) (CoL.refl _) rfl rfl ?_;(iterate 5 refine qy ?_);refine a6 ?_;refine a7 ?_;refine sx7 ?_;(iterate 2 refine qy ?_);refine a6 ?_
 refine a8 _ rfl (fun r0=>?_) (fun r0=>?_)
 ·
  have h0:=r0
  have h0:=of_decide_eq_false (b7 h0)
  try simp only [ty] at h0
  refine sx7 ?_;(iterate 3 refine qy ?_);refine a6 ?_;refine df ?_;refine ⟨.inr rfl, ?_⟩
  have he:=ahl (d:=d) h
  exact f9 rfl rfl ((by rw [vn (by rw [he];first | assumption | decide),he];exact ⟨CoC.one p8,CoC.refl _,trivial⟩))
 ·
  have h0:=r0
  have h0:=of_decide_eq_true (b6 h0)
  try simp only [ty] at h0
  exfalso
  omega
theorem art (t:Tbl) (d:Fd) (hT:TOk t) (hs:¬ sub (d.lhs ||| d.rhs) (am ((t.attrs.length:Nat):Int))):aj Tryz.prog 6 [t.pc,d.pc] (ao [pP (zl (oi t d)),pI (ja t d)]):=by
 refine ai (nt:=63) ae Tryz.func6 rfl rfl l9 ?_
 have htz:=ir.2 hT
 have hn:=hT.na
 have hnr:=hT.nr
 have h0z:(0:Int) ≤ ((t.attrs.length:Nat):Int):=by omega
 have h1z:((t.attrs.length:Nat):Int) ≤ 16:=by omega
 refine sx7 ?_;refine m9 0 ?_;refine m9 1 ?_;(iterate 2 refine qy ?_);refine a6 ?_;refine sx7 ?_;(iterate 2 refine qy ?_);refine rc rfl rfl rfl rfl rfl rfl a3p (amx t d hT hs) (CoL.refl _) rfl rfl ?_
 (iterate 5 refine qy ?_);refine a6 ?_;refine a7 ?_;refine sx7 ?_;(iterate 2 refine qy ?_);refine a6 ?_;refine a8 _ rfl (fun _=>?_) (fun e=>by cases e);refine sx7 ?_;(iterate 3 refine qy ?_)
 refine a6 ?_;refine df ?_;refine ⟨.inr rfl, ?_⟩
 have he:=ahv htz hs
 exact f9 rfl rfl ((by rw [vn (by rw [he];first | assumption | decide),he];exact ⟨CoC.one p8,CoC.refl _,trivial⟩))
theorem ars (t:Tbl) (d:Fd) (hT:TOk t) (hs:sub (d.lhs ||| d.rhs) (am ((t.attrs.length:Nat):Int))) (hmv:mvB t d = false):aj Tryz.prog 6 [t.pc,d.pc] (ao [pP (zl (oi t d)),pI (ja t d)]):=by
 refine ai (nt:=63) ae Tryz.func6 rfl rfl l9 ?_
 have htz:=ir.2 hT
 have hn:=hT.na
 have hnr:=hT.nr
 have h0z:(0:Int) ≤ ((t.attrs.length:Nat):Int):=by omega
 have h1z:((t.attrs.length:Nat):Int) ≤ 16:=by omega
 refine sx7 ?_;refine m9 0 ?_;refine m9 1 ?_;(iterate 2 refine qy ?_);refine a6 ?_;refine sx7 ?_;(iterate 2 refine qy ?_);refine rc rfl rfl rfl rfl rfl rfl a3p (ac8 t d hT hs) (CoL.refl _) rfl rfl ?_
 (iterate 5 refine qy ?_);refine a6 ?_;refine a7 ?_;refine sx7 ?_;(iterate 2 refine qy ?_);refine a6 ?_;refine a8 _ rfl (fun e=>by cases e) (fun _=>?_);refine aa ?_;refine a7 ?_;refine sx7 ?_
 (iterate 2 refine qy ?_);refine a6 ?_;refine a8 _ rfl (fun r0=>?_) (fun r0=>?_)
 ·
  have h0:=r0
  have h0:=b7 h0
  refine sx7 ?_;(iterate 2 refine qy ?_);refine a6 ?_;refine df ?_;refine ⟨.inr rfl, ?_⟩
  have he:=ahy htz hs hmv
  exact f9 rfl rfl ((by rw [vn (by rw [he];first | assumption | decide),he];exact ⟨CoC.one p8,CoC.refl _,trivial⟩))
 ·
  have h0:=r0
  have h0:=b6 h0
  exfalso
  rw [hmv] at r0
  exact absurd r0 (by decide)
theorem aum:ak Tryz.prog 6:=⟨Tryz.f6,Tryz.func6,by kernel_rfl,by kernel_rfl⟩
theorem ar5 (t:Tbl) (d:Fd) (hT:TOk t) (hs:sub (d.lhs ||| d.rhs) (am ((t.attrs.length:Nat):Int))) (hmv:mvB t d = true):aj Tryz.prog 6 [t.pc,d.pc] (ao [pP (zl (oi t d)),pI (ja t d)]):=by
 refine ai (nt:=63) ae Tryz.func6 rfl rfl l9 ?_
 have htz:=ir.2 hT
 have hn:=hT.na
 have hnr:=hT.nr
 have h0z:(0:Int) ≤ ((t.attrs.length:Nat):Int):=by omega
 have h1z:((t.attrs.length:Nat):Int) ≤ 16:=by omega
 have hok:=hT.ok
 refine sx7 ?_;refine m9 0 ?_;refine m9 1 ?_;(iterate 2 refine qy ?_);refine a6 ?_;refine sx7 ?_;(iterate 2 refine qy ?_);refine rc rfl rfl rfl rfl rfl rfl a3p (ac8 t d hT hs) (CoL.refl _) rfl rfl ?_
 (iterate 5 refine qy ?_);refine a6 ?_;refine a7 ?_;refine sx7 ?_;(iterate 2 refine qy ?_);refine a6 ?_;refine a8 _ rfl (fun e=>by cases e) (fun _=>?_);refine aa ?_;refine a7 ?_;refine sx7 ?_
 (iterate 2 refine qy ?_);refine a6 ?_;refine a8 _ rfl (fun r0=>?_) (fun r0=>?_)
 ·
  have h0:=r0
  have h0:=b7 h0
  exfalso
  rw [hmv] at r0
  exact absurd r0 (by decide)
 ·
  have h0:=r0
  have h0:=b6 h0
  refine aa ?_;refine sx7 ?_;(iterate 3 refine qy ?_);refine rc rfl rfl rfl rfl rfl rfl a9s (ab5 ((t.attrs.length:Nat):Int)) (CoL.refl _) rfl rfl ?_;refine qy ?_;refine a6 ?_;refine sx7 ?_;refine qy ?_
  refine a6 ?_;refine a7 ?_;refine sx7 ?_;refine qy ?_;refine a6 ?_;refine af ?_
  refine jy 9 900 true 1 2 (lf zC []) (by decide) rfl (CoP.sl rfl (.inr rfl) (fun h=>h) (fun i j hi _=>absurd hi (Nat.not_lt_zero i))) (.inr rfl) rfl ?_
  refine aw (ι:=Nat) ⟨[(2,some _),(3,some _),(8,some _)],[(0,some _),(1,some _)]⟩ ⟨⟨c9,c9,c9,trivial⟩,⟨u9,u9,trivial⟩⟩ (fun i=>⟨[(9,some (.v (.one (.ref 900 (kg t.attrs.length t.rows d i).length)))),(10,some (vI i))],[(900,some (.arr true 1 2 (kg t.attrs.length t.rows d i).length (lf zC (kg t.attrs.length t.rows d i))))]⟩) (fun i=>i ≤ t.rows.length) (fun i=>t.rows.length - i) (0) (Nat.zero_le _) ⟨⟨zy,zy,trivial⟩,⟨u9,trivial⟩⟩ ?_
  rintro i hi
  have hlen:(kg t.attrs.length t.rows d i).length ≤ i:=a9w
  refine a7 ?_;refine sx7 ?_;(iterate 5 refine qy ?_);refine a6 ?_;refine a8 _ rfl (fun r1=>?_) (fun r1=>?_)
  ·
   have h1:=of_decide_eq_true r1
   try simp only [ty] at h1
   refine aa ?_;refine a7 ?_;refine af ?_;refine sx7 ?_;(iterate 7 refine qy ?_)
   refine rc rfl rfl rfl rfl rfl rfl ag7 (aho t i (d.lhs ||| d.rhs) hok (by omega)) (⟨CoC.refl _,CoC.refl _,cci (bOr _ _),trivial⟩) rfl rfl ?_;refine qy ?_;refine bd rfl rfl (fun r2=>?_) (fun r2=>?_)
   ·
    have h2:=r2
    (iterate 9 refine qy ?_ (hg:=(gtt r2)))
    refine rc rfl rfl rfl rfl rfl rfl ag7 (aho t i (d.lhs ||| (am ((t.attrs.length:Nat):Int) &&& ~~~d.rhs)) hok (by omega)) (⟨CoC.refl _,CoC.refl _,cci (by rw [jx,bOr]),trivial⟩) rfl (gtt r2) ?_;refine qy ?_
    refine a6 ?_;refine a8 _ rfl (fun r3=>?_) (fun r3=>?_)
    ·
     have h3:=r3
     have h3:=ck r2 h3
     have hq:o5 t.attrs.length t.rows d i = true:=by unfold o5;simp_all
     refine gy ?_;(iterate 7 refine qy ?_);refine m9 2 ?_;refine ra 3 true rfl rfl rfl rfl rfl rfl ?_;refine qy ?_;refine a6 ?_;refine gy ?_;(iterate 3 refine qy ?_);refine a6 ?_
     first | (refine ⟨i + 1, ?_, ?_, ?_⟩
              · show i + 1 ≤ _;omega
              · first | omega | (dsimp only;omega)
              · exact ⟨⟨⟨_,rfl,(dw (ka hq))⟩,zy,c9,c9,c9,trivial⟩,⟨⟨_,rfl,(ec (ka hq) (CoP.refl _))⟩,u9,u9,trivial⟩⟩)
           | (refine ⟨i + 1, ?_, ?_, ?_⟩
              · show i + 1 ≤ _;omega
              · first | omega | (dsimp only;omega)
              · exact ⟨⟨⟨_,rfl,(cw (kb hq))⟩,zy,c9,c9,c9,trivial⟩,⟨⟨_,rfl,(c8 (kb hq))⟩,u9,u9,trivial⟩⟩)
    ·
     have h3:=r3
     have h3:=ck r2 h3
     have hq:o5 t.attrs.length t.rows d i = false:=by unfold o5;simp_all
     refine aa ?_;refine gy ?_;(iterate 3 refine qy ?_);refine a6 ?_
     first | (refine ⟨i + 1, ?_, ?_, ?_⟩
              · show i + 1 ≤ _;omega
              · first | omega | (dsimp only;omega)
              · exact ⟨⟨⟨_,rfl,(dw (ka hq))⟩,zy,c9,c9,c9,trivial⟩,⟨⟨_,rfl,(ec (ka hq) (CoP.refl _))⟩,u9,u9,trivial⟩⟩)
           | (refine ⟨i + 1, ?_, ?_, ?_⟩
              · show i + 1 ≤ _;omega
              · first | omega | (dsimp only;omega)
              · exact ⟨⟨⟨_,rfl,(cw (kb hq))⟩,zy,c9,c9,c9,trivial⟩,⟨⟨_,rfl,(c8 (kb hq))⟩,u9,u9,trivial⟩⟩)
   ·
    have h2:=r2
    have hq:o5 t.attrs.length t.rows d i = false:=by unfold o5;simp_all
    (iterate 10 refine k9 (gft r2) ?_);refine rq rfl rfl rfl rfl rfl ?_ (hp:=r2);refine a6 ?_;refine a8 _ rfl (fun e=>by cases e) (fun _=>?_);refine aa ?_;refine gy ?_;(iterate 3 refine qy ?_)
    refine a6 ?_
    first | (refine ⟨i + 1, ?_, ?_, ?_⟩
             · show i + 1 ≤ _;omega
             · first | omega | (dsimp only;omega)
             · exact ⟨⟨⟨_,rfl,(dw (ka hq))⟩,zy,c9,c9,c9,trivial⟩,⟨⟨_,rfl,(ec (ka hq) (CoP.refl _))⟩,u9,u9,trivial⟩⟩)
          | (refine ⟨i + 1, ?_, ?_, ?_⟩
             · show i + 1 ≤ _;omega
             · first | omega | (dsimp only;omega)
             · exact ⟨⟨⟨_,rfl,(cw (kb hq))⟩,zy,c9,c9,c9,trivial⟩,⟨⟨_,rfl,(c8 (kb hq))⟩,u9,u9,trivial⟩⟩)
  ·
   have h1:=of_decide_eq_false r1
   try simp only [ty] at h1
   obtain rfl:i = t.rows.length:=by omega
   refine az ?_;refine a7 ?_;refine ep 9 rfl rfl rfl ?_;refine gy ?_;(iterate 3 refine qy ?_);refine a6 ?_;refine df ?_;refine ⟨.inr rfl, ?_⟩
   have he:=ah4 htz hs hmv
   exact f9 rfl rfl ((by rw [he,afl he];exact CoL.refl _))
theorem ass (t:Tbl) (d:Fd):aj Tryz.prog 6 [t.pc,d.pc] (ao [pP (zl (oi t d)),pI (ja t d)]):=by
 by_cases h1:cb t = 0
 · have hT:=ir.1 h1
   by_cases h2:sub (d.lhs ||| d.rhs) (am ((t.attrs.length:Nat):Int))
   · cases h3:mvB t d with
     | true=>exact ar5 t d hT h2 h3
     | false=>exact ars t d hT h2 h3
   · exact art t d hT h2
 · exact aqu t d h1
theorem atr:ak Tryz.prog 7:=⟨Tryz.f7,Tryz.func7,by kernel_rfl,by kernel_rfl⟩
theorem au8 (l:List Int):aj Tryz.prog 7 [pP (zl l),pP (zl l)] (ao [pB true]):=by
 refine ai (nt:=26) ae Tryz.func7 rfl rfl l9 ?_;refine sx7 ?_;refine qy ?_;refine a6 ?_;(iterate 2 refine a7 ?_)
 refine j1 0 rfl fun hn=>?_
 refine gy ?_;(iterate 5 refine qy ?_);refine a6 ?_;refine a8 _ rfl (fun r0=>?_) (fun r0=>?_)
 ·
  have h0:=r0
  have h0:=of_decide_eq_false (b7 h0)
  try simp only [ty] at h0
  exfalso
  simp at r0
 ·
  have h0:=r0
  have h0:=of_decide_eq_true (b6 h0)
  try simp only [ty] at h0
  refine aa ?_;refine a7 ?_;refine sx7 ?_;refine qy ?_;refine a6 ?_;refine af ?_
  refine aw (ι:=Nat) ⟨[(0,some _),(1,some _)],[]⟩ ⟨⟨c9,c9,trivial⟩,trivial⟩ (fun i=>⟨[(5,some (vI i))],[]⟩) (fun i=>i ≤ l.length) (fun i=>l.length - i) (0) (Nat.zero_le _) ⟨⟨zy,trivial⟩,trivial⟩ ?_
  rintro i hi
  refine a7 ?_;refine sx7 ?_;(iterate 4 refine qy ?_);refine a6 ?_;refine a8 _ rfl (fun r1=>?_) (fun r1=>?_)
  ·
   have h1:=of_decide_eq_true r1
   try simp only [ty] at h1
   refine aa ?_;refine a7 ?_;refine af ?_;refine a7 ?_;refine dp (E:=ci) ae ct [0,1,2,3,4,5,6,7,8] ?_;(iterate 9 refine qy ?_);refine a6 ?_;refine ⟨by kernel_rfl, ?_⟩
   refine a8 _ rfl (fun r2=>?_) (fun r2=>?_)
   ·
    have h2:=r2
    have h2:=of_decide_eq_false (b7 h2)
    try simp only [ty] at h2
    exfalso
    simp_all
   ·
    have h2:=r2
    have h2:=of_decide_eq_true (b6 h2)
    try simp only [ty] at h2
    refine aa ?_;refine gy ?_;(iterate 3 refine qy ?_);refine a6 ?_;refine ⟨i + 1, ?_, ?_, ?_⟩
    · show i + 1 ≤ _;omega
    · first | omega | (dsimp only;omega)
    · exact ⟨⟨zy,c9,c9,trivial⟩,trivial⟩
  ·
   have h1:=of_decide_eq_false r1
   try simp only [ty] at h1
   refine az ?_;refine sx7 ?_;refine qy ?_;refine a6 ?_
   exact hx8 rfl rfl rfl (CoL.refl _)
theorem as6 (t:Tbl) (d:Fd) (hi:∀ r ∈ t.rows,∀ v ∈ r.vals,su v.num):aj Tryz.prog 3 [t.pc,d.pc] (ao [pB true]):=by
 refine ai (nt:=44) ae Tryz.func3 rfl rfl l9 ?_;refine a7 ?_
 skip
 refine gy ?_;refine m9 0 ?_;refine m9 1 ?_;refine qy ?_;refine a6 ?_;refine a7 ?_;refine sx7 ?_;refine rc rfl rfl rfl rfl rfl rfl adj (a35) (CoL.refl _) rfl rfl ?_;(iterate 8 refine qy ?_)
 refine bd rfl rfl (fun r0=>?_) (fun r0=>?_)
 ·
  have h0:=of_decide_eq_true r0
  try simp only [ty] at h0
  (iterate 4 refine k9 (gtf r0) ?_);refine rq rfl rfl rfl rfl rfl ?_ (hp:=r0);refine a6 ?_;refine a8 _ rfl (fun _=>?_) (fun e=>by cases e);refine sx7 ?_
  refine rc rfl rfl rfl rfl rfl rfl adj (a35) (CoL.refl _) rfl rfl ?_;refine qy ?_;refine a6 ?_
  exact hx8 rfl rfl rfl (CoL.refl _)
 ·
  have h0:=of_decide_eq_false r0
  try simp only [ty] at h0
  (iterate 4 refine qy ?_ (hg:=(gff r0)));refine qy ?_;refine a6 ?_;refine a8 _ rfl (fun r1=>?_) (fun r1=>?_)
  ·
   have h1:=r1
   have h1:=d7 r0 h1
   have h1:=of_decide_eq_true h1
   try simp only [ty] at h1
   refine sx7 ?_;refine rc rfl rfl rfl rfl rfl rfl adj (a35) (CoL.refl _) rfl rfl ?_;refine qy ?_;refine a6 ?_
   exact hx8 rfl rfl rfl (CoL.refl _)
  ·
   have h1:=r1
   have h1:=d7 r0 h1
   have h1:=of_decide_eq_false h1
   try simp only [ty] at h1
   refine aa ?_;refine sx7 ?_;(iterate 2 refine qy ?_);refine rc rfl rfl rfl rfl rfl rfl auq (avo t d hi) (CoL.refl _) rfl rfl ?_;(iterate 5 refine qy ?_);refine a6 ?_;refine sx7 ?_;(iterate 2 refine qy ?_)
   refine rc rfl rfl rfl rfl rfl rfl aum (ass t d) (CoL.refl _) rfl rfl ?_;(iterate 5 refine qy ?_);refine a6 ?_;refine sx7 ?_;(iterate 4 refine qy ?_);refine bd rfl rfl (fun r2=>?_) (fun r2=>?_)
   ·
    have h2:=of_decide_eq_true r2
    try simp only [ty] at h2
    (iterate 2 refine qy ?_ (hg:=(gtt r2)));refine rc rfl rfl rfl rfl rfl rfl atr (au8 (oi t d)) (CoL.refl _) rfl (gtt r2) ?_;(iterate 2 refine qy ?_);refine a6 ?_
    exact hx8 rfl rfl rfl (⟨ccb (by first | rfl | simp),trivial⟩)
   ·
    have h2:=of_decide_eq_false r2
    try simp only [ty] at h2
    exfalso
    simp at r2
end Go.Hx
end

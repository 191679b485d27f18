/- A part of the proof: V29 Cs31 V30 Cs32 Cs33 Cs34 Cs35 V34 Cs36 Cz1m Cs37 Cs40 Ls2 Ls3 Ls5 W0 Bz3. -/
import Derived.Test.YtkkenjdfbojdlaaGreatDoorEx23
import Derived.Test.YtkkenjdfbojdlaaGreatDoorEx25
import Derived.Test.YtkkenjdfbojdlaaGreatDoorEx29
import Derived.Test.YtkkenjdfbojdlaaGreatDoorEx30
set_option linter.all false
section
namespace Go.Hx
open Go.Proofs
set_option maxRecDepth 100000
theorem ah2:goodFn Tryz.prog 204:=⟨Tryz.f204,Tryz.func204,by kernel_rfl,by kernel_rfl⟩
theorem aop (s:AS):ae Tryz.prog 204 [pA s] (ai [pP (asl (dz s))]):=by
 refine a8 (nt:=18) a7 Tryz.func204 rfl rfl l9 ?_;refine w_6 ?_;refine m9 0 ?_;refine w_9 ?_
 refine aj (ι:=Nat × List AS × AS) ⟨[(0,some _)],[]⟩ ⟨⟨c9,trivial⟩,trivial⟩ (fun x=>⟨[(3,some (.v (.one (.ref 0 x.2.1.length)))),(4,some (vA x.2.2))],[(0,some (.arr true 1 46 x.2.1.length (lf sC x.2.1)))]⟩) (fun x=>TsI s x) (fun x=>x.1) ((s.toNat + 1,[0],s)) (b33 s) ⟨⟨zy,zy,trivial⟩,⟨⟨_,rfl,(yl (CoP.refl _))⟩,trivial⟩⟩ ?_
 rintro x hx
 have hlen:=hx.2
 have hsl:=s.isLt
 refine w_6 ?_;refine a6 _ rfl (fun r0=>?_) (fun r0=>?_)
 ·
  have h0:=r0
  have h0:=of_decide_eq_false (ap h0)
  try simp only [ty] at h0
  have hne:x.2.2 ≠ 0:=fun e=>h0 (by rw [e];rfl)
  refine w_6 ?_;refine m9 1 ?_;refine ra 2 true rfl rfl rfl rfl rfl rfl ?_;refine w_4 ?_;refine rq rfl rfl rfl rfl rfl ?_ (hp:=(vf hne));refine w_4 ?_
  refine ⟨(x.1 - 1,x.2.1 ++ [x.2.2],(x.2.2 - 1) &&& s), ?_, ?_, ?_⟩
  · exact b54 hx hne
  · dsimp only
    omega
  exact ⟨⟨⟨_,rfl,(d8 rfl)⟩,⟨_,rfl,(dv (ur hne))⟩,c9,trivial⟩,⟨⟨_,rfl,(dt rfl (CoP.refl _))⟩,trivial⟩⟩
 have h0:=r0
 have h0:=of_decide_eq_true (am h0)
 try simp only [ty] at h0
 have hz:x.2.2 = 0:=c6.1 h0
 refine w_6 ?_;refine bt 2 rfl rfl rfl ?_
 exact hx8 rfl rfl rfl (⟨CoC.one (CoP.of_eq (by rw [← b88 hx hz];rfl)),trivial⟩)
theorem b3d:goodFn Tryz.prog 238:=⟨Tryz.f238,Tryz.func238,by kernel_rfl,by kernel_rfl⟩
theorem bax (l:List Fd) (p x:AS):ae Tryz.prog 238 [pP (fdl l),pA p,pA x] (ai [pB (zd l p x)]):=by
 refine a8 (nt:=27) a7 Tryz.func238 rfl rfl l9 ?_;refine ez ?_
 refine aj (ι:=AS) ⟨[(0,some _),(1,some _),(2,some _)],[]⟩ ⟨⟨c9,c9,c9,trivial⟩,trivial⟩ (fun r=>⟨[(7,some (vA r))],[]⟩) (fun r=>a9w l p x r) (fun r=>r.toNat) (x) (avy l p x) ⟨⟨zy,trivial⟩,trivial⟩ ?_
 rintro r hr
 refine w_6 ?_;refine a6 _ rfl (fun r0=>?_) (fun r0=>?_)
 ·
  have h0:=r0
  have h0:=of_decide_eq_false (ap h0)
  try simp only [ty] at h0
  have hne:r ≠ 0:=fun e=>h0 (by rw [e];rfl)
  have hlow:=b1n hr hne
  refine w_9 ?_;refine rqw rfl rfl rfl rfl rfl ?_;refine w_2 ?_;refine rc rfl rfl rfl rfl rfl rfl od (sc l (noA x (gh r))) (⟨CoC.refl _,cci (by rw [ba6 r hne rfl,jd];rfl),trivial⟩) rfl rfl ?_;refine w_5 ?_
  refine a6 _ rfl (fun r1=>?_) (fun r1=>?_)
  ·
   have h1:=of_decide_eq_true r1
   try simp only [ty] at h1
   refine w_4 ?_
   exact hx8 rfl rfl rfl (⟨ccb (b8u hlow.1 hlow.2 (nc.symm.trans (decide_eq_true (by assumption)))).symm,trivial⟩)
  have h1:=of_decide_eq_false r1
  try simp only [ty] at h1
  refine w_4 ?_;refine rq rfl rfl rfl rfl rfl ?_ (hp:=(vf hne));refine w_3 ?_;refine ⟨r &&& (r - 1), ?_, ?_, ?_⟩
  · exact atr hr hne (nc.symm.trans (decide_eq_false (by assumption)))
  · exact b5r hne
  exact ⟨⟨⟨_,rfl,(dv (adq hne))⟩,c9,c9,c9,trivial⟩,trivial⟩
 have h0:=r0
 have h0:=of_decide_eq_true (am h0)
 try simp only [ty] at h0
 have hz:r = 0:=c6.1 h0
 refine w_5 ?_
 exact hx8 rfl rfl rfl (⟨ccb (b0s hr hz).symm,trivial⟩)
theorem b19:goodFn Tryz.prog 203:=⟨Tryz.f203,Tryz.func203,by kernel_rfl,by kernel_rfl⟩
theorem b38 (l:List Fd) (p:AS):ae Tryz.prog 203 [pP (fdl l),pA p] (ai [pA (pj l p)]):=by
 refine a8 (nt:=33) a7 Tryz.func203 rfl rfl l9 ?_;refine d7 ?_
 have htl:=aaa p
 refine w_2 ?_;refine rc rfl rfl rfl rfl rfl rfl ah2 (aop p) (CoL.refl _) rfl rfl ?_;refine w_4 ?_
 refine aj (ι:=Nat) ⟨[(0,some _),(1,some _),(9,some _),(10,some _)],[]⟩ ⟨⟨c9,c9,c9,c9,trivial⟩,trivial⟩ (fun i=>⟨[(5,some (vA (pz l p i))),(11,some (vI i))],[]⟩) (fun i=>i ≤ (dz p).length) (fun i=>(dz p).length - i) (0) (Nat.zero_le _) ⟨⟨⟨_,rfl,(dv rfl)⟩,zy,trivial⟩,trivial⟩ ?_
 rintro i hi
 refine w_5 ?_;refine a6 _ rfl (fun r0=>?_) (fun r0=>?_)
 ·
  have h0:=of_decide_eq_true r0
  try simp only [ty] at h0
  refine ld ?_;refine rc rfl rfl rfl rfl rfl rfl od (sc l ((dz p).getD i default)) (CoL.refl _) rfl rfl ?_;refine w_5 ?_;refine bc rfl rfl (fun r1=>?_) (fun r1=>?_)
  ·
   have h1:=of_decide_eq_true r1
   try simp only [ty] at h1
   (iterate 3 refine qy ?_ (hg:=(gtt r1)));refine rc rfl rfl rfl rfl rfl rfl b3d (bax l p ((dz p).getD i default)) (CoL.refl _) rfl (gtt r1) ?_;refine w_2 ?_;refine a6 _ rfl (fun r2=>?_) (fun r2=>?_)
   ·
    have h2:=r2
    have h2:=dc r1 h2
    refine d7 ?_;refine ⟨i + 1, ?_, ?_, ?_⟩
    · show i + 1 ≤ _;omega
    · first | omega | (dsimp only;omega)
    exact ⟨⟨⟨_,rfl,(by first | exact dv (by rw [bOr,a4h (by omega) (ae0 (nc.symm.trans (decide_eq_true (by assumption))) (by assumption))];rfl) | exact dv (by rw [qs (by omega) (a9n (by assumption))]) | exact dv (by rw [qs (by omega) (a9p (nc.symm.trans (decide_eq_false (by assumption))))]))⟩,zy,c9,c9,c9,c9,trivial⟩,trivial⟩
   have h2:=r2
   have h2:=dc r1 h2
   refine w_5 ?_;refine ⟨i + 1, ?_, ?_, ?_⟩
   · show i + 1 ≤ _;omega
   · first | omega | (dsimp only;omega)
   exact ⟨⟨⟨_,rfl,(by first | exact dv (by rw [bOr,a4h (by omega) (ae0 (nc.symm.trans (decide_eq_true (by assumption))) (by assumption))];rfl) | exact dv (by rw [qs (by omega) (a9n (by assumption))]) | exact dv (by rw [qs (by omega) (a9p (nc.symm.trans (decide_eq_false (by assumption))))]))⟩,zy,c9,c9,c9,c9,trivial⟩,trivial⟩
  have h1:=of_decide_eq_false r1
  try simp only [ty] at h1
  (iterate 4 refine k9 (gft r1) ?_);refine rq rfl rfl rfl rfl rfl ?_ (hp:=r1);refine b8 ?_;refine a6 _ rfl (fun e=>by cases e) (fun _=>?_);refine w_5 ?_;refine ⟨i + 1, ?_, ?_, ?_⟩
  · show i + 1 ≤ _;omega
  · first | omega | (dsimp only;omega)
  exact ⟨⟨⟨_,rfl,(by first | exact dv (by rw [bOr,a4h (by omega) (ae0 (nc.symm.trans (decide_eq_true (by assumption))) (by assumption))];rfl) | exact dv (by rw [qs (by omega) (a9n (by assumption))]) | exact dv (by rw [qs (by omega) (a9p (nc.symm.trans (decide_eq_false (by assumption))))]))⟩,zy,c9,c9,c9,c9,trivial⟩,trivial⟩
 have h0:=of_decide_eq_false r0
 try simp only [ty] at h0
 obtain rfl:i = (dz p).length:=by omega
 refine w_6 ?_
 exact hx8 rfl rfl rfl (⟨cci (by rw [ajx]),trivial⟩)
end Go.Hx
end
section
namespace Go.Hx
def be9 (l:List Fd) (p x:AS) (a:Nat):Bool:=(List.range a).all fun b=>!(x.getLsbD b && n5 l p (noA x b))
def bd3 (i:Nat):List AS:=(List.range i).map (BitVec.ofNat 32)
def prQ (l:List Fd) (p x:AS):Bool:=decide (sub x p) && uq l p x
def bdj (l:List Fd) (p:AS) (i:Nat):AS:=orL ((bd3 i).filter (prQ l p))
section
variable {l:List Fd} {p:AS} {i:Nat}
end
def qu (l:List Fd) (p x:AS):Bool:=!n5 l p x && decide (((clo l x &&& p) &&& ~~~x) &&& ~~~pj l p ≠ 0)
def se (l:List Fd) (p:AS):Bool:=!(dz p).any (qu l p)
theorem b1m {l:List Fd} {p:AS} (h:∀ x,sub x p → qu l p x = false):se l p = true:=by
 unfold se
 have:(dz p).any (qu l p) = false:=by
  rw [List.any_eq_false]
  intro x hx
  rw [h x (w3.1 hx)]
  decide
 rw [this];rfl
theorem b4d {l:List Fd} {p x:AS} (hx:sub x p) (h:qu l p x = true):se l p = false:=by
 unfold se
 have:(dz p).any (qu l p) = true:=by
  rw [List.any_eq_true]
  exact ⟨x,w3.2 hx,h⟩
 rw [this];rfl
theorem b0c {l:List Fd} {p x:AS}:decide (bj .andNot .u32 (bj .andNot .u32 (bj .and .u32 (asI (clo l x)) (asI p)) (asI x)) (asI (pj l p)) = 0) = decide (((clo l x &&& p) &&& ~~~x) &&& ~~~pj l p = 0):=by
 rw [i6,jd,jd,show (0:Int) = asI 0 from rfl,a6f]
theorem apb {l:List Fd} {p x:AS} (h:n5 l p x = true):qu l p x = false:=by unfold qu;rw [h];rfl
theorem ali {l:List Fd} {p x:AS} (h:bj .andNot .u32 (bj .andNot .u32 (bj .and .u32 (asI (clo l x)) (asI p)) (asI x)) (asI (pj l p)) = 0):qu l p x = false:=by
 have e:=b0c.symm.trans (decide_eq_true h)
 unfold qu
 rw [decide_eq_false (fun hn=>hn (of_decide_eq_true e))]
 simp
theorem bar {l:List Fd} {p x:AS} (h0:n5 l p x = false) (h:¬ bj .andNot .u32 (bj .andNot .u32 (bj .and .u32 (asI (clo l x)) (asI p)) (asI x)) (asI (pj l p)) = 0):qu l p x = true:=by
 have e:=b0c.symm.trans (decide_eq_false h)
 unfold qu
 rw [h0,decide_eq_true (of_decide_eq_false e)]
 rfl
theorem az4 {l:List Fd} {p x:AS} (h:bj .and .u32 (asI (clo l x)) (asI p) = asI p):n5 l p x = true:=nc.symm.trans (decide_eq_true h)
theorem bad {l:List Fd} {p x:AS} (h:¬ bj .and .u32 (asI (clo l x)) (asI p) = asI p):n5 l p x = false:=nc.symm.trans (decide_eq_false h)
theorem atv {l:List Fd} {p:AS} (h:∀ j,j < (dz p).length → qu l p ((dz p).getD j default) = false):se l p = true:=b1m fun x hx=>by
 obtain ⟨j,hj,rfl⟩:=List.getElem_of_mem (w3.2 hx)
 have:=h j hj
 rwa [List.getD_eq_getElem?_getD,List.getElem?_eq_getElem hj,Option.getD_some] at this
def vg (n:Int) (l:List Fd) (p:AS):Int:=if bg n l = 0 then (if sub p (ar n) then 0 else 1) else bg n l
def a10 (n:Int) (l:List Fd) (p:AS):Bool:=decide (vg n l p = 0) && se l p
theorem bbp {n:Int} {l:List Fd} {p:AS} (h:¬ bg n l = 0):vg n l p = bg n l ∧ a10 n l p = false:=by
 have e:vg n l p = bg n l:=if_neg h
 exact ⟨e,by unfold a10;rw [e,decide_eq_false h];rfl⟩
theorem b9z {n:Int} {l:List Fd} {p:AS} (h:bg n l = 0) (h2:¬ sub p (ar n)):vg n l p = 1 ∧ a10 n l p = false:=by
 have e:vg n l p = 1:=by unfold vg;rw [if_pos h,if_neg h2]
 exact ⟨e,by unfold a10;rw [e];rfl⟩
theorem azf {n:Int} {l:List Fd} {p:AS} (h:bg n l = 0) (h2:sub p (ar n)):vg n l p = 0 ∧ a10 n l p = se l p:=by
 have e:vg n l p = 0:=by unfold vg;rw [if_pos h,if_pos h2]
 exact ⟨e,by unfold a10;rw [e];rfl⟩
end Go.Hx
end
section
namespace Go.Hx
open Go.Proofs
set_option maxRecDepth 100000
set_option maxHeartbeats 1000000
theorem b53:goodFn Tryz.prog 156:=⟨Tryz.f156,Tryz.func156,by kernel_rfl,by kernel_rfl⟩
theorem b1f (n:Int) (l:List Fd) (p:AS):ae Tryz.prog 156 [pI n,pP (fdl l),pA p] (ai [pB (a10 n l p),pI (vg n l p)]):=by
 refine a8 (nt:=50) a7 Tryz.func156 rfl rfl l9 ?_;refine d7 ?_;refine rc rfl rfl rfl rfl rfl rfl qg (vh n l) (CoL.refl _) rfl rfl ?_;refine w_7 ?_;refine a6 _ rfl (fun r0=>?_) (fun r0=>?_)
 ·
  have h0:=r0
  have h0:=of_decide_eq_false (ap h0)
  try simp only [ty] at h0
  refine w_7 ?_;refine ⟨.inr rfl, ?_⟩
  have he:=bbp (p:=p) h0
  exact f9 rfl rfl (⟨ccb he.2.symm,cci he.1.symm,trivial⟩)
 have h0:=r0
 have h0:=of_decide_eq_true (am h0)
 try simp only [ty] at h0
 refine w_3 ?_
 have hv:=fq h0
 have hsh:=ajq (s:=p) (n:=n) hv.1 hv.2.1
 refine w_6 ?_;refine a6 _ rfl (fun r1=>?_) (fun r1=>?_)
 ·
  have h1:=r1
  have h1:=of_decide_eq_false (ap h1)
  try simp only [ty] at h1
  refine w_6 ?_;refine ⟨.inr rfl, ?_⟩
  have he:=b9z h0 (fun e=>h1 (hsh.2 e))
  exact f9 rfl rfl (⟨ccb he.2.symm,cci he.1.symm,trivial⟩)
 have h1:=r1
 have h1:=of_decide_eq_true (am h1)
 try simp only [ty] at h1
 refine w_5 ?_;refine rc rfl rfl rfl rfl rfl rfl b19 (b38 l p) (CoL.refl _) rfl rfl ?_;refine w_4 ?_
 have htl:=aaa p
 refine w_2 ?_;refine rc rfl rfl rfl rfl rfl rfl ah2 (aop p) (CoL.refl _) rfl rfl ?_;refine w_4 ?_
 refine aj (ι:=Nat) ⟨[(1,some _),(2,some _),(9,some _),(27,some _),(28,some _)],[]⟩ ⟨⟨c9,c9,c9,c9,c9,trivial⟩,trivial⟩ (fun i=>⟨[(29,some (vI i))],[]⟩) (fun i=>i ≤ (dz p).length ∧ (∀ j,j < i → qu l p ((dz p).getD j default) = false)) (fun i=>(dz p).length - i) (0) (⟨Nat.zero_le _,ck⟩) ⟨⟨zy,trivial⟩,trivial⟩ ?_
 rintro i ⟨hi,hI⟩
 refine w_5 ?_;refine a6 _ rfl (fun r2=>?_) (fun r2=>?_)
 ·
  have h2:=of_decide_eq_true r2
  try simp only [ty] at h2
  refine ld ?_;refine rc rfl rfl rfl rfl rfl rfl od (sc l ((dz p).getD i default)) (CoL.refl _) rfl rfl ?_;refine d7 ?_;refine bc rfl rfl (fun r3=>?_) (fun r3=>?_)
  ·
   have h3:=r3
   have h3:=of_decide_eq_false (ap h3)
   try simp only [ty] at h3
   (iterate 6 refine qy ?_ (hg:=(gtt r3)));refine w_2 ?_;refine a6 _ rfl (fun r4=>?_) (fun r4=>?_)
   ·
    have h4:=r4
    have h4:=dc r3 h4
    have h4:=of_decide_eq_false (ap h4)
    try simp only [ty] at h4
    refine w_6 ?_;refine ⟨.inr rfl, ?_⟩
    have he:=azf h0 (hsh.1 h1)
    have hb:=b4d (w3.1 (acy (l:=dz p) (j:=i) (by omega))) (bar (bad h3) h4)
    exact f9 rfl rfl (⟨ccb (by rw [he.2,hb]),cci he.1.symm,trivial⟩)
   have h4:=r4
   have h4:=dc r3 h4
   have h4:=of_decide_eq_true (am h4)
   try simp only [ty] at h4
   refine w_5 ?_;refine ⟨i + 1, ?_, ?_, ?_⟩
   · exact ⟨by show i + 1 ≤ _;omega,br hI (by first | exact apb (az4 h3) | exact ali h4)⟩
   · first | omega | (dsimp only;omega)
   exact ⟨⟨zy,c9,c9,c9,c9,c9,trivial⟩,trivial⟩
  have h3:=r3
  have h3:=of_decide_eq_true (am h3)
  try simp only [ty] at h3
  (iterate 6 refine k9 (gft r3) ?_);refine rq rfl rfl rfl rfl rfl ?_ (hp:=r3);refine b8 ?_;refine a6 _ rfl (fun e=>by cases e) (fun _=>?_);refine w_5 ?_;refine ⟨i + 1, ?_, ?_, ?_⟩
  · exact ⟨by show i + 1 ≤ _;omega,br hI (by first | exact apb (az4 h3) | exact ali h4)⟩
  · first | omega | (dsimp only;omega)
  exact ⟨⟨zy,c9,c9,c9,c9,c9,trivial⟩,trivial⟩
 have h2:=of_decide_eq_false r2
 try simp only [ty] at h2
 obtain rfl:i = (dz p).length:=by omega
 refine w_7 ?_;refine ⟨.inr rfl, ?_⟩
 have he:=azf h0 (hsh.1 h1)
 have hb:=atv hI
 exact f9 rfl rfl (⟨ccb (by rw [he.2,hb]),cci he.1.symm,trivial⟩)
end Go.Hx
end
section
namespace Go.Hx
section
variable {n:Int} {l:List Fd}
def b89 (n:Int) (l:List Fd) (f:Fd):Bool:=decide (clo l f.lhs ≠ ar n) && decide (f.rhs &&& ~~~pj l (ar n) ≠ 0)
def bdr (n:Int) (l:List Fd) (i:Nat):List Fd:=((x7 n l).take i).filter (b89 n l)
def bdl (n:Int) (l:List Fd):List Fd:=(x7 n l).filter (b89 n l)
theorem aeb (n:Int) (l:List Fd):(x7 n l).length ≤ 2048:=by
 unfold x7
 split
 · rename_i h
   have h1:=(fq h).2.2.1
   have h2:=a7f l
   have h3:(adc l).length ≤ (xe l).length:=by
    have:∀ (f:Nat) (k:List Fd) (i:Nat),(ph f k i).length ≤ k.length:=by
     intro f
     induction f with
     | zero=>intro k i;exact Nat.le_refl _
     | succ f ih =>
      intro k i
      unfold ph
      split
      · rename_i hi
        split
        · exact Nat.le_trans (ih _ _) (by rw [jt hi];omega)
        exact ih _ _
      exact Nat.le_refl _
    exact this _ _ _
   omega
 simp
end
end Go.Hx
end
section
namespace Go.Hx
def bd6 (l:List Fd) (pr k:AS):Bool:=(List.range 32).all fun a=>!k.getLsbD a || decide (sub (clo l (noA k a)) pr)
def bck (n:Int) (l:List Fd):Bool:=(b05 n l).all (bd6 l (orL (b05 n l)))
def bel (n:Int) (l:List Fd):Bool:=decide (bg n l = 0) && bck n l
section
variable {l:List Fd} {pr k:AS}
def be8 (l:List Fd) (pr k r:AS):Prop:=sub r k ∧ ∀ a,a < 32 → k.getLsbD a = true → r.getLsbD a = true ∨ sub (clo l (noA k a)) pr
def beb (l:List Fd) (pr k:AS) (s:Nat):Prop:=∀ j,j < s → sub (BitVec.ofNat 32 j) k → sub (clo l (BitVec.ofNat 32 j)) pr
end
section
variable {n:Int} {l:List Fd}
end
end Go.Hx
end
section
namespace Go.Hx
def mgR (l:List Fd) (s:AS):AS:=(l.filter fun f=>decide (f.lhs = s)).foldl (fun a f=>a ||| f.rhs) 0
def mgF (l:List Fd) (s:AS):Fd:=⟨s,mgR l s⟩
def a87 (l:List Fd):List Fd:=(ord (l.map Fd.lhs)).map (mgF l)
theorem bbf {l:List Fd} {s:AS} {i:Nat} (hi:i < l.length) (h:(l.getD i default).lhs = s):mgR (l.take (i + 1)) s = mgR (l.take i) s ||| (l.getD i default).rhs:=by
 unfold mgR
 rw [b6 hi,List.filter_append,List.foldl_append]
 simp only [List.filter_cons,h,decide_true,if_true,List.filter_nil,List.foldl_cons,List.foldl_nil]
theorem bag {l:List Fd} {s:AS} {i:Nat} (hi:i < l.length) (h:¬ (l.getD i default).lhs = s):mgR (l.take (i + 1)) s = mgR (l.take i) s:=by
 unfold mgR
 rw [b6 hi,List.filter_append,List.foldl_append]
 simp only [List.filter_cons,h,decide_false,Bool.false_eq_true,if_false,List.filter_nil,List.foldl_nil]
theorem bbz {l:List Fd} {s:AS} {i:Nat} (hi:i < l.length) (h:asI (l.getD i default).lhs = asI s):PV.raw (.int .u32 (bj .or .u32 (asI (mgR (l.take i) s)) (asI (l.getD i default).rhs))) = asC (mgR (l.take (i + 1)) s):=by
 rw [bOr,bbf hi (c6.1 h)]
 rfl
theorem axj (l:List Fd):(a87 l).length ≤ l.length:=by
 unfold a87
 rw [List.length_map]
 exact Nat.le_trans (mo _) (by rw [List.length_map];exact Nat.le_refl _)
end Go.Hx
end
section
namespace Go.Hx
open Go.Proofs
def be2 (t:AS) (l:List Fd):Prop:=∀ x ∈ l,sub x.rhs t
def gj (n:Int) (l:List Fd):List Fd:=a87 (x7 n l)
theorem afh (n:Int) (l:List Fd):(gj n l).length ≤ 2048:=Nat.le_trans (axj _) (aeb n l)
def pt (f:Fd):AS:=f.lhs ||| f.rhs
section
variable {n:Int} {l:List Fd}
def kp (n:Int) (l:List Fd) (i:Nat):Bool:=((gj n l).take i).any fun f=>jc n l (pt f)
theorem zm {i:Nat} (hi:i < (gj n l).length):kp n l (i + 1) = (kp n l i || jc n l (pt ((gj n l).getD i default))):=by
 unfold kp
 rw [b6 hi,List.any_append]
 simp
theorem atg (h:bg n l = 0):jc n l (ar n) = true:=decide_eq_true ⟨h,j5 _,gq (av8 h (j5 _)) a6q⟩
theorem b2j (h:bg n l = 0):rkE n l (ar n) = 0:=(b7s h (atg h)).2
def a5j (n:Int) (l:List Fd):List AS:=(gj n l).map pt
def b70 (n:Int) (l:List Fd):List AS:=gt (if kp n l (gj n l).length = true then a5j n l else a5j n l ++ [rkS n l (ar n)])
def a0s (n:Int) (l:List Fd):List AS:=if bg n l = 0 then b70 n l else []
theorem b8h (h:¬ bg n l = 0):a0s n l = []:=if_neg h
theorem b65 (h:bg n l = 0):a0s n l = b70 n l:=if_pos h
theorem awf (n:Int) (l:List Fd):(a5j n l).length ≤ 2048:=by unfold a5j;rw [List.length_map];exact afh n l
theorem aa3 (n:Int) (l:List Fd):((gj n l).take (gj n l).length).map pt = a5j n l:=by rw [List.take_length];rfl
def a1d (n:Int) (l:List Fd):List AS:=if kp n l (gj n l).length = true then a5j n l else a5j n l ++ [rkS n l (ar n)]
theorem xu (h:kp n l (gj n l).length = true):a1d n l = ((gj n l).take (gj n l).length).map pt:=by rw [aa3];exact if_pos h
theorem a6e (h:kp n l (gj n l).length = false):a1d n l = ((gj n l).take (gj n l).length).map pt ++ [rkS n l (ar n)]:=by rw [aa3];exact if_neg (by rw [h];decide)
theorem ayq (n:Int) (l:List Fd):(a1d n l).length ≤ 4096:=by
 have:=awf n l
 unfold a1d
 split
 · omega
 rw [List.length_append,List.length_singleton];omega
theorem azj {i:Nat} (hi:i < (gj n l).length) (h:kp n l i = true):true = kp n l (i + 1):=by rw [zm hi,h];rfl
theorem azi {i:Nat} (hi:i < (gj n l).length) (h:kp n l i = false):jc n l (pt ((gj n l).getD i default)) = kp n l (i + 1):=by rw [zm hi,h];rfl
theorem aze {i:Nat} (hi:i < (gj n l).length):(bif kp n l i then true else jc n l (pt ((gj n l).getD i default))) = kp n l (i + 1):=by rw [zm hi];cases kp n l i <;> rfl
end
end Go.Hx
end
section
namespace Go.Hx
open Go.Proofs
set_option maxRecDepth 100000
set_option maxHeartbeats 1000000
theorem b3m:goodFn Tryz.prog 135:=⟨Tryz.f135,Tryz.func135,by kernel_rfl,by kernel_rfl⟩
theorem b7t:goodFn Tryz.prog 71:=⟨Tryz.f71,Tryz.func71,by kernel_rfl,by kernel_rfl⟩
theorem b79 (hM:∀ k:List Fd,k.length ≤ 16777216 → ae Tryz.prog 135 [pP (fdl k)] (ai [pP (fdl (a87 k))])) (n:Int) (l:List Fd):ae Tryz.prog 71 [pI n,pP (fdl l)] (ai [pP (fdl (gj n l)),pI (bg n l)]):=by
 refine a8 (nt:=17) a7 Tryz.func71 rfl rfl l9 ?_;refine w_9 ?_;refine rc rfl rfl rfl rfl rfl rfl b0h (b9v n l) (CoL.refl _) rfl rfl ?_;refine w_7 ?_
 have hml:=aeb n l
 refine w_2 ?_;refine rc rfl rfl rfl rfl rfl rfl b3m (hM (x7 n l) (by omega)) (CoL.refl _) rfl rfl ?_;refine w_4 ?_
 exact hx8 rfl rfl rfl (CoL.refl _)
theorem apm:goodFn Tryz.prog 32:=⟨Tryz.f32,Tryz.func32,by kernel_rfl,by kernel_rfl⟩
theorem ai2 (hM:∀ k:List Fd,k.length ≤ 16777216 → ae Tryz.prog 135 [pP (fdl k)] (ai [pP (fdl (a87 k))])) (n:Int) (l:List Fd):ae Tryz.prog 32 [pI n,pP (fdl l)] (ai [pP (asl (a0s n l)),pI (bg n l)]):=by
 refine a8 (nt:=66) a7 Tryz.func32 rfl rfl l9 ?_;refine w_9 ?_;refine rc rfl rfl rfl rfl rfl rfl b7t (b79 hM n l) (CoL.refl _) rfl rfl ?_;refine fl ?_;refine a6 _ rfl (fun r0=>?_) (fun r0=>?_)
 ·
  have h0:=r0
  have h0:=of_decide_eq_false (ap h0)
  try simp only [ty] at h0
  refine w_6 ?_
  exact hx8 rfl rfl rfl (⟨CoC.one (a0k (b8h h0)),CoC.refl _,trivial⟩)
 have h0:=r0
 have h0:=of_decide_eq_true (am h0)
 try simp only [ty] at h0
 refine w_2 ?_
 have hv:=fq h0
 have hcl:=afh n l
 have hsl:=ayq n l
 refine o0 ?_;refine dy 8 900 true 1 46 (lf sC []) (by decide) rfl (CoP.sl rfl (.inr rfl) (fun h=>h) (fun i j hi _=>absurd hi (Nat.not_lt_zero i))) (.inr rfl) rfl ?_
 refine aj (ι:=Nat) ⟨[(0,some _),(1,some _),(24,some _),(25,some _)],[]⟩ ⟨⟨c9,c9,c9,c9,trivial⟩,trivial⟩ (fun i=>⟨[(8,some (.v (.one (.ref 900 (((gj n l).take i).map pt).length)))),(9,some (vB (kp n l i))),(26,some (vI i))],[(900,some (.arr true 1 46 (((gj n l).take i).map pt).length (lf sC (((gj n l).take i).map pt))))]⟩) (fun i=>i ≤ (gj n l).length) (fun i=>(gj n l).length - i) (0) (Nat.zero_le _) ⟨⟨zy,⟨_,rfl,(cob rfl)⟩,zy,trivial⟩,⟨u9,trivial⟩⟩ ?_
 rintro i hi
 have hlen:(((gj n l).take i).map pt).length ≤ i:=by rw [List.length_map,List.length_take];omega
 refine w_5 ?_;refine a6 _ rfl (fun r1=>?_) (fun r1=>?_)
 ·
  have h1:=of_decide_eq_true r1
  try simp only [ty] at h1
  refine w_7 ?_;refine m9 0 ?_;refine o0 ?_;refine m9 1 ?_;refine ra 2 true rfl rfl rfl rfl rfl rfl ?_;refine w_5 ?_;refine bc rfl rfl (fun r2=>?_) (fun r2=>?_)
  ·
   have h2:=r2
   (iterate 4 refine k9 (gtf r2) ?_);refine rq rfl rfl rfl rfl rfl ?_ (hp:=r2);refine w_6 ?_;refine ⟨i + 1, ?_, ?_, ?_⟩
   · show i + 1 ≤ _;omega
   · first | omega | (dsimp only;omega)
   exact ⟨⟨⟨_,rfl,(d8 (a1r (by omega)))⟩,⟨_,rfl,(cob (by first | exact azj (n:=n) (l:=l) (i:=i) (by omega) (by assumption) | exact azi (n:=n) (l:=l) (i:=i) (by omega) (by assumption) | exact aze (n:=n) (l:=l) (i:=i) (by omega)))⟩,zy,c9,c9,c9,c9,trivial⟩,⟨⟨_,rfl,(dt (a1r (by omega)) (CoP.of_eq (congrArg (fun z=>PV.raw (.int .u32 z)) (bOr _ _))))⟩,trivial⟩⟩
  have h2:=r2
  (iterate 3 refine qy ?_ (hg:=(gff r2)));refine rc rfl rfl rfl rfl rfl rfl a6p (abh n l (pt ((gj n l).getD i default))) (⟨CoC.refl _,CoC.refl _,cci (bOr _ _),trivial⟩) rfl (gff r2) ?_;refine w_7 ?_
  refine ⟨i + 1, ?_, ?_, ?_⟩
  · show i + 1 ≤ _;omega
  · first | omega | (dsimp only;omega)
  exact ⟨⟨⟨_,rfl,(d8 (a1r (by omega)))⟩,⟨_,rfl,(cob (by first | exact azj (n:=n) (l:=l) (i:=i) (by omega) (by assumption) | exact azi (n:=n) (l:=l) (i:=i) (by omega) (by assumption) | exact aze (n:=n) (l:=l) (i:=i) (by omega)))⟩,zy,c9,c9,c9,c9,trivial⟩,⟨⟨_,rfl,(dt (a1r (by omega)) (CoP.of_eq (congrArg (fun z=>PV.raw (.int .u32 z)) (bOr _ _))))⟩,trivial⟩⟩
 have h1:=of_decide_eq_false r1
 try simp only [ty] at h1
 obtain rfl:i = (gj n l).length:=by omega
 refine er ?_
 refine cj (ι:=Unit) ⟨[],[]⟩ ⟨trivial,trivial⟩ (fun _i=>⟨[(8,some (.v (.one (.ref 900 (a1d n l).length))))],[(900,some (.arr true 1 46 (a1d n l).length (lf sC (a1d n l))))]⟩) (fun _i=>True) ?_ ?_
 ·
  refine w_5 ?_;refine a6 _ rfl (fun r3=>?_) (fun r3=>?_)
  ·
   have h3:=r3
   have h3:=ap h3
   refine w_5 ?_;refine rc rfl rfl rfl rfl rfl rfl b7w (b7c n hv.1 hv.2.1) (CoL.refl _) rfl rfl ?_;refine rc rfl rfl rfl rfl rfl rfl b7z (b25 n l (ar n)) (CoL.refl _) rfl rfl ?_;refine fl ?_
   refine a6 _ rfl (fun r4=>?_) (fun r4=>?_)
   ·
    have h4:=r4
    have h4:=of_decide_eq_false (ap h4)
    try simp only [ty] at h4
    exfalso
    exact h4 (b2j h0)
   have h4:=r4
   have h4:=of_decide_eq_true (am h4)
   try simp only [ty] at h4
   refine w_4 ?_;refine m9 3 ?_;refine ra 4 true rfl rfl rfl rfl rfl rfl ?_;refine w_2 ?_;refine ⟨(), ?_, ?_⟩
   · trivial
   exact ⟨⟨⟨_,rfl,(by first | exact jm (by rw [xu (by assumption)]) | exact jm (by rw [a6e (by assumption),List.length_append];rfl))⟩,trivial⟩,⟨⟨_,rfl,(by first | exact gu (xu (by assumption)) (by rw [xu (by assumption)]) | exact dt (a6e (by assumption)) (CoP.refl _))⟩,trivial⟩⟩
  have h3:=r3
  have h3:=am h3
  refine dp ?_;refine ⟨(), ?_, ?_⟩
  · trivial
  exact ⟨⟨⟨_,rfl,(by first | exact jm (by rw [xu (by assumption)]) | exact jm (by rw [a6e (by assumption),List.length_append];rfl))⟩,trivial⟩,⟨⟨_,rfl,(by first | exact gu (xu (by assumption)) (by rw [xu (by assumption)]) | exact dt (a6e (by assumption)) (CoP.refl _))⟩,trivial⟩⟩
 rintro _ _
 refine ct ?_;refine bt 8 rfl rfl rfl ?_;refine w_2 ?_;refine rc rfl rfl rfl rfl rfl rfl afa (a5x (a1d n l) (by omega)) (CoL.refl _) rfl rfl ?_;refine w_3 ?_
 exact hx8 rfl rfl rfl (⟨CoC.one (CoP.of_eq (by rw [b65 h0];rfl)),cci h0.symm,trivial⟩)
end Go.Hx
end
section
namespace Go.Hx
def Eqv (l k:List Fd):Prop:=∀ s,om l s ↔ om k s
theorem Eqv.refl (l:List Fd):Eqv l l:=fun s=>Iff.rfl
theorem Eqv.trans {a b c:List Fd} (h:Eqv a b) (k:Eqv b c):Eqv a c:=fun s=>(h s).trans (k s)
theorem Eqv.clo {l k:List Fd} (h:Eqv l k) (s:AS):clo l s = clo k s :=
 gq (a13 ((h _).2 a0c) a6q) (a13 ((h _).1 a0c) a6q)
end Go.Hx
end
section
namespace Go.Hx
def bdw (l:List Fd) (ps:List AS) (t:AS):Prop:=∀ p ∈ ps,sub (clo l (t &&& p) &&& p) t
def bbl (l:List Fd) (s p:AS):AS:=s ||| (clo l (s &&& p) &&& p)
def bdi (l:List Fd) (ps:List AS) (s:AS):AS:=ps.foldl (bbl l) s
def PrI (l:List Fd) (ps:List AS) (z s:AS):Prop:=sub z s ∧ sub s (a4p l ps z)
def bem (n:Int) (l:List Fd) (i:Nat):List AS:=((bi (ar n)).take i).filter fun s=>!gr l s
end Go.Hx
end
section
namespace Go.Hx
def bdf (l:List Fd):Prop:=∀ f ∈ l,∀ i,i < 32 → f.rhs.getLsbD i = true → f.lhs.getLsbD i = false
section
variable {n:Int} {l:List Fd}
end
end Go.Hx
end
section
namespace Go.Hx
open Go.Proofs
theorem b3i {ps:List AS} {k:AS} (h:k ∈ ps):sub k (orL ps):=cb.2 fun i hi hb=>by
 unfold orL
 rw [ahq,Bool.or_eq_true]
 exact .inr (List.any_eq_true.2 ⟨k,h,hb⟩)
section
variable {n:Int} {l:List Fd}
end
end Go.Hx
end
section
namespace Go.Hx
def att (E:Int → Int → Prop) (R:Rw → Prop) (s:AS):Prop:=∃ r,R r ∧ ∀ i:Nat,i < r.length → ep s (i:Int) = true → E (r.getD i default) (i:Int)
section
variable {N:Nat} {p m:List Fd} {E:Int → Int → Prop} {R:Rw → Prop}
theorem ayk {s t:AS} (h:sub s t) {i:Nat} (hi:ep s (i:Int) = true):ep t (i:Int) = true:=by
 by_cases hl:i < 32
 · rw [uw hl] at hi ⊢
   exact cb.1 h i hl hi
 rw [b9e (by omega)] at hi
 cases hi
theorem att.mono {s t:AS} (h:att E R t) (hs:sub s t):att E R s:=by
 obtain ⟨r,h1,h2⟩:=h
 exact ⟨r,h1,fun i hi hh=>h2 i hi (ayk hs hh)⟩
end
section
variable {n:Int} {p m:List Fd} {ps:List AS}
end
end Go.Hx
end
section
namespace Go.Hx
def lvE (n:Int) (ps:List AS):Int:=if n < 0 ∨ 8 < n then 7 else if 64 < ps.length then 3 else if ps.length = 0 ∨ ¬ orL ps = ar n then 1 else 0
section
variable {n:Int} {ps:List AS} {p m:List Fd}
theorem abp (h:n < 0 ∨ 8 < n):lvE n ps = 7:=if_pos h
theorem b0d (h:¬ (n < 0 ∨ 8 < n)) (h2:64 < ps.length):lvE n ps = 3:=by unfold lvE;rw [if_neg h,if_pos h2]
theorem abc (h:¬ (n < 0 ∨ 8 < n)) (h2:¬ 64 < ps.length) (h3:ps.length = 0 ∨ ¬ orL ps = ar n):lvE n ps = 1:=by unfold lvE;rw [if_neg h,if_neg h2,if_pos h3]
theorem azq (h:¬ (n < 0 ∨ 8 < n)) (h2:¬ 64 < ps.length) (h3:¬ (ps.length = 0 ∨ ¬ orL ps = ar n)):lvE n ps = 0:=by unfold lvE;rw [if_neg h,if_neg h2,if_neg h3]
theorem kw (h:lvE n ps = 0):0 ≤ n ∧ n ≤ 8 ∧ ps.length ≤ 64 ∧ 0 < ps.length ∧ orL ps = ar n:=by
 unfold lvE at h
 split at h
 · exact absurd h (by decide)
 split at h
 · exact absurd h (by decide)
 split at h
 · exact absurd h (by decide)
 rename_i h1 h2 h3
 refine ⟨by omega,by omega,by omega,by omega, ?_⟩
 apply Classical.byContradiction
 intro e
 exact h3 (.inr e)
def lsT (n:Int) (ps:List AS) (p m:List Fd):List St × (Int × List Rw) × Int:=jj FU n (bq (c8 n ps)) p m
def lsC (n:Int) (ps:List AS) (p m:List Fd):Int:=if lvE n ps = 0 then (if bw n p m = 0 then (lsT n ps p m).2.2 else bw n p m) else lvE n ps
def lsB (n:Int) (ps:List AS) (p m:List Fd):Bool:=decide (lsC n ps p m = 0) && (lsT n ps p m).2.1.2.any fun r=>decide (r = dx n)
theorem azz (h:¬ lvE n ps = 0):lsC n ps p m = lvE n ps ∧ lsB n ps p m = false:=by
 have e:lsC n ps p m = lvE n ps:=if_neg h
 exact ⟨e,by unfold lsB;rw [e,decide_eq_false h];rfl⟩
theorem az9 (h:lvE n ps = 0) (h2:¬ bw n p m = 0):lsC n ps p m = bw n p m ∧ lsB n ps p m = false:=by
 have e:lsC n ps p m = bw n p m:=(if_pos h).trans (if_neg h2)
 exact ⟨e,by unfold lsB;rw [e,decide_eq_false h2];rfl⟩
theorem b09 (h:lvE n ps = 0) (h2:bw n p m = 0):lsC n ps p m = (lsT n ps p m).2.2:=(if_pos h).trans (if_pos h2)
theorem xh (h:lsC n ps p m = 0):lvE n ps = 0 ∧ bw n p m = 0:=by
 unfold lsC at h
 split at h
 · rename_i e
   split at h
   · rename_i e2;exact ⟨e,e2⟩
   rename_i e2;exact absurd h e2
 rename_i e;exact absurd h e
theorem aca (h:lvE n ps = 0) {q:AS} (hq:q ∈ ps):sub q (ar n):=by
 rw [← (kw h).2.2.2.2]
 exact b3i hq
theorem ayn (h:lvE n ps = 0):gi n ps = (n,bq (c8 n ps),0):=by
 obtain ⟨h0,h8,h64,_⟩:=kw h
 exact af2 (by omega) (by omega) fun j hj=>(ajd h0 (by omega)).1 (aca h (da hj))
def bev (n:Int) (p:List Fd) (ps:List AS):Bool:=lsB n ps p [] && !ps.any (gr p)
end
end Go.Hx
end
section
namespace Go.Hx
abbrev tbC (a:Int × List Rw):Nat → PV:=fun j=>[.raw (.int .i64 a.1),rl a.2].getD j .any
def lcR (n:Int) (ps:List AS) (p m:List Fd):(Int × List Rw) × List St × (Int × List Rw) × Int :=
 if lvE n ps = 0 then (if bw n p m = 0 then ((n,bq (c8 n ps)),(lsT n ps p m).1,(lsT n ps p m).2.1,(lsT n ps p m).2.2) else ((0,[]),[],(0,[]),bw n p m)) else ((0,[]),[],(0,[]),lvE n ps)
section
variable {n:Int} {ps:List AS} {p m:List Fd} {l lend:List Rw}
theorem bbm (h:¬ lvE n ps = 0):lcR n ps p m = ((0,[]),[],(0,[]),lvE n ps):=if_neg h
theorem bbr (h:lvE n ps = 0) (h2:¬ bw n p m = 0):lcR n ps p m = ((0,[]),[],(0,[]),bw n p m):=(if_pos h).trans (if_neg h2)
theorem akh (h:lvE n ps = 0) (h2:bw n p m = 0):lcR n ps p m = ((n,bq (c8 n ps)),(lsT n ps p m).1,(lsT n ps p m).2.1,(lsT n ps p m).2.2):=(if_pos h).trans (if_pos h2)
theorem ly:(lcR n ps p m).2.2.2 = lsC n ps p m:=by
 unfold lcR lsC
 split
 · split <;> rfl
 rfl
theorem ay6 (h:(lcR n ps p m).2.2.2 = 0):((lcR n ps p m).2.2.1.2.any fun r=>decide (r = dx n)) = lsB n ps p m:=by
 have hc:=h
 rw [ly] at hc
 obtain ⟨h1,h2⟩:=xh hc
 unfold lsB
 rw [decide_eq_true hc,Bool.true_and,akh h1 h2]
theorem axq (h:¬ (lcR n ps p m).2.2.2 = 0):lsB n ps p m = false:=by
 rw [ly] at h
 unfold lsB
 rw [decide_eq_false h]
 rfl
theorem b8e:(bif decide ((lcR n ps p m).2.2.2 = 0) then ((lcR n ps p m).2.2.1.2.any fun r=>decide (r = dx n)) else false) = lsB n ps p m:=by
 by_cases h:(lcR n ps p m).2.2.2 = 0
 · rw [decide_eq_true h,cond_true,ay6 h]
 rw [decide_eq_false h,cond_false,axq h]
theorem bde (h:lcR n ps p m = lcR n ps p m) (h2:(lcR n ps p m).2.2.2 = 0):0 ≤ n ∧ n ≤ 8:=by
 rw [ly] at h2
 obtain ⟨h1,_⟩:=xh h2
 exact ⟨(kw h1).1,(kw h1).2.1⟩
theorem b07:∀ {sts:List St} {l:List Rw} {i:Nat},TrZ n p m lend l sts → i ≤ sts.length → TrZ n p m lend ((trL n p m l sts).getD i default) (sts.drop i)
 | [],l,0,h,_=>h
 | s :: r,l,0,h,_=>h
 | s :: r,l,i + 1,h,hi=>by
  obtain ⟨_,_,l',e,_,h⟩:=h
  unfold trL
  rw [e]
  exact b07 (i:=i) h (by simpa using hi)
theorem ahe:∀ {sts:List St} {l:List Rw} {i:Nat},i < sts.length → (trL n p m l sts).getD (i + 1) default = (ee n ((trL n p m l sts).getD i default) p m (sts.getD i default)).2.1
 | [],l,i,hi=>by simp at hi
 | s :: r,l,0,_=>by
  unfold trL
  cases r with
  | nil=>rfl
  | cons s2 r2=>rfl
 | s :: r,l,i + 1,hi=>by
  unfold trL
  exact ahe (sts:=r) (i:=i) (by simpa using hi)
theorem b5q {sts:List St}:(trL n p m l sts).getD 0 default = l:=by cases sts <;> rfl
def p6 (n:Int) (p m:List Fd) (l:List Rw) (sts:List St):List (Int × List Rw):=(trL n p m l sts).map fun t=>(n,t)
theorem ad4 {sts:List St}:(p6 n p m l sts).length = sts.length + 1:=by unfold p6;rw [List.length_map,y9]
theorem a83 {sts:List St} {i:Nat} (hi:i ≤ sts.length):(p6 n p m l sts).getD i default = (n,(trL n p m l sts).getD i default):=by
 unfold p6
 have:i < (trL n p m l sts).length:=by rw [y9];omega
 rw [List.getD_eq_getElem?_getD,List.getElem?_map,List.getElem?_eq_getElem this,List.getD_eq_getElem?_getD,List.getElem?_eq_getElem this]
 rfl
def rcR (n:Int) (ps:List AS) (p m:List Fd):List St × List (Int × List Rw) × Int :=
 if lsC n ps p m = 0 then ((lsT n ps p m).1,p6 n p m (bq (c8 n ps)) (lsT n ps p m).1,0) else ([],[],lsC n ps p m)
theorem b06 (h:lsC n ps p m = 0):rcR n ps p m = ((lsT n ps p m).1,p6 n p m (bq (c8 n ps)) (lsT n ps p m).1,0):=if_pos h
theorem al6 (h:lvE n ps = 0) (hb:bw n p m = 0) (hc:(lsT n ps p m).2.2 = 0):∃ sts lend,lsT n ps p m = (sts,(n,lend),0) ∧ TrZ n p m lend (bq (c8 n ps)) sts ∧ tok n lend = true ∧ ((∃ t,t ∈ trL n p m (bq (c8 n ps)) sts ∧ dx n ∈ t) ↔ dx n ∈ lend):=by
 rcases ara (kw h).2.2.1 hb with ⟨e,_⟩ | ⟨sts,lend,e,h1,h2,h3,h4⟩
 · unfold lsT at hc
   rw [e] at hc
   exact absurd hc (by decide)
 exact ⟨sts,lend,e,h2,h3,h4⟩
theorem anh {p m:List Fd}:∀ (F:Nat) (n:Int) (l:List Rw) (acc:List St),(go F n l p m acc).1.length ≤ acc.length + F:=by
 intro F
 induction F with
 | zero=>intro n l acc;unfold go;simp
 | succ F ih =>
  intro n l acc
  unfold go
  split
  · simp
  rename_i s _
  split
  rename_i n' l' e _
  split
  · have:=ih n' l' (acc ++ [s])
    simp only [List.length_append,List.length_singleton] at this
    omega
  simp
theorem b0t (h:lvE n ps = 0) (hb:bw n p m = 0):(lsT n ps p m).1.length ≤ FU:=by
 obtain ⟨h0,h8,h64,_⟩:=kw h
 have hT:=a7y (ps:=ps) h0 (by omega) h64
 have hck:ckE n (bq (c8 n ps)) p m = 0:=(if_pos hT).trans hb
 unfold lsT
 rw [zt hck]
 have:=anh (p:=p) (m:=m) FU n (bq (c8 n ps)) []
 simpa using this
def nx (n:Int) (t:List Rw):Bool:=t.any fun r=>decide (r = dx n)
def prX (n:Int) (ps:List AS) (p m:List Fd):Int:=idx (fun a:Int × List Rw=>nx n a.2) (rcR n ps p m).2.1
def prC (n:Int) (ps:List AS) (p m:List Fd):Int:=if (rcR n ps p m).2.2 = 0 then (if prX n ps p m < 0 then 11 else 0) else (rcR n ps p m).2.2
def prS (n:Int) (ps:List AS) (p m:List Fd):List St:=if (rcR n ps p m).2.2 = 0 then (if prX n ps p m < 0 then [] else (rcR n ps p m).1.take (prX n ps p m).toNat) else []
theorem avj:(rcR n ps p m).2.2 = lsC n ps p m:=by
 unfold rcR
 split
 · rename_i h;exact h.symm
 rfl
end
end Go.Hx
end
section
namespace Go.Hx
open Go.Proofs
theorem b60 {n:Int} {ps:List AS} {p m:List Fd} (h:lvE n ps = 0) (hb:bw n p m = 0) (hc:(lsT n ps p m).2.2 = 0):TrZ n p m (lsT n ps p m).2.1.2 (bq (c8 n ps)) (lsT n ps p m).1:=by
 obtain ⟨sts,lend,e,htr,_⟩:=al6 h hb hc
 rw [e]
 exact htr
theorem avv {n:Nat} {l:List St} {i:Nat} {cl:Bool} (hn:n = (l.take i).length) {f:Nat → Nat → PV} (hf:∀ a j,f a j = lf St.c l a j):CoP (.sl n 4 cl f) (stl (l.take i)):=by
 refine CoP.sl hn.symm (.inl rfl) (fun h=>by cases h) fun a j ha hj=>CoP.of_eq ?_
 rw [hf]
 show St.c (l.getD a default) j = St.c ((l.take i).getD a default) j
 have:a < i:=by rw [hn,List.length_take] at ha;omega
 rw [List.getD_eq_getElem?_getD,List.getD_eq_getElem?_getD,List.getElem?_take,if_pos this]
theorem b24 (n:Int) (ps:List AS) (h:lvE n ps = 0):ae Tryz.prog 128 [pI n,pP (asl ps)] (ai [pT n (bq (c8 n ps)),pI 0]):=by
 have:=b66 n ps
 rw [ayn h] at this
 exact this
theorem b56 (n:Int) (ps:List AS) (p m:List Fd):ae Tryz.prog 151 [pT n (bq (c8 n ps)),pP (fdl p),pP (fdl m)] (ai [pP (stl (lsT n ps p m).1),pT (lsT n ps p m).2.1.1 (lsT n ps p m).2.1.2,pI (lsT n ps p m).2.2]) :=
 b93 FU n (bq (c8 n ps)) p m (fun h=>ar9 h) (by decide)
theorem bba {n:Int} {p m:List Fd} {l lend:List Rw} {sts:List St} {i:Nat} (hi:i < sts.length) (h:TrZ n p m lend l (sts.drop i)):tok n l = true ∧ wv l p m (sts.getD i default) ∧ ee n l p m (sts.getD i default) = (n,(ee n l p m (sts.getD i default)).2.1,0):=by
 have e:sts.drop i = sts.getD i default :: sts.drop (i + 1):=by
  rw [List.drop_eq_getElem_cons hi,List.getD_eq_getElem?_getD,List.getElem?_eq_getElem hi];rfl
 rw [e] at h
 obtain ⟨h1,h2,l',h3,h4,h5⟩:=h
 rw [h3]
 exact ⟨h1,h2,rfl⟩
end Go.Hx
end
section
namespace Go.Hx
def k6:List AS → Nat
 | []=>0
 | b :: l=>b.toNat + k6 l
theorem a59:∀ (l k:List AS),k6 (l ++ k) = k6 l + k6 k
 | [],k=>by simp [k6]
 | b :: l,k=>by simp [k6,a59 l k];omega
def OkB (l:List AS):Prop:=k6 l < 4294967296 ∧ ∀ b ∈ l,b ≠ 0
theorem a8m {l:List AS} (h:OkB l):l.length ≤ 4294967296:=by
 have:∀ l:List AS,(∀ b ∈ l,b ≠ 0) → l.length ≤ k6 l:=by
  intro l
  induction l with
  | nil=>intro _;simp [k6]
  | cons b l ih =>
   intro h
   have h1:=ih fun x hx=>h x (by simp [hx])
   have h2:=a0h (h b (by simp))
   simp only [List.length_cons,k6]
   omega
 have h1:=this l h.2
 have:=h.1
 omega
theorem b7f (m:Fd) (l:List AS):k6 (rdB m l) = k6 l:=by
 have:∀ l:List AS,k6 (l.map (hdB m)) + k6 (l.flatMap (tlB m)) = k6 l:=by
  intro l
  induction l with
  | nil=>rfl
  | cons b l ih =>
   rw [List.map_cons,List.flatMap_cons,a59]
   simp only [k6]
   by_cases h:dw m b = true
   · have:=a3x b m.rhs
     simp only [hdB,tlB,h,if_true,k6]
     omega
   rw [Bool.not_eq_true] at h
   simp only [hdB,tlB,h,k6,Bool.false_eq_true,if_false]
   omega
 unfold rdB
 rw [a59]
 exact this l
theorem an3 {m:Fd} {l:List AS} (h:OkB l):OkB (rdB m l):=by
 refine ⟨by rw [b7f];exact h.1,fun b hb=>?_⟩
 unfold rdB at hb
 rcases List.mem_append.1 hb with hb | hb
 · obtain ⟨b0,h0,rfl⟩:=List.mem_map.1 hb
   unfold hdB
   split
   · rename_i hs;exact (za.1 hs).2.1
   exact h.2 _ h0
 obtain ⟨b0,h0,hb⟩:=List.mem_flatMap.1 hb
 unfold tlB at hb
 split at hb
 · rename_i hs
   simp at hb
   subst hb
   exact (za.1 hs).2.2
 cases hb
theorem aaz (rest:AS):OkB (ir rest):=by
 unfold ir
 split
 · exact ⟨by simp [k6],fun _ h=>by cases h⟩
 rename_i h
 exact ⟨by simp only [k6];have:=rest.isLt;omega,fun b hb=>by simp at hb;subst hb;exact h⟩
theorem a2q {rest:AS} (h:¬ rest = 0):ir rest = [] ++ [rest]:=by rw [ir,if_neg h];rfl
theorem a2t {rest:AS} (h:rest = 0):ir rest = []:=by rw [ir,if_pos h]
theorem a5w (m:Fd) (l:List AS):stB m l 0 = l:=by simp [stB]
theorem xn (m:Fd) (l:List AS):stB m l l.length = rdB m l:=by simp [stB,rdB]
theorem py (m:Fd) (l:List AS) (i:Nat):((l.take i).map (hdB m)).length = min i l.length:=by simp
theorem b20 {m:Fd} {l:List AS} {i:Nat} (h:i < l.length):(stB m l i).getD i default = l.getD i default:=by
 have e:((l.take i).map (hdB m)).length = i:=by rw [py];omega
 unfold stB
 rw [List.append_assoc,List.getD_eq_getElem?_getD,List.getElem?_append_right (by rw [e];omega),e,Nat.sub_self,List.getElem?_append_left (by rw [List.length_drop];omega),List.getElem?_drop,Nat.add_zero,← List.getD_eq_getElem?_getD]
theorem stB_get' {m:Fd} {l:List AS} {i a:Nat} (hia:i ≤ a) (h:a < l.length):(stB m l i).getD a default = l.getD a default:=by
 have e:((l.take i).map (hdB m)).length = i:=by rw [py];omega
 unfold stB
 rw [List.append_assoc,List.getD_eq_getElem?_getD,List.getElem?_append_right (by rw [e];omega),e,List.getElem?_append_left (by rw [List.length_drop];omega),List.getElem?_drop,show i + (a - i) = a by omega,← List.getD_eq_getElem?_getD]
theorem ahs (m:Fd) (l:List AS) (i:Nat):l.length ≤ (stB m l i).length:=by
 unfold stB
 rw [List.length_append,List.length_append,py,List.length_drop]
 omega
theorem aah {l:List AS} {i:Nat} (h:i < l.length):l.drop i = l.getD i default :: l.drop (i + 1):=by
 rw [List.drop_eq_getElem_cons h]
 congr 1
 simp [List.getD_eq_getElem?_getD,List.getElem?_eq_getElem h]
theorem ll {m:Fd} {l:List AS} {i:Nat} (h:i < l.length) (hs:dw m (l.getD i default) = false):stB m l (i + 1) = stB m l i:=by
 unfold stB
 rw [b6 h,List.map_append,List.flatMap_append,aah h]
 simp only [List.map_cons,List.map_nil,List.flatMap_cons,List.flatMap_nil,hdB,tlB,hs,Bool.false_eq_true,if_false,List.append_nil,List.append_assoc,List.cons_append,List.nil_append]
theorem abd {m:Fd} {l:List AS} {i:Nat} (h:i < l.length) (hs:dw m (l.getD i default) = true):stB m l (i + 1) = (stB m l i).set i (l.getD i default &&& m.rhs) ++ [l.getD i default &&& ~~~m.rhs]:=by
 have e:((l.take i).map (hdB m)).length = i:=by rw [py];omega
 unfold stB
 rw [b6 h,List.map_append,List.flatMap_append,aah h]
 simp only [List.map_cons,List.map_nil,List.flatMap_cons,List.flatMap_nil,hdB,tlB,hs,if_true,List.append_nil]
 generalize hA:(l.take i).map (hdB m) = A at e ⊢
 generalize (l.take i).flatMap (tlB m) = B
 generalize l.drop (i + 1) = D
 subst e
 rw [List.append_assoc A,List.append_assoc A,List.append_assoc A,List.set_append_right _ _ (Nat.le_refl _),Nat.sub_self,List.append_assoc A]
 simp
theorem b90 (m:Fd) (l:List AS):∀ i,(stB m l i).length ≤ (rdB m l).length:=by
 intro i
 by_cases hi:i < l.length
 · have:∀ k,i + k ≤ l.length → (stB m l i).length ≤ (stB m l (i + k)).length:=by
    intro k
    induction k with
    | zero=>intro _;exact Nat.le_refl _
    | succ k ih =>
     intro hk
     have h1:=ih (by omega)
     refine Nat.le_trans h1 ?_
     cases hs:dw m (l.getD (i + k) default)
     · rw [show i + (k + 1) = i + k + 1 by omega,ll (by omega) hs];exact Nat.le_refl _
     rw [show i + (k + 1) = i + k + 1 by omega,abd (by omega) hs,List.length_append,List.length_set];omega
   have h2:=this (l.length - i) (by omega)
   rw [show i + (l.length - i) = l.length by omega,xn] at h2
   exact h2
 unfold stB rdB
 rw [List.take_of_length_le (by omega),List.drop_eq_nil_of_le (by omega)]
 simp
def a1e (l:List AS) (i:Nat):Nat → Nat → PV:=fun k c=>if k < i then .any else sC (l.getD k default) c
theorem b1k (l:List AS) (i:Nat):a1e l i i 0 = asC (l.getD i default):=by
 unfold a1e
 rw [if_neg (Nat.lt_irrefl i)]
theorem a3d {l:List AS} {i:Nat} {cl:Bool} {n:Nat} (hn:n = l.length):CoP (.sl n 1 cl (a1e l i)) (.sl l.length 1 false (a1e l (i + 1))):=by
 subst hn
 refine CoP.sl rfl (.inl rfl) (fun h=>by cases h) fun k c hk hc=>?_
 unfold a1e
 by_cases h1:k < i
 · rw [if_pos h1,if_pos (show k < i + 1 by omega)];exact CoP.refl _
 rw [if_neg h1]
 by_cases h2:k < i + 1
 · rw [if_pos h2];exact CoP.any_of
 rw [if_neg h2];exact CoP.refl _
theorem adu {m:Fd} {L:List AS} {i k:Nat} {v:PV} (hil:i < L.length) (hk:k = i:=by rfl):CoP (.sl L.length 1 false (fc (lf sC (stB m L i)) k 0 [v])) (.sl L.length 1 false (a1e L (i + 1))):=by
 subst hk
 refine CoP.sl rfl (.inl rfl) (fun h=>h) fun a c ha hc=>?_
 obtain rfl:c = 0:=by omega
 unfold a1e
 by_cases h:a < k + 1
 · rw [if_pos h];exact CoP.any_of
 rw [if_neg h]
 unfold fc lf
 rw [if_neg (by omega),stB_get' (by omega) ha]
 exact CoP.refl _
theorem ao7 {A B:List AS} {a:Nat} (h:a < A.length):(A ++ B).getD a default = A.getD a default:=by simp [List.getD_eq_getElem?_getD,List.getElem?_append_left h]
theorem amq {A:List AS} {x:AS}:(A ++ [x]).getD A.length default = x:=by simp [List.getD_eq_getElem?_getD]
theorem sa {wr wr':Bool} {e:TypeId} {m:Fd} {L:List AS} {i k:Nat} {u:Int} {g:Nat → Nat → PV} (hil:i < L.length) (hs:dw m (L.getD i default) = true) (hk:k = i) (hu:u = asI (L.getD i default &&& m.rhs)) (hg:CoP (g 0 0) (asC (L.getD i default &&& ~~~m.rhs))) (hw:wr' = true → wr = true:=by exact fun h=>h) :
 CoO (.arr wr 1 e ((stB m L i).length + 1) (i9 (stB m L i).length (fc (lf sC (stB m L i)) k 0 [.raw (.int .u32 u)]) g)) (.arr wr' 1 e (stB m L (i + 1)).length (lf sC (stB m L (i + 1)))):=by
 subst hk hu
 have hl:=ahs m L k
 rw [abd hil hs]
 refine ⟨hw,rfl,rfl,by rw [List.length_append,List.length_set];rfl,fun a j ha hj=>?_⟩
 obtain rfl:j = 0:=by omega
 unfold i9
 generalize L.getD k default &&& m.rhs = X
 generalize L.getD k default &&& ~~~m.rhs = Y at hg ⊢
 generalize stB m L k = A at hl ha ⊢
 by_cases h:a < A.length
 · rw [if_pos h]
   refine CoP.of_eq ?_
   show fc (lf sC A) k 0 [.raw (.int .u32 (asI X))] a 0 = sC ((A.set k X ++ [Y]).getD a default) 0
   rw [ao7 (by rw [List.length_set];exact h)]
   unfold fc lf
   by_cases h2:a = k
   · subst h2
     rw [if_pos ⟨rfl,Nat.le_refl _,by simp⟩,l8 h]
     rfl
   rw [if_neg (by omega),getD_set_ne' h2]
 obtain rfl:a = A.length:=by omega
 rw [if_neg h,Nat.sub_self]
 show CoP (g 0 0) (sC ((A.set k X ++ [Y]).getD A.length default) 0)
 have:=amq (A:=A.set k X) (x:=Y)
 rw [List.length_set] at this
 rw [this]
 exact hg
theorem zr {ms:List Fd} {l:List AS} {j:Nat} (h:j < ms.length):c5 (ms.take (j + 1)) l = rdB (ms.getD j default) (c5 (ms.take j) l):=by
 unfold c5
 rw [b6 h,List.foldl_append]
 rfl
theorem ain:∀ (ms:List Fd) (m:Fd) (l:List AS),lj (ms ++ [m]) l = (lj ms l || (c5 ms l).any (dw m))
 | [],m,l=>by simp [lj,c5]
 | k :: ms,m,l=>by
  simp only [List.cons_append,lj]
  rw [ain ms m (rdB k l),Bool.or_assoc]
  rfl
theorem acv {ms:List Fd} {l:List AS} {j:Nat} (h:j < ms.length):lj (ms.take (j + 1)) l = (lj (ms.take j) l || (c5 (ms.take j) l).any (dw (ms.getD j default))):=by
 rw [b6 h,ain]
theorem a2p {l:List AS} (h:OkB l):∀ {ms:List Fd},OkB (c5 ms l):=by
 intro ms
 induction ms generalizing l with
 | nil=>exact h
 | cons m ms ih=>exact ih (an3 h)
structure BkI (ms:List Fd) (R:List AS) (x:Nat × List AS × Bool):Prop where
 ok:OkB x.2.1
 t:x.2.2 = true → zp ms x.1 x.2.1 = R ∧ muB x.2.1 < x.1
 f:x.2.2 = false → x.2.1 = R
theorem ats (ms:List Fd) (rest:AS):BkI ms (blks ms rest) (18446744073709551616,ir rest,true):=⟨aaz rest,fun _=>⟨rfl,ann rest⟩,fun h=>by cases h⟩
theorem b2b {ms:List Fd} {R l:List AS} {f:Nat} (h:BkI ms R (f,l,true)):BkI ms R (f - 1,c5 ms l,lj ms l) ∧ 0 < f:=by
 obtain ⟨h1,h2⟩:=h.t rfl
 have h2:muB l < f:=h2
 obtain ⟨g,rfl⟩:∃ g,f = g + 1:=⟨f - 1,by omega⟩
 have h3:=ai7 ms l
 refine ⟨⟨a2p h.ok,fun hc=>?_,fun hc=>?_⟩,by omega⟩
 · have hc:lj ms l = true:=hc
   have h1:zp ms (g + 1) l = R:=h1
   unfold zp at h1
   rw [if_pos hc] at h1 h3
   exact ⟨h1,by show muB (c5 ms l) < g;omega⟩
 have hc:lj ms l = false:=hc
 have h1:zp ms (g + 1) l = R:=h1
 unfold zp at h1
 rw [hc] at h1
 exact h1
def ckB (n:Int) (l m:List Fd) (s:AS):Int:=if bw n l m = 0 then (if s >>> n.toNat = 0 then 0 else 1) else bw n l m
theorem azd {n:Int} {l m:List Fd} {s:AS} (h:¬ bw n l m = 0):ckB n l m s = bw n l m:=if_neg h
theorem azp {n:Int} {l m:List Fd} {s:AS} (h:bw n l m = 0) (h2:¬ s >>> n.toNat = 0):ckB n l m s = 1:=by unfold ckB;rw [if_pos h,if_neg h2]
theorem akg {n:Int} {l m:List Fd} {s:AS} (h:bw n l m = 0) (h2:s >>> n.toNat = 0):ckB n l m s = 0:=by unfold ckB;rw [if_pos h,if_pos h2]
theorem a71 {n:Int} {l m:List Fd} {s:AS} (h:ckB n l m s = 0):bw n l m = 0 ∧ s >>> n.toNat = 0:=by
 unfold ckB at h
 split at h
 · split at h
   · exact ⟨by assumption,by assumption⟩
   cases h
 exact absurd h (by assumption)
theorem ahm (f:Fd):(sgl f).length ≤ 32:=by unfold sgl;rw [List.length_map];exact ko _
def je (fs ms:List Fd) (i k:Nat):List Fd:=ms ++ (fs.take i).flatMap sgl ++ (sgl (fs.getD i default)).take k
theorem aa9 (fs ms:List Fd):je fs ms 0 0 = ms:=by simp [je]
theorem atb {fs ms:List Fd} {i:Nat} (h:i < fs.length):je fs ms (i + 1) 0 = je fs ms i (sgl (fs.getD i default)).length:=by
 unfold je
 rw [b6 h,List.flatMap_append,List.take_length]
 simp
theorem aun (fs ms:List Fd):je fs ms fs.length 0 = a36 fs ms:=by simp [je,a36]
theorem amn {fs ms:List Fd} {i k:Nat} (h:k < (sgl (fs.getD i default)).length):je fs ms i (k + 1) = je fs ms i k ++ [(sgl (fs.getD i default)).getD k default]:=by
 unfold je
 rw [b6 h,← List.append_assoc]
theorem awl {fs ms:List Fd} {i k:Nat}:(je fs ms i k).length ≤ ms.length + 32 * (i + 1):=by
 have:∀ l:List Fd,(l.flatMap sgl).length ≤ 32 * l.length:=by
  intro l
  induction l with
  | nil=>simp
  | cons f l ih =>
   rw [List.flatMap_cons,List.length_append,List.length_cons]
   have:=ahm f
   omega
 have h1:=this (fs.take i)
 have h2:=ahm (fs.getD i default)
 unfold je
 rw [List.length_append,List.length_append,List.length_take]
 rw [List.length_take] at h1
 omega
end Go.Hx
end

/- A part of the proof: V29 Cs31 V30 Cs32 Cs33 Cs34 Cs35 V34 Cs36 Cz1m Cs37 Cs40 Ls2 Ls3 Ls5 W0 W1 Ls6 W2a Ch22. -/
import Derived.Test.YtkkenjdfbojdlaaGreatDoorFx16
import Derived.Test.YtkkenjdfbojdlaaGreatDoorFx19
import Derived.Test.YtkkenjdfbojdlaaGreatDoorFx20
import Derived.Test.YtkkenjdfbojdlaaGreatDoorFx23
import Derived.Test.YtkkenjdfbojdlaaGreatDoorFx29
import Derived.Test.YtkkenjdfbojdlaaGreatDoorFx30
set_option linter.all false
set_option maxRecDepth 100000
set_option maxHeartbeats 1000000
namespace Go.Hx
section
open Go.Proofs
theorem akx:goodFn Tryz.prog 204:=wgx Tryz.func204
theorem ao8 (s:AS):af Tryz.prog 204 [pA s] (aj [pP (asl (er s))]):=by
 refine a8 (nt:=18) a7 Tryz.func204 rfl rfl l9 ?_;refine w_6 ?_;refine m9 0 ?_;refine w_9 ?_
 refine ah (ι:=Nat × List AS × AS) ⟨[(0,some _)],[]⟩ ⟨⟨c9,trivial⟩,trivial⟩ (fun x=>⟨[(3,some (.v (.one (.ref 0 x.2.1.length)))),(4,some (vA x.2.2))],[(0,some (.arr true 1 46 x.2.1.length (lf sC x.2.1)))]⟩) (fun x=>TsI s x) (fun x=>x.1) ((s.toNat + 1,[0],s)) (b19 s) ⟨⟨zy,zy,trivial⟩,⟨⟨_,rfl,(a0q (CoP.refl _))⟩,trivial⟩⟩ ?_
 rintro x hx
 have hlen:=hx.2
 have hsl:=s.isLt
 refine w_6 ?_;refine a6 _ rfl (fun r0=>?_) (fun r0=>?_)
 ·
  have h0:=r0
  have h0:=aa (au h0)
  try simp only [ty] at h0
  have hne:x.2.2 ≠ 0:=fun e=>h0 (by rw [e];rfl)
  refine w_6 ?_;refine m9 1 ?_;refine ra 2 true rfl rfl rfl rfl rfl rfl ?_;refine w_4 ?_;refine rq rfl rfl rfl rfl rfl ?_ (hp:=(wn hne));refine w_4 ?_
  refine ⟨(x.1 - 1,x.2.1 ++ [x.2.2],(x.2.2 - 1) &&& s), ?_, ?_, ?_⟩
  · exact b26 hx hne
  · dsimp only
    omega
  exact ⟨⟨⟨_,rfl,(ca rfl)⟩,⟨_,rfl,(dz (xb hne))⟩,c9,trivial⟩,⟨⟨_,rfl,(c7 rfl (CoP.refl _))⟩,trivial⟩⟩
 have h0:=r0
 have h0:=ae (ar h0)
 try simp only [ty] at h0
 have hz:x.2.2 = 0:=c8.1 h0
 refine w_6 ?_;refine bi 2 rfl rfl rfl ?_
 exact hx8 rfl rfl rfl (⟨CoC.one (CoP.of_eq (by rw [← b5j hx hz];rfl)),trivial⟩)
theorem b1e:goodFn Tryz.prog 238:=wgx Tryz.func238
theorem b8s (l:List Fd) (p x:AS):af Tryz.prog 238 [pP (fdl l),pA p,pA x] (aj [pB (a0f l p x)]):=by
 refine a8 (nt:=27) a7 Tryz.func238 rfl rfl l9 ?_;refine f8 ?_
 refine ah (ι:=AS) ⟨[(0,some _),(1,some _),(2,some _)],[]⟩ ⟨⟨c9,c9,c9,trivial⟩,trivial⟩ (fun r=>⟨[(7,some (vA r))],[]⟩) (fun r=>abz l p x r) (fun r=>r.toNat) (x) (av2 l p x) ⟨⟨zy,trivial⟩,trivial⟩ ?_
 rintro r hr
 refine w_6 ?_;refine a6 _ rfl (fun r0=>?_) (fun r0=>?_)
 ·
  have h0:=r0
  have h0:=aa (au h0)
  try simp only [ty] at h0
  have hne:r ≠ 0:=fun e=>h0 (by rw [e];rfl)
  have hlow:=b3y hr hne
  refine w_9 ?_;refine rqw rfl rfl rfl rfl rfl ?_;refine w_2 ?_;refine rc rfl rfl rfl rfl rfl rfl qf (uf l (noA x (i6 r))) (⟨CoC.refl _,cci (by rw [b9l r hne rfl,jn];rfl),trivial⟩) rfl rfl ?_;refine w_5 ?_
  refine a6 _ rfl (fun r1=>?_) (fun r1=>?_)
  ·
   have h1:=ae r1
   try simp only [ty] at h1
   refine w_4 ?_
   exact hx8 rfl rfl rfl (⟨ccb (b8c hlow.1 hlow.2 (oc.symm.trans (decide_eq_true (by assumption)))).symm,trivial⟩)
  have h1:=aa r1
  try simp only [ty] at h1
  refine w_4 ?_;refine rq rfl rfl rfl rfl rfl ?_ (hp:=(wn hne));refine w_3 ?_;refine ⟨r &&& (r - 1), ?_, ?_, ?_⟩
  · exact awx hr hne (oc.symm.trans (decide_eq_false (by assumption)))
  · exact b60 hne
  exact ⟨⟨⟨_,rfl,(dz (afs hne))⟩,c9,c9,c9,trivial⟩,trivial⟩
 have h0:=r0
 have h0:=ae (ar h0)
 try simp only [ty] at h0
 have hz:r = 0:=c8.1 h0
 refine w_5 ?_
 exact hx8 rfl rfl rfl (⟨ccb (b27 hr hz).symm,trivial⟩)
theorem b18:goodFn Tryz.prog 203:=wgx Tryz.func203
theorem b34 (l:List Fd) (p:AS):af Tryz.prog 203 [pP (fdl l),pA p] (aj [pA (qz l p)]):=by
 refine a8 (nt:=33) a7 Tryz.func203 rfl rfl l9 ?_;refine dl ?_
 have htl:=acj p
 refine w_2 ?_;refine qcx akx (ao8 p) ?_;refine w_4 ?_
 refine ah (ι:=Nat) ⟨[(0,some _),(1,some _),(9,some _),(10,some _)],[]⟩ ⟨⟨c9,c9,c9,c9,trivial⟩,trivial⟩ (fun i=>⟨[(5,some (vA (qu l p i))),(11,some (vI i))],[]⟩) (fun i=>i ≤ (er p).length) (fun i=>(er p).length - i) (0) (Nat.zero_le _) ⟨⟨⟨_,rfl,(dz rfl)⟩,zy,trivial⟩,trivial⟩ ?_
 rintro i hi
 refine w_5 ?_;refine a6 _ rfl (fun r0=>?_) (fun r0=>?_)
 ·
  have h0:=ae r0
  try simp only [ty] at h0
  refine kf ?_;refine qcx qf (uf l ((er p).getD i default)) ?_;refine w_5 ?_;refine b9 rfl rfl (fun r1=>?_) (fun r1=>?_)
  ·
   have h1:=ae r1
   try simp only [ty] at h1
   (iterate 3 refine qy ?_ (hg:=(gtt r1)));refine qcx b1e (b8s l p ((er p).getD i default)) ?_ (hg:=(gtt r1));refine w_2 ?_;refine a6 _ rfl (fun r2=>?_) (fun r2=>?_)
   ·
    have h2:=r2
    have h2:=du r1 h2
    refine dl ?_;refine ⟨i + 1, ?_, ?_, ?_⟩
    · show i + 1 ≤ _;omega
    · first | omega | (dsimp only;omega)
    exact ⟨⟨⟨_,rfl,(by first | exact dz (by rw [bOr,a6z (by omega) (afx (oc.symm.trans (decide_eq_true (by assumption))) (by assumption))];rfl) | exact dz (by rw [sc (by omega) (aav (by assumption))]) | exact dz (by rw [sc (by omega) (ab7 (oc.symm.trans (decide_eq_false (by assumption))))]))⟩,zy,c9,c9,c9,c9,trivial⟩,trivial⟩
   have h2:=r2
   have h2:=du r1 h2
   refine w_5 ?_;refine ⟨i + 1, ?_, ?_, ?_⟩
   · show i + 1 ≤ _;omega
   · first | omega | (dsimp only;omega)
   exact ⟨⟨⟨_,rfl,(by first | exact dz (by rw [bOr,a6z (by omega) (afx (oc.symm.trans (decide_eq_true (by assumption))) (by assumption))];rfl) | exact dz (by rw [sc (by omega) (aav (by assumption))]) | exact dz (by rw [sc (by omega) (ab7 (oc.symm.trans (decide_eq_false (by assumption))))]))⟩,zy,c9,c9,c9,c9,trivial⟩,trivial⟩
  have h1:=aa r1
  try simp only [ty] at h1
  (iterate 4 refine k9 (gft r1) ?_);refine rq rfl rfl rfl rfl rfl ?_ (hp:=r1);refine ax ?_;refine a6 _ rfl (fun e=>by cases e) (fun _=>?_);refine w_5 ?_;refine ⟨i + 1, ?_, ?_, ?_⟩
  · show i + 1 ≤ _;omega
  · first | omega | (dsimp only;omega)
  exact ⟨⟨⟨_,rfl,(by first | exact dz (by rw [bOr,a6z (by omega) (afx (oc.symm.trans (decide_eq_true (by assumption))) (by assumption))];rfl) | exact dz (by rw [sc (by omega) (aav (by assumption))]) | exact dz (by rw [sc (by omega) (ab7 (oc.symm.trans (decide_eq_false (by assumption))))]))⟩,zy,c9,c9,c9,c9,trivial⟩,trivial⟩
 have h0:=aa r0
 try simp only [ty] at h0
 obtain rfl:i = (er p).length:=by omega
 refine w_6 ?_
 exact hx8 rfl rfl rfl (⟨cci (by rw [amt]),trivial⟩)
end
section
def bdw (l:List Fd) (p x:AS) (a:Nat):Bool:=(List.range a).all fun b=>!(x.getLsbD b && nx l p (noA x b))
def bcj (i:Nat):List AS:=(List.range i).map (BitVec.ofNat 32)
def prQ (l:List Fd) (p x:AS):Bool:=decide (sub x p) && w7 l p x
def bcs (l:List Fd) (p:AS) (i:Nat):AS:=orL ((bcj i).filter (prQ l p))
section
variable {l:List Fd} {p:AS} {i:Nat}
end
def sy (l:List Fd) (p x:AS):Bool:=!nx l p x && decide (((clo l x &&& p) &&& ~~~x) &&& ~~~qz l p ≠ 0)
def uc (l:List Fd) (p:AS):Bool:=!(er p).any (sy l p)
theorem az2 {l:List Fd} {p:AS} (h:∀ x,sub x p → sy l p x = false):uc l p = true:=by
 unfold uc
 have:(er p).any (sy l p) = false:=by
  rw [List.any_eq_false]
  intro x hx
  rw [h x (xi.1 hx)]
  decide
 rw [this];rfl
theorem b24 {l:List Fd} {p x:AS} (hx:sub x p) (h:sy l p x = true):uc l p = false:=by
 unfold uc
 have:(er p).any (sy l p) = true:=by
  rw [List.any_eq_true]
  exact ⟨x,xi.2 hx,h⟩
 rw [this];rfl
theorem ay4 {l:List Fd} {p x:AS}:decide (bo .andNot .u32 (bo .andNot .u32 (bo .and .u32 (asI (clo l x)) (asI p)) (asI x)) (asI (qz l p)) = 0) = decide (((clo l x &&& p) &&& ~~~x) &&& ~~~qz l p = 0):=by
 rw [gl,jn,jn,show (0:Int) = asI 0 from rfl,a8b]
theorem apg {l:List Fd} {p x:AS} (h:nx l p x = true):sy l p x = false:=by unfold sy;rw [h];rfl
theorem ap8 {l:List Fd} {p x:AS} (h:bo .andNot .u32 (bo .andNot .u32 (bo .and .u32 (asI (clo l x)) (asI p)) (asI x)) (asI (qz l p)) = 0):sy l p x = false:=by
 have e:=ay4.symm.trans (decide_eq_true h)
 unfold sy
 rw [decide_eq_false (fun hn=>hn (of_decide_eq_true e))]
 simp
theorem bah {l:List Fd} {p x:AS} (h0:nx l p x = false) (h:¬ bo .andNot .u32 (bo .andNot .u32 (bo .and .u32 (asI (clo l x)) (asI p)) (asI x)) (asI (qz l p)) = 0):sy l p x = true:=by
 have e:=ay4.symm.trans (decide_eq_false h)
 unfold sy
 rw [h0,decide_eq_true (of_decide_eq_false e)]
 rfl
theorem axc {l:List Fd} {p x:AS} (h:bo .and .u32 (asI (clo l x)) (asI p) = asI p):nx l p x = true:=oc.symm.trans (decide_eq_true h)
theorem b9a {l:List Fd} {p x:AS} (h:¬ bo .and .u32 (asI (clo l x)) (asI p) = asI p):nx l p x = false:=oc.symm.trans (decide_eq_false h)
theorem awt {l:List Fd} {p:AS} (h:∀ j,j < (er p).length → sy l p ((er p).getD j default) = false):uc l p = true:=az2 fun x hx=>by
 obtain ⟨j,hj,rfl⟩:=List.getElem_of_mem (xi.2 hx)
 have:=h j hj
 rwa [List.getD_eq_getElem?_getD,List.getElem?_eq_getElem hj,Option.getD_some] at this
def xc (n:Int) (l:List Fd) (p:AS):Int:=if br n l = 0 then (if sub p (aq n) then 0 else 1) else br n l
def a2x (n:Int) (l:List Fd) (p:AS):Bool:=decide (xc n l p = 0) && uc l p
theorem b96 {n:Int} {l:List Fd} {p:AS} (h:¬ br n l = 0):xc n l p = br n l ∧ a2x n l p = false:=by
 have e:xc n l p = br n l:=if_neg h
 exact ⟨e,by unfold a2x;rw [e,decide_eq_false h];rfl⟩
theorem b8j {n:Int} {l:List Fd} {p:AS} (h:br n l = 0) (h2:¬ sub p (aq n)):xc n l p = 1 ∧ a2x n l p = false:=by
 have e:xc n l p = 1:=by unfold xc;rw [if_pos h,if_neg h2]
 exact ⟨e,by unfold a2x;rw [e];rfl⟩
theorem ax9 {n:Int} {l:List Fd} {p:AS} (h:br n l = 0) (h2:sub p (aq n)):xc n l p = 0 ∧ a2x n l p = uc l p:=by
 have e:xc n l p = 0:=by unfold xc;rw [if_pos h,if_pos h2]
 exact ⟨e,by unfold a2x;rw [e];rfl⟩
end
section
open Go.Proofs
theorem az4:goodFn Tryz.prog 156:=wgx Tryz.func156
theorem ayd (n:Int) (l:List Fd) (p:AS):af Tryz.prog 156 [pI n,pP (fdl l),pA p] (aj [pB (a2x n l p),pI (xc n l p)]):=by
 refine a8 (nt:=50) a7 Tryz.func156 rfl rfl l9 ?_;refine dl ?_;refine qcx sd (wo n l) ?_;refine w_7 ?_;refine a6 _ rfl (fun r0=>?_) (fun r0=>?_)
 ·
  have h0:=r0
  have h0:=aa (au h0)
  try simp only [ty] at h0
  refine w_7 ?_;refine ⟨.inr rfl, ?_⟩
  have he:=b96 (p:=p) h0
  exact f9 rfl rfl (⟨ccb he.2.symm,cci he.1.symm,trivial⟩)
 have h0:=r0
 have h0:=ae (ar h0)
 try simp only [ty] at h0
 refine w_3 ?_
 have hv:=gp h0
 have hsh:=alq (s:=p) (n:=n) hv.1 hv.2.1
 refine w_6 ?_;refine a6 _ rfl (fun r1=>?_) (fun r1=>?_)
 ·
  have h1:=r1
  have h1:=aa (au h1)
  try simp only [ty] at h1
  refine w_6 ?_;refine ⟨.inr rfl, ?_⟩
  have he:=b8j h0 (fun e=>h1 (hsh.2 e))
  exact f9 rfl rfl (⟨ccb he.2.symm,cci he.1.symm,trivial⟩)
 have h1:=r1
 have h1:=ae (ar h1)
 try simp only [ty] at h1
 refine w_5 ?_;refine qcx b18 (b34 l p) ?_;refine w_4 ?_
 have htl:=acj p
 refine w_2 ?_;refine qcx akx (ao8 p) ?_;refine w_4 ?_
 refine ah (ι:=Nat) ⟨[(1,some _),(2,some _),(9,some _),(27,some _),(28,some _)],[]⟩ ⟨⟨c9,c9,c9,c9,c9,trivial⟩,trivial⟩ (fun i=>⟨[(29,some (vI i))],[]⟩) (fun i=>i ≤ (er p).length ∧ (∀ j,j < i → sy l p ((er p).getD j default) = false)) (fun i=>(er p).length - i) (0) (⟨Nat.zero_le _,cr⟩) ⟨⟨zy,trivial⟩,trivial⟩ ?_
 rintro i ⟨hi,hI⟩
 refine w_5 ?_;refine a6 _ rfl (fun r2=>?_) (fun r2=>?_)
 ·
  have h2:=ae r2
  try simp only [ty] at h2
  refine kf ?_;refine qcx qf (uf l ((er p).getD i default)) ?_;refine dl ?_;refine b9 rfl rfl (fun r3=>?_) (fun r3=>?_)
  ·
   have h3:=r3
   have h3:=aa (au h3)
   try simp only [ty] at h3
   (iterate 6 refine qy ?_ (hg:=(gtt r3)));refine w_2 ?_;refine a6 _ rfl (fun r4=>?_) (fun r4=>?_)
   ·
    have h4:=r4
    have h4:=du r3 h4
    have h4:=aa (au h4)
    try simp only [ty] at h4
    refine w_6 ?_;refine ⟨.inr rfl, ?_⟩
    have he:=ax9 h0 (hsh.1 h1)
    have hb:=b24 (xi.1 (a79 (l:=er p) (j:=i) (by omega))) (bah (b9a h3) h4)
    exact f9 rfl rfl (⟨ccb (by rw [he.2,hb]),cci he.1.symm,trivial⟩)
   have h4:=r4
   have h4:=du r3 h4
   have h4:=ae (ar h4)
   try simp only [ty] at h4
   refine w_5 ?_;refine ⟨i + 1, ?_, ?_, ?_⟩
   · exact ⟨by show i + 1 ≤ _;omega,bz hI (by first | exact apg (axc h3) | exact ap8 h4)⟩
   · first | omega | (dsimp only;omega)
   exact ⟨⟨zy,c9,c9,c9,c9,c9,trivial⟩,trivial⟩
  have h3:=r3
  have h3:=ae (ar h3)
  try simp only [ty] at h3
  (iterate 6 refine k9 (gft r3) ?_);refine rq rfl rfl rfl rfl rfl ?_ (hp:=r3);refine ax ?_;refine a6 _ rfl (fun e=>by cases e) (fun _=>?_);refine w_5 ?_;refine ⟨i + 1, ?_, ?_, ?_⟩
  · exact ⟨by show i + 1 ≤ _;omega,bz hI (by first | exact apg (axc h3) | exact ap8 h4)⟩
  · first | omega | (dsimp only;omega)
  exact ⟨⟨zy,c9,c9,c9,c9,c9,trivial⟩,trivial⟩
 have h2:=aa r2
 try simp only [ty] at h2
 obtain rfl:i = (er p).length:=by omega
 refine w_7 ?_;refine ⟨.inr rfl, ?_⟩
 have he:=ax9 h0 (hsh.1 h1)
 have hb:=awt hI
 exact f9 rfl rfl (⟨ccb (by rw [he.2,hb]),cci he.1.symm,trivial⟩)
end
section
section
variable {n:Int} {l:List Fd}
def b7h (n:Int) (l:List Fd) (f:Fd):Bool:=decide (clo l f.lhs ≠ aq n) && decide (f.rhs &&& ~~~qz l (aq n) ≠ 0)
def bd6 (n:Int) (l:List Fd) (i:Nat):List Fd:=((yi n l).take i).filter (b7h n l)
def bcx (n:Int) (l:List Fd):List Fd:=(yi n l).filter (b7h n l)
theorem aej (n:Int) (l:List Fd):(yi n l).length ≤ 2048:=by
 unfold yi
 split
 · rename_i h
   have h1:=(gp h).2.2.1
   have h2:=a87 l
   have h3:(ae6 l).length ≤ (a0d l).length:=by
    have:∀ (f:Nat) (k:List Fd) (i:Nat),(qr f k i).length ≤ k.length:=by
     intro f
     induction f with
     | zero=>intro k i;exact Nat.le_refl _
     | succ f ih =>
      intro k i
      unfold qr
      split
      · rename_i hi
        split
        · exact Nat.le_trans (ih _ _) (by rw [kn hi];omega)
        exact ih _ _
      exact Nat.le_refl _
    exact this _ _ _
   omega
 simp
end
end
section
def bbt (l:List Fd) (pr k:AS):Bool:=(List.range 32).all fun a=>!k.getLsbD a || decide (sub (clo l (noA k a)) pr)
def bbq (n:Int) (l:List Fd):Bool:=(axe n l).all (bbt l (orL (axe n l)))
def bdd (n:Int) (l:List Fd):Bool:=decide (br n l = 0) && bbq n l
section
variable {l:List Fd} {pr k:AS}
def bdn (l:List Fd) (pr k r:AS):Prop:=sub r k ∧ ∀ a,a < 32 → k.getLsbD a = true → r.getLsbD a = true ∨ sub (clo l (noA k a)) pr
def bdy (l:List Fd) (pr k:AS) (s:Nat):Prop:=∀ j,j < s → sub (BitVec.ofNat 32 j) k → sub (clo l (BitVec.ofNat 32 j)) pr
end
section
variable {n:Int} {l:List Fd}
end
end
section
def mgR (l:List Fd) (s:AS):AS:=(l.filter fun f=>decide (f.lhs = s)).foldl (fun a f=>a ||| f.rhs) 0
def mgF (l:List Fd) (s:AS):Fd:=⟨s,mgR l s⟩
def ab0 (l:List Fd):List Fd:=(ord (l.map Fd.lhs)).map (mgF l)
theorem b8l {l:List Fd} {s:AS} {i:Nat} (hi:i < l.length) (h:(l.getD i default).lhs = s):mgR (l.take (i + 1)) s = mgR (l.take i) s ||| (l.getD i default).rhs:=by
 unfold mgR
 rw [b5 hi,List.filter_append,List.foldl_append]
 simp only [List.filter_cons,h,decide_true,if_true,List.filter_nil,List.foldl_cons,List.foldl_nil]
theorem b8k {l:List Fd} {s:AS} {i:Nat} (hi:i < l.length) (h:¬ (l.getD i default).lhs = s):mgR (l.take (i + 1)) s = mgR (l.take i) s:=by
 unfold mgR
 rw [b5 hi,List.filter_append,List.foldl_append]
 simp only [List.filter_cons,h,decide_false,Bool.false_eq_true,if_false,List.filter_nil,List.foldl_nil]
theorem bbk {l:List Fd} {s:AS} {i:Nat} (hi:i < l.length) (h:asI (l.getD i default).lhs = asI s):PV.raw (.int .u32 (bo .or .u32 (asI (mgR (l.take i) s)) (asI (l.getD i default).rhs))) = asC (mgR (l.take (i + 1)) s):=by
 rw [bOr,b8l hi (c8.1 h)]
 rfl
theorem awo (l:List Fd):(ab0 l).length ≤ l.length:=by
 unfold ab0
 rw [List.length_map]
 exact Nat.le_trans (l7 _) (by rw [List.length_map];exact Nat.le_refl _)
end
section
open Go.Proofs
def bcz (t:AS) (l:List Fd):Prop:=∀ x ∈ l,sub x.rhs t
def im (n:Int) (l:List Fd):List Fd:=ab0 (yi n l)
theorem agr (n:Int) (l:List Fd):(im n l).length ≤ 2048:=Nat.le_trans (awo _) (aej n l)
def pt (f:Fd):AS:=f.lhs ||| f.rhs
section
variable {n:Int} {l:List Fd}
def lm (n:Int) (l:List Fd) (i:Nat):Bool:=((im n l).take i).any fun f=>jo n l (pt f)
theorem a0y {i:Nat} (hi:i < (im n l).length):lm n l (i + 1) = (lm n l i || jo n l (pt ((im n l).getD i default))):=by
 unfold lm
 rw [b5 hi,List.any_append]
 simp
theorem anq (h:br n l = 0):jo n l (aq n) = true:=decide_eq_true ⟨h,jj _,ij (ava h (jj _)) a9x⟩
theorem b07 (h:br n l = 0):rkE n l (aq n) = 0:=(b4t h (anq h)).2
def a83 (n:Int) (l:List Fd):List AS:=(im n l).map pt
def b71 (n:Int) (l:List Fd):List AS:=ic (if lm n l (im n l).length = true then a83 n l else a83 n l ++ [rkS n l (aq n)])
def a3d (n:Int) (l:List Fd):List AS:=if br n l = 0 then b71 n l else []
theorem b6b (h:¬ br n l = 0):a3d n l = []:=if_neg h
theorem b86 (h:br n l = 0):a3d n l = b71 n l:=if_pos h
theorem auv (n:Int) (l:List Fd):(a83 n l).length ≤ 2048:=by unfold a83;rw [List.length_map];exact agr n l
theorem ac2 (n:Int) (l:List Fd):((im n l).take (im n l).length).map pt = a83 n l:=by rw [List.take_length];rfl
def a2r (n:Int) (l:List Fd):List AS:=if lm n l (im n l).length = true then a83 n l else a83 n l ++ [rkS n l (aq n)]
theorem zk (h:lm n l (im n l).length = true):a2r n l = ((im n l).take (im n l).length).map pt:=by rw [ac2];exact if_pos h
theorem a8a (h:lm n l (im n l).length = false):a2r n l = ((im n l).take (im n l).length).map pt ++ [rkS n l (aq n)]:=by rw [ac2];exact if_neg (by rw [h];decide)
theorem aw9 (n:Int) (l:List Fd):(a2r n l).length ≤ 4096:=by
 have:=auv n l
 unfold a2r
 split
 · omega
 rw [List.length_append,List.length_singleton];omega
theorem axv {i:Nat} (hi:i < (im n l).length) (h:lm n l i = true):true = lm n l (i + 1):=by rw [a0y hi,h];rfl
theorem ay6 {i:Nat} (hi:i < (im n l).length) (h:lm n l i = false):jo n l (pt ((im n l).getD i default)) = lm n l (i + 1):=by rw [a0y hi,h];rfl
theorem ay7 {i:Nat} (hi:i < (im n l).length):(bif lm n l i then true else jo n l (pt ((im n l).getD i default))) = lm n l (i + 1):=by rw [a0y hi];cases lm n l i <;> rfl
end
end
section
open Go.Proofs
theorem b1z:goodFn Tryz.prog 135:=wgx Tryz.func135
theorem b54:goodFn Tryz.prog 71:=wgx Tryz.func71
theorem b69 (hM:∀ k:List Fd,k.length ≤ 16777216 → af Tryz.prog 135 [pP (fdl k)] (aj [pP (fdl (ab0 k))])) (n:Int) (l:List Fd):af Tryz.prog 71 [pI n,pP (fdl l)] (aj [pP (fdl (im n l)),pI (br n l)]):=by
 refine a8 (nt:=17) a7 Tryz.func71 rfl rfl l9 ?_;refine w_9 ?_;refine qcx b1h (baf n l) ?_;refine w_7 ?_
 have hml:=aej n l
 refine w_2 ?_;refine qcx b1z (hM (yi n l) (by omega)) ?_;refine w_4 ?_
 exact hx8 rfl rfl rfl (CoL.refl _)
theorem ap5:goodFn Tryz.prog 32:=wgx Tryz.func32
theorem akb (hM:∀ k:List Fd,k.length ≤ 16777216 → af Tryz.prog 135 [pP (fdl k)] (aj [pP (fdl (ab0 k))])) (n:Int) (l:List Fd):af Tryz.prog 32 [pI n,pP (fdl l)] (aj [pP (asl (a3d n l)),pI (br n l)]):=by
 refine a8 (nt:=66) a7 Tryz.func32 rfl rfl l9 ?_;refine w_9 ?_;refine qcx b54 (b69 hM n l) ?_;refine fc ?_;refine a6 _ rfl (fun r0=>?_) (fun r0=>?_)
 ·
  have h0:=r0
  have h0:=aa (au h0)
  try simp only [ty] at h0
  refine w_6 ?_
  exact hx8 rfl rfl rfl (⟨CoC.one (a0z (b6b h0)),CoC.refl _,trivial⟩)
 have h0:=r0
 have h0:=ae (ar h0)
 try simp only [ty] at h0
 refine w_2 ?_
 have hv:=gp h0
 have hcl:=agr n l
 have hsl:=aw9 n l
 refine mr ?_;refine d6 8 900 true 1 46 (lf sC []) (by decide) rfl (CoP.sl rfl (.inr rfl) (fun h=>h) (fun i j hi _=>absurd hi (Nat.not_lt_zero i))) (.inr rfl) rfl ?_
 refine ah (ι:=Nat) ⟨[(0,some _),(1,some _),(24,some _),(25,some _)],[]⟩ ⟨⟨c9,c9,c9,c9,trivial⟩,trivial⟩ (fun i=>⟨[(8,some (.v (.one (.ref 900 (((im n l).take i).map pt).length)))),(9,some (vB (lm n l i))),(26,some (vI i))],[(900,some (.arr true 1 46 (((im n l).take i).map pt).length (lf sC (((im n l).take i).map pt))))]⟩) (fun i=>i ≤ (im n l).length) (fun i=>(im n l).length - i) (0) (Nat.zero_le _) ⟨⟨zy,⟨_,rfl,(cob rfl)⟩,zy,trivial⟩,⟨u9,trivial⟩⟩ ?_
 rintro i hi
 have hlen:(((im n l).take i).map pt).length ≤ i:=by rw [List.length_map,List.length_take];omega
 refine w_5 ?_;refine a6 _ rfl (fun r1=>?_) (fun r1=>?_)
 ·
  have h1:=ae r1
  try simp only [ty] at h1
  refine w_7 ?_;refine m9 0 ?_;refine mr ?_;refine m9 1 ?_;refine ra 2 true rfl rfl rfl rfl rfl rfl ?_;refine w_5 ?_;refine b9 rfl rfl (fun r2=>?_) (fun r2=>?_)
  ·
   have h2:=r2
   (iterate 4 refine k9 (gtf r2) ?_);refine rq rfl rfl rfl rfl rfl ?_ (hp:=r2);refine w_6 ?_;refine ⟨i + 1, ?_, ?_, ?_⟩
   · show i + 1 ≤ _;omega
   · first | omega | (dsimp only;omega)
   exact ⟨⟨⟨_,rfl,(ca (qo (by omega)))⟩,⟨_,rfl,(cob (by first | exact axv (n:=n) (l:=l) (i:=i) (by omega) (by assumption) | exact ay6 (n:=n) (l:=l) (i:=i) (by omega) (by assumption) | exact ay7 (n:=n) (l:=l) (i:=i) (by omega)))⟩,zy,c9,c9,c9,c9,trivial⟩,⟨⟨_,rfl,(c7 (qo (by omega)) (CoP.of_eq (congrArg (fun z=>PV.raw (.int .u32 z)) (bOr _ _))))⟩,trivial⟩⟩
  have h2:=r2
  (iterate 3 refine qy ?_ (hg:=(gff r2)));refine rc rfl rfl rfl rfl rfl rfl a9f (adv n l (pt ((im n l).getD i default))) (⟨CoC.refl _,CoC.refl _,cci (bOr _ _),trivial⟩) rfl (gff r2) ?_;refine w_7 ?_
  refine ⟨i + 1, ?_, ?_, ?_⟩
  · show i + 1 ≤ _;omega
  · first | omega | (dsimp only;omega)
  exact ⟨⟨⟨_,rfl,(ca (qo (by omega)))⟩,⟨_,rfl,(cob (by first | exact axv (n:=n) (l:=l) (i:=i) (by omega) (by assumption) | exact ay6 (n:=n) (l:=l) (i:=i) (by omega) (by assumption) | exact ay7 (n:=n) (l:=l) (i:=i) (by omega)))⟩,zy,c9,c9,c9,c9,trivial⟩,⟨⟨_,rfl,(c7 (qo (by omega)) (CoP.of_eq (congrArg (fun z=>PV.raw (.int .u32 z)) (bOr _ _))))⟩,trivial⟩⟩
 have h1:=aa r1
 try simp only [ty] at h1
 obtain rfl:i = (im n l).length:=by omega
 refine fe ?_
 refine d4 (ι:=Unit) ⟨[],[]⟩ ⟨trivial,trivial⟩ (fun _i=>⟨[(8,some (.v (.one (.ref 900 (a2r n l).length))))],[(900,some (.arr true 1 46 (a2r n l).length (lf sC (a2r n l))))]⟩) (fun _i=>True) ?_ ?_
 ·
  refine w_5 ?_;refine a6 _ rfl (fun r3=>?_) (fun r3=>?_)
  ·
   have h3:=r3
   have h3:=au h3
   refine w_5 ?_;refine qcx b6o (b4m n hv.1 hv.2.1) ?_;refine qcx b4k (b06 n l (aq n)) ?_;refine fc ?_;refine a6 _ rfl (fun r4=>?_) (fun r4=>?_)
   ·
    have h4:=r4
    have h4:=aa (au h4)
    try simp only [ty] at h4
    exfalso
    exact h4 (b07 h0)
   have h4:=r4
   have h4:=ae (ar h4)
   try simp only [ty] at h4
   refine w_4 ?_;refine m9 3 ?_;refine ra 4 true rfl rfl rfl rfl rfl rfl ?_;refine w_2 ?_;refine ⟨(), ?_, ?_⟩
   · trivial
   exact ⟨⟨⟨_,rfl,(by first | exact jx (by rw [zk (by assumption)]) | exact jx (by rw [a8a (by assumption),List.length_append];rfl))⟩,trivial⟩,⟨⟨_,rfl,(by first | exact fy (zk (by assumption)) (by rw [zk (by assumption)]) | exact c7 (a8a (by assumption)) (CoP.refl _))⟩,trivial⟩⟩
  have h3:=r3
  have h3:=ar h3
  refine dn ?_;refine ⟨(), ?_, ?_⟩
  · trivial
  exact ⟨⟨⟨_,rfl,(by first | exact jx (by rw [zk (by assumption)]) | exact jx (by rw [a8a (by assumption),List.length_append];rfl))⟩,trivial⟩,⟨⟨_,rfl,(by first | exact fy (zk (by assumption)) (by rw [zk (by assumption)]) | exact c7 (a8a (by assumption)) (CoP.refl _))⟩,trivial⟩⟩
 rintro _ _
 refine d8 ?_;refine bi 8 rfl rfl rfl ?_;refine w_2 ?_;refine qcx afq (a7k (a2r n l) (by omega)) ?_;refine w_3 ?_
 exact hx8 rfl rfl rfl (⟨CoC.one (CoP.of_eq (by rw [b86 h0];rfl)),cci h0.symm,trivial⟩)
end
section
def Eqv (l k:List Fd):Prop:=∀ s,pz l s ↔ pz k s
theorem Eqv.refl (l:List Fd):Eqv l l:=fun s=>Iff.rfl
theorem Eqv.trans {a b c:List Fd} (h:Eqv a b) (k:Eqv b c):Eqv a c:=fun s=>(h s).trans (k s)
theorem Eqv.clo {l k:List Fd} (h:Eqv l k) (s:AS):clo l s = clo k s :=
 ij (a3n ((h _).2 a2d) a9x) (a3n ((h _).1 a2d) a9x)
end
section
def bd9 (l:List Fd) (ps:List AS) (t:AS):Prop:=∀ p ∈ ps,sub (clo l (t &&& p) &&& p) t
def bav (l:List Fd) (s p:AS):AS:=s ||| (clo l (s &&& p) &&& p)
def bcq (l:List Fd) (ps:List AS) (s:AS):AS:=ps.foldl (bav l) s
def PrI (l:List Fd) (ps:List AS) (z s:AS):Prop:=sub z s ∧ sub s (a1c l ps z)
def bdx (n:Int) (l:List Fd) (i:Nat):List AS:=((be (aq n)).take i).filter fun s=>!ik l s
end
section
def bcr (l:List Fd):Prop:=∀ f ∈ l,∀ i,i < 32 → f.rhs.getLsbD i = true → f.lhs.getLsbD i = false
section
variable {n:Int} {l:List Fd}
end
end
section
open Go.Proofs
theorem b3p {ps:List AS} {k:AS} (h:k ∈ ps):sub k (orL ps):=ct.2 fun i hi hb=>by
 unfold orL
 rw [akj,Bool.or_eq_true]
 exact .inr (List.any_eq_true.2 ⟨k,h,hb⟩)
section
variable {n:Int} {l:List Fd}
end
end
section
def auo (E:Int → Int → Prop) (R:Rw → Prop) (s:AS):Prop:=∃ r,R r ∧ ∀ i:Nat,i < r.length → dx s (i:Int) = true → E (r.getD i default) (i:Int)
section
variable {N:Nat} {p m:List Fd} {E:Int → Int → Prop} {R:Rw → Prop}
theorem aw4 {s t:AS} (h:sub s t) {i:Nat} (hi:dx s (i:Int) = true):dx t (i:Int) = true:=by
 by_cases hl:i < 32
 · rw [n4 hl] at hi ⊢
   exact ct.1 h i hl hi
 rw [aa1 (by omega)] at hi
 cases hi
theorem auo.mono {s t:AS} (h:auo E R t) (hs:sub s t):auo E R s:=by
 obtain ⟨r,h1,h2⟩:=h
 exact ⟨r,h1,fun i hi hh=>h2 i hi (aw4 hs hh)⟩
end
section
variable {n:Int} {p m:List Fd} {ps:List AS}
end
end
section
def lvE (n:Int) (ps:List AS):Int:=if n < 0 ∨ 8 < n then 7 else if 64 < ps.length then 3 else if ps.length = 0 ∨ ¬ orL ps = aq n then 1 else 0
section
variable {n:Int} {ps:List AS} {p m:List Fd}
theorem adm (h:n < 0 ∨ 8 < n):lvE n ps = 7:=if_pos h
theorem axs (h:¬ (n < 0 ∨ 8 < n)) (h2:64 < ps.length):lvE n ps = 3:=by unfold lvE;rw [if_neg h,if_pos h2]
theorem adp (h:¬ (n < 0 ∨ 8 < n)) (h2:¬ 64 < ps.length) (h3:ps.length = 0 ∨ ¬ orL ps = aq n):lvE n ps = 1:=by unfold lvE;rw [if_neg h,if_neg h2,if_pos h3]
theorem axm (h:¬ (n < 0 ∨ 8 < n)) (h2:¬ 64 < ps.length) (h3:¬ (ps.length = 0 ∨ ¬ orL ps = aq n)):lvE n ps = 0:=by unfold lvE;rw [if_neg h,if_neg h2,if_neg h3]
theorem n3 (h:lvE n ps = 0):0 ≤ n ∧ n ≤ 8 ∧ ps.length ≤ 64 ∧ 0 < ps.length ∧ orL ps = aq n:=by
 unfold lvE at h
 split at h
 · exact absurd h (by decide)
 split at h
 · exact absurd h (by decide)
 split at h
 · exact absurd h (by decide)
 rename_i h1 h2 h3
 refine ⟨by omega,by omega,by omega,by omega, ?_⟩
 apply Classical.byContradiction
 intro e
 exact h3 (.inr e)
def lsT (n:Int) (ps:List AS) (p m:List Fd):List St × (Int × List Rw) × Int:=jz FU n (c5 (cj n ps)) p m
def lsC (n:Int) (ps:List AS) (p m:List Fd):Int:=if lvE n ps = 0 then (if d9 n p m = 0 then (lsT n ps p m).2.2 else d9 n p m) else lvE n ps
def lsB (n:Int) (ps:List AS) (p m:List Fd):Bool:=decide (lsC n ps p m = 0) && (lsT n ps p m).2.1.2.any fun r=>decide (r = eo n)
theorem ay3 (h:lvE n ps = 0) (h2:d9 n p m = 0):lsC n ps p m = (lsT n ps p m).2.2:=(if_pos h).trans (if_pos h2)
theorem a3w (h:lsC n ps p m = 0):lvE n ps = 0 ∧ d9 n p m = 0:=by
 unfold lsC at h
 split at h
 · rename_i e
   split at h
   · rename_i e2;exact ⟨e,e2⟩
   rename_i e2;exact absurd h e2
 rename_i e;exact absurd h e
theorem a9g (h:lvE n ps = 0) {q:AS} (hq:q ∈ ps):sub q (aq n):=by
 rw [← (n3 h).2.2.2.2]
 exact b3p hq
theorem ate (h:lvE n ps = 0):i9 n ps = (n,c5 (cj n ps),0):=by
 obtain ⟨h0,h8,h64,_⟩:=n3 h
 exact aew (by omega) (by omega) fun j hj=>(ana h0 (by omega)).1 (a9g h (cu hj))
def bdv (n:Int) (p:List Fd) (ps:List AS):Bool:=lsB n ps p [] && !ps.any (ik p)
end
end
section
abbrev tbC (a:Int × List Rw):Nat → PV:=fun j=>[.raw (.int .i64 a.1),rl a.2].getD j .any
def lcR (n:Int) (ps:List AS) (p m:List Fd):(Int × List Rw) × List St × (Int × List Rw) × Int :=
 if lvE n ps = 0 then (if d9 n p m = 0 then ((n,c5 (cj n ps)),(lsT n ps p m).1,(lsT n ps p m).2.1,(lsT n ps p m).2.2) else ((0,[]),[],(0,[]),d9 n p m)) else ((0,[]),[],(0,[]),lvE n ps)
section
variable {n:Int} {ps:List AS} {p m:List Fd} {l lend:List Rw}
theorem bag (h:¬ lvE n ps = 0):lcR n ps p m = ((0,[]),[],(0,[]),lvE n ps):=if_neg h
theorem bat (h:lvE n ps = 0) (h2:¬ d9 n p m = 0):lcR n ps p m = ((0,[]),[],(0,[]),d9 n p m):=(if_pos h).trans (if_neg h2)
theorem aml (h:lvE n ps = 0) (h2:d9 n p m = 0):lcR n ps p m = ((n,c5 (cj n ps)),(lsT n ps p m).1,(lsT n ps p m).2.1,(lsT n ps p m).2.2):=(if_pos h).trans (if_pos h2)
theorem mz:(lcR n ps p m).2.2.2 = lsC n ps p m:=by
 unfold lcR lsC
 split
 · split <;> rfl
 rfl
theorem atn (h:(lcR n ps p m).2.2.2 = 0):((lcR n ps p m).2.2.1.2.any fun r=>decide (r = eo n)) = lsB n ps p m:=by
 have hc:=h
 rw [mz] at hc
 obtain ⟨h1,h2⟩:=a3w hc
 unfold lsB
 rw [decide_eq_true hc,Bool.true_and,aml h1 h2]
theorem aw1 (h:¬ (lcR n ps p m).2.2.2 = 0):lsB n ps p m = false:=by
 rw [mz] at h
 unfold lsB
 rw [decide_eq_false h]
 rfl
theorem b77:(bif decide ((lcR n ps p m).2.2.2 = 0) then ((lcR n ps p m).2.2.1.2.any fun r=>decide (r = eo n)) else false) = lsB n ps p m:=by
 by_cases h:(lcR n ps p m).2.2.2 = 0
 · rw [decide_eq_true h,cond_true,atn h]
 rw [decide_eq_false h,cond_false,aw1 h]
theorem bcf (h:lcR n ps p m = lcR n ps p m) (h2:(lcR n ps p m).2.2.2 = 0):0 ≤ n ∧ n ≤ 8:=by
 rw [mz] at h2
 obtain ⟨h1,_⟩:=a3w h2
 exact ⟨(n3 h1).1,(n3 h1).2.1⟩
theorem ay9:∀ {sts:List St} {l:List Rw} {i:Nat},TrZ n p m lend l sts → i ≤ sts.length → TrZ n p m lend ((trL n p m l sts).getD i default) (sts.drop i)
 | [],l,0,h,_=>h
 | s :: r,l,0,h,_=>h
 | s :: r,l,i + 1,h,hi=>by
  obtain ⟨_,_,l',e,_,h⟩:=h
  unfold trL
  rw [e]
  exact ay9 (i:=i) h (by simpa using hi)
theorem aku:∀ {sts:List St} {l:List Rw} {i:Nat},i < sts.length → (trL n p m l sts).getD (i + 1) default = (ez n ((trL n p m l sts).getD i default) p m (sts.getD i default)).2.1
 | [],l,i,hi=>by simp at hi
 | s :: r,l,0,_=>by
  unfold trL
  cases r with
  | nil=>rfl
  | cons s2 r2=>rfl
 | s :: r,l,i + 1,hi=>by
  unfold trL
  exact aku (sts:=r) (i:=i) (by simpa using hi)
theorem b0t {sts:List St}:(trL n p m l sts).getD 0 default = l:=by cases sts <;> rfl
def qq (n:Int) (p m:List Fd) (l:List Rw) (sts:List St):List (Int × List Rw):=(trL n p m l sts).map fun t=>(n,t)
theorem agb {sts:List St}:(qq n p m l sts).length = sts.length + 1:=by unfold qq;rw [List.length_map,zb]
theorem aan {sts:List St} {i:Nat} (hi:i ≤ sts.length):(qq n p m l sts).getD i default = (n,(trL n p m l sts).getD i default):=by
 unfold qq
 have:i < (trL n p m l sts).length:=by rw [zb];omega
 rw [List.getD_eq_getElem?_getD,List.getElem?_map,List.getElem?_eq_getElem this,List.getD_eq_getElem?_getD,List.getElem?_eq_getElem this]
 rfl
def rcR (n:Int) (ps:List AS) (p m:List Fd):List St × List (Int × List Rw) × Int :=
 if lsC n ps p m = 0 then ((lsT n ps p m).1,qq n p m (c5 (cj n ps)) (lsT n ps p m).1,0) else ([],[],lsC n ps p m)
theorem axi (h:lsC n ps p m = 0):rcR n ps p m = ((lsT n ps p m).1,qq n p m (c5 (cj n ps)) (lsT n ps p m).1,0):=if_pos h
theorem arq (h:lvE n ps = 0) (hb:d9 n p m = 0) (hc:(lsT n ps p m).2.2 = 0):∃ sts lend,lsT n ps p m = (sts,(n,lend),0) ∧ TrZ n p m lend (c5 (cj n ps)) sts ∧ tok n lend = true ∧ ((∃ t,t ∈ trL n p m (c5 (cj n ps)) sts ∧ eo n ∈ t) ↔ eo n ∈ lend):=by
 rcases apq (n3 h).2.2.1 hb with ⟨e,_⟩ | ⟨sts,lend,e,h1,h2,h3,h4⟩
 · unfold lsT at hc
   rw [e] at hc
   exact absurd hc (by decide)
 exact ⟨sts,lend,e,h2,h3,h4⟩
theorem anr {p m:List Fd}:∀ (F:Nat) (n:Int) (l:List Rw) (acc:List St),(i7 F n l p m acc).1.length ≤ acc.length + F:=by
 intro F
 induction F with
 | zero=>intro n l acc;unfold i7;simp
 | succ F ih =>
  intro n l acc
  unfold i7
  split
  · simp
  rename_i s _
  split
  rename_i n' l' e _
  split
  · have:=ih n' l' (acc ++ [s])
    simp only [List.length_append,List.length_singleton] at this
    omega
  simp
theorem b0l (h:lvE n ps = 0) (hb:d9 n p m = 0):(lsT n ps p m).1.length ≤ FU:=by
 obtain ⟨h0,h8,h64,_⟩:=n3 h
 have hT:=a9b (ps:=ps) h0 (by omega) h64
 have hck:ckE n (c5 (cj n ps)) p m = 0:=(if_pos hT).trans hb
 unfold lsT
 rw [a1k hck]
 have:=anr (p:=p) (m:=m) FU n (c5 (cj n ps)) []
 simpa using this
def ow (n:Int) (t:List Rw):Bool:=t.any fun r=>decide (r = eo n)
def prX (n:Int) (ps:List AS) (p m:List Fd):Int:=idx (fun a:Int × List Rw=>ow n a.2) (rcR n ps p m).2.1
def prC (n:Int) (ps:List AS) (p m:List Fd):Int:=if (rcR n ps p m).2.2 = 0 then (if prX n ps p m < 0 then 11 else 0) else (rcR n ps p m).2.2
def prS (n:Int) (ps:List AS) (p m:List Fd):List St:=if (rcR n ps p m).2.2 = 0 then (if prX n ps p m < 0 then [] else (rcR n ps p m).1.take (prX n ps p m).toNat) else []
theorem at8:(rcR n ps p m).2.2 = lsC n ps p m:=by
 unfold rcR
 split
 · rename_i h;exact h.symm
 rfl
end
end
section
open Go.Proofs
theorem b78 {n:Int} {ps:List AS} {p m:List Fd} (h:lvE n ps = 0) (hb:d9 n p m = 0) (hc:(lsT n ps p m).2.2 = 0):TrZ n p m (lsT n ps p m).2.1.2 (c5 (cj n ps)) (lsT n ps p m).1:=by
 obtain ⟨sts,lend,e,htr,_⟩:=arq h hb hc
 rw [e]
 exact htr
theorem avv {n:Nat} {l:List St} {i:Nat} {cl:Bool} (hn:n = (l.take i).length) {f:Nat → Nat → PV} (hf:∀ a j,f a j = lf St.c l a j):CoP (.sl n 4 cl f) (stl (l.take i)):=by
 refine CoP.sl hn.symm (.inl rfl) (fun h=>by cases h) fun a j ha hj=>CoP.of_eq ?_
 rw [hf]
 show St.c (l.getD a default) j = St.c ((l.take i).getD a default) j
 have:a < i:=by rw [hn,List.length_take] at ha;omega
 rw [List.getD_eq_getElem?_getD,List.getD_eq_getElem?_getD,List.getElem?_take,if_pos this]
theorem b3g (n:Int) (ps:List AS) (h:lvE n ps = 0):af Tryz.prog 128 [pI n,pP (asl ps)] (aj [pT n (c5 (cj n ps)),pI 0]):=by
 have:=b6f n ps
 rw [ate h] at this
 exact this
theorem b3v (n:Int) (ps:List AS) (p m:List Fd):af Tryz.prog 151 [pT n (c5 (cj n ps)),pP (fdl p),pP (fdl m)] (aj [pP (stl (lsT n ps p m).1),pT (lsT n ps p m).2.1.1 (lsT n ps p m).2.1.2,pI (lsT n ps p m).2.2]) :=
 b7c FU n (c5 (cj n ps)) p m (fun h=>ap3 h) (by decide)
theorem b90 {n:Int} {p m:List Fd} {l lend:List Rw} {sts:List St} {i:Nat} (hi:i < sts.length) (h:TrZ n p m lend l (sts.drop i)):tok n l = true ∧ y7 l p m (sts.getD i default) ∧ ez n l p m (sts.getD i default) = (n,(ez n l p m (sts.getD i default)).2.1,0):=by
 have e:sts.drop i = sts.getD i default :: sts.drop (i + 1):=by
  rw [List.drop_eq_getElem_cons hi,List.getD_eq_getElem?_getD,List.getElem?_eq_getElem hi];rfl
 rw [e] at h
 obtain ⟨h1,h2,l',h3,h4,h5⟩:=h
 rw [h3]
 exact ⟨h1,h2,rfl⟩
end
section
open Go.Proofs
theorem aym:goodFn Tryz.prog 112:=wgx Tryz.func112
theorem b7q (ps:List AS):af Tryz.prog 112 [pP (asl ps)] (aj [pA (orL ps)]):=by
 refine a8 (nt:=17) a7 Tryz.func112 rfl rfl l9 ?_;refine dl ?_
 refine dg 0 rfl fun hn=>?_
 refine w_6 ?_
 refine ah (ι:=Nat) ⟨[(6,some _),(7,some _)],[]⟩ ⟨⟨c9,c9,trivial⟩,trivial⟩ (fun i=>⟨[(3,some (vA (orL (ps.take i)))),(8,some (vI i))],[]⟩) (fun i=>i ≤ ps.length) (fun i=>ps.length - i) (0) (Nat.zero_le _) ⟨⟨⟨_,rfl,(CoR.refl _)⟩,zy,trivial⟩,trivial⟩ ?_
 rintro i hi
 refine w_5 ?_;refine a6 _ rfl (fun r0=>?_) (fun r0=>?_)
 ·
  have h0:=ae r0
  try simp only [ty] at h0
  refine a2e ?_;refine ⟨i + 1, ?_, ?_, ?_⟩
  · show i + 1 ≤ _;omega
  · first | omega | (dsimp only;omega)
  exact ⟨⟨⟨_,rfl,(dz (by rw [bOr,a0g (by omega)];rfl))⟩,zy,c9,c9,trivial⟩,trivial⟩
 have h0:=aa r0
 try simp only [ty] at h0
 obtain rfl:i = ps.length:=by omega
 refine w_6 ?_
 exact hx8 rfl rfl rfl (⟨cci (by rw [List.take_length]),trivial⟩)
theorem ast:goodFn Tryz.prog 52:=wgx Tryz.func52
theorem al4 (n:Int) (ps:List AS):af Tryz.prog 52 [pI n,pP (asl ps)] (aj [pI (lvE n ps)]):=by
 refine a8 (nt:=28) a7 Tryz.func52 rfl rfl l9 ?_;refine f8 ?_;refine b9 rfl rfl (fun r0=>?_) (fun r0=>?_)
 ·
  have h0:=ae r0
  try simp only [ty] at h0
  (iterate 2 refine k9 (gtf r0) ?_);refine rq rfl rfl rfl rfl rfl ?_ (hp:=r0);refine w_2 ?_;refine a6 _ rfl (fun _=>?_) (fun e=>by cases e);refine w_4 ?_
  exact hx8 rfl rfl rfl (⟨cci (adm (by omega)).symm,trivial⟩)
 have h0:=aa r0
 try simp only [ty] at h0
 (iterate 2 refine qy ?_ (hg:=(gff r0)));refine w_3 ?_;refine a6 _ rfl (fun r1=>?_) (fun r1=>?_)
 ·
  have h1:=r1
  have h1:=c6 r0 h1
  have h1:=ae h1
  try simp only [ty] at h1
  refine w_4 ?_
  exact hx8 rfl rfl rfl (⟨cci (adm (by omega)).symm,trivial⟩)
 have h1:=r1
 have h1:=c6 r0 h1
 have h1:=aa h1
 try simp only [ty] at h1
 have hz0:0 ≤ n:=by omega
 have hz1:n ≤ 16:=by omega
 refine w_7 ?_;refine a6 _ rfl (fun r2=>?_) (fun r2=>?_)
 ·
  have h2:=ae r2
  try simp only [ty] at h2
  refine w_4 ?_
  exact hx8 rfl rfl rfl (⟨cci (axs (by omega) (by omega)).symm,trivial⟩)
 have h2:=aa r2
 try simp only [ty] at h2
 refine d8 ?_;refine bg (E:=bj) a7 aw [0,1,2,3,4,5,6,7,8,9,10,11] ?_;refine w_4 ?_;refine b9 rfl rfl (fun r3=>?_) (fun r3=>?_)
 ·
  have h3:=ae r3
  try simp only [ty] at h3
  (iterate 6 refine k9 (gtf r3) ?_);refine rq rfl rfl rfl rfl rfl ?_ (hp:=r3);refine w_2 ?_;refine ⟨by kernel_rfl, ?_⟩;refine a6 _ rfl (fun _=>?_) (fun e=>by cases e);refine w_4 ?_
  exact hx8 rfl rfl rfl (⟨cci (adp (by omega) (by omega) (by first | exact .inl (by omega) | exact .inr (fun e=>absurd (show asI (orL ps) = IntKind.wrap .u32 (1 * 2 ^ (min n.toNat 32)) - 1 by rw [rg hz0 hz1,e]) (by assumption)))).symm,trivial⟩)
 have h3:=aa r3
 try simp only [ty] at h3
 refine qy ?_ (hg:=(gff r3));refine qcx aym (b7q ps) ?_ (hg:=(gff r3));(iterate 2 refine qy ?_ (hg:=(gff r3)));refine rq rfl rfl rfl rfl (gff r3) ?_ (hp:=⟨x6 hz0 hz1,ua hz0 hz1⟩)
 refine qy ?_ (hg:=(gff r3));refine w_3 ?_;refine ⟨by kernel_rfl, ?_⟩;refine a6 _ rfl (fun r4=>?_) (fun r4=>?_)
 ·
  have h4:=r4
  have h4:=c6 r3 h4
  have h4:=aa (au h4)
  try simp only [ty] at h4
  refine w_4 ?_
  exact hx8 rfl rfl rfl (⟨cci (adp (by omega) (by omega) (by first | exact .inl (by omega) | exact .inr (fun e=>absurd (show asI (orL ps) = IntKind.wrap .u32 (1 * 2 ^ (min n.toNat 32)) - 1 by rw [rg hz0 hz1,e]) (by assumption)))).symm,trivial⟩)
 have h4:=r4
 have h4:=c6 r3 h4
 have h4:=ae (ar h4)
 try simp only [ty] at h4
 refine w_6 ?_;refine ⟨.inr rfl, ?_⟩
 exact ⟨_,_,_,_,rfl,(by (repeat' apply And.intro) <;> first | trivial | exact Nat.le_of_ble_eq_true rfl | rfl),rfl,(by (repeat' apply And.intro) <;> first | trivial | exact Nat.le_of_ble_eq_true rfl | rfl),⟨cci (axm (by omega) (by omega) (fun e=>by
  rcases e with e | e
  · omega
  exact e (c8.1 ((by assumption:asI (orL ps) = IntKind.wrap .u32 (1 * 2 ^ (min n.toNat 32)) - 1).trans (rg hz0 hz1))))).symm,trivial⟩⟩
theorem akh:goodFn Tryz.prog 100:=wgx Tryz.func100
theorem akp (n:Int) (ps:List AS) (p m:List Fd):af Tryz.prog 100 [pI n,pP (asl ps),pP (fdl p),pP (fdl m)] (aj [pT (lcR n ps p m).1.1 (lcR n ps p m).1.2,pP (stl (lcR n ps p m).2.1),pT (lcR n ps p m).2.2.1.1 (lcR n ps p m).2.2.1.2,pI (lcR n ps p m).2.2.2]):=by
 refine a8 (nt:=58) a7 Tryz.func100 rfl rfl l9 ?_;refine sx7 ?_;refine m9 0 ?_;refine qy ?_;refine m9 1 ?_;refine w_7 ?_;refine qcx ast (al4 n ps) ?_;refine w_7 ?_
 refine a6 _ rfl (fun r0=>?_) (fun r0=>?_)
 ·
  have h0:=r0
  have h0:=aa (au h0)
  try simp only [ty] at h0
  refine f8 ?_;refine ⟨.inr rfl, ?_⟩
  have he:=bag (p:=p) (m:=m) (by assumption:¬ lvE n ps = 0)
  exact f9 rfl rfl (by rw [he];exact ⟨CoC.agg ⟨CoP.refl _,dv,trivial⟩,CoC.one (CoP.sl rfl (.inr rfl) (fun _=>rfl) (fun i j hi _=>absurd hi (Nat.not_lt_zero i))),CoC.agg ⟨CoP.refl _,dv,trivial⟩,CoC.refl _,trivial⟩)
 have h0:=r0
 have h0:=ae (ar h0)
 try simp only [ty] at h0
 have hv:lvE n ps = 0:=by assumption
 refine w_7 ?_;refine qcx zq (vw n p m) ?_;refine w_7 ?_;refine a6 _ rfl (fun r1=>?_) (fun r1=>?_)
 ·
  have h1:=r1
  have h1:=aa (au h1)
  try simp only [ty] at h1
  refine f8 ?_;refine ⟨.inr rfl, ?_⟩
  have he:=bat hv (by assumption:¬ d9 n p m = 0)
  exact f9 rfl rfl (by rw [he];exact ⟨CoC.agg ⟨CoP.refl _,dv,trivial⟩,CoC.one (CoP.sl rfl (.inr rfl) (fun _=>rfl) (fun i j hi _=>absurd hi (Nat.not_lt_zero i))),CoC.agg ⟨CoP.refl _,dv,trivial⟩,CoC.refl _,trivial⟩)
 have h1:=r1
 have h1:=ae (ar h1)
 try simp only [ty] at h1
 have hb:d9 n p m = 0:=by assumption
 refine w_5 ?_;refine qcx azm (b3g n ps hv) ?_;refine w_3 ?_;refine m9 2 ?_;refine w_9 ?_;refine a6 _ rfl (fun e=>by cases e) (fun _=>?_);refine w_6 ?_;refine qcx b45 (b3v n ps p m) ?_;refine w_4 ?_
 refine m9 3 ?_;refine w_5 ?_;refine bg (E:=bj) a7 aw [0,1,2,3,4,5,6,7] ?_;refine w_9 ?_;refine ⟨by kernel_rfl, ?_⟩;refine go ?_;refine ⟨.inr rfl, ?_⟩
 have he:=aml hv hb
 exact f9 rfl rfl (by rw [he];exact CoL.refl _)
theorem aiq:goodFn Tryz.prog 102:=wgx Tryz.func102
theorem aki (n:Int) (h0:0 ≤ n) (h1:n ≤ 16):af Tryz.prog 102 [pI n] (aj [pZ (eo n)]):=by
 refine a8 (nt:=18) a7 Tryz.func102 rfl rfl l9 ?_;refine w_7 ?_;refine m9 0 ?_;refine dl ?_
 refine ah (ι:=Nat) ⟨[(3,some _),(8,some _)],[]⟩ ⟨⟨c9,c9,trivial⟩,trivial⟩ (fun k=>⟨[(9,some (vI k))],[(0,some (.arr true 1 3 n.toNat (lf zC (stT n 0 (jb 32) k))))]⟩) (fun k=>k ≤ n.toNat) (fun k=>n.toNat - k) (0) (Nat.zero_le _) ⟨⟨zy,trivial⟩,⟨⟨_,rfl,(aff rfl (fun _=>rfl))⟩,trivial⟩⟩ ?_
 rintro k hk
 refine w_5 ?_;refine a6 _ rfl (fun r0=>?_) (fun r0=>?_)
 ·
  have h0:=ae r0
  try simp only [ty] at h0
  refine a2e ?_;refine ⟨k + 1, ?_, ?_, ?_⟩
  · show k + 1 ≤ _;omega
  · first | omega | (dsimp only;omega)
  exact ⟨⟨zy,c9,c9,trivial⟩,⟨⟨_,rfl,(b7m (ape (by omega)) rfl (by omega))⟩,trivial⟩⟩
 have h0:=aa r0
 try simp only [ty] at h0
 refine w_2 ?_;refine bi 3 rfl rfl rfl ?_;refine w_4 ?_
 exact hx8 rfl rfl rfl (⟨ao5 h1 (by omega),trivial⟩)
theorem b8f:goodFn Tryz.prog 45:=wgx Tryz.func45
theorem bc0 (n:Int) (ps:List AS) (p m:List Fd):af Tryz.prog 45 [pI n,pP (asl ps),pP (fdl p),pP (fdl m)] (aj [pB (lsB n ps p m),pI (lsC n ps p m)]):=by
 refine a8 (nt:=33) a7 Tryz.func45 rfl rfl l9 ?_;refine f8 ?_;refine qcx akh (akp n ps p m) ?_;refine w_5 ?_;refine m9 0 ?_;refine m9 1 ?_;refine w_6 ?_
 refine bg (E:=bj) a7 aw [0,1,2,3,4,5,6,7,8,9,10] ?_;refine w_3 ?_;refine b9 rfl rfl (fun r0=>?_) (fun r0=>?_)
 ·
  have h0:=ae r0
  try simp only [ty] at h0
  have hz:=bcf (n:=n) (ps:=ps) (p:=p) (m:=m) rfl h0
  (iterate 2 refine qy ?_ (hg:=(gtt r0)));refine qcx aiq (aki n hz.1 (by omega)) ?_ (hg:=(gtt r0));refine qcx aau (alr (lcR n ps p m).2.2.1.1 (lcR n ps p m).2.2.1.2 (eo n)) ?_ (hg:=(gtt r0))
  refine w_5 ?_;refine ⟨by kernel_rfl, ?_⟩
  exact hx8 rfl rfl rfl (⟨ccb (by first | exact b77 | exact atn (n:=n) (ps:=ps) (p:=p) (m:=m) (by assumption) | exact (aw1 (n:=n) (ps:=ps) (p:=p) (m:=m) (by assumption)).symm),cci mz,trivial⟩)
 have h0:=aa r0
 try simp only [ty] at h0
 (iterate 4 refine k9 (gft r0) ?_);refine rq rfl rfl rfl rfl rfl ?_ (hp:=r0);refine w_4 ?_;refine ⟨by kernel_rfl, ?_⟩
 exact hx8 rfl rfl rfl (⟨ccb (by first | exact b77 | exact atn (n:=n) (ps:=ps) (p:=p) (m:=m) (by assumption) | exact (aw1 (n:=n) (ps:=ps) (p:=p) (m:=m) (by assumption)).symm),cci mz,trivial⟩)
theorem b84:goodFn Tryz.prog 62:=wgx Tryz.func62
theorem atv (n:Int) (ps:List AS):af Tryz.prog 62 [pI n,pP (asl ps)] (aj [pI (lvE n ps)]):=by
 refine a8 (nt:=37) a7 Tryz.func62 rfl rfl l9 ?_;refine dl ?_;refine b9 rfl rfl (fun r0=>?_) (fun r0=>?_)
 ·
  have h0:=ae r0
  try simp only [ty] at h0
  (iterate 2 refine k9 (gtf r0) ?_);refine rq rfl rfl rfl rfl rfl ?_ (hp:=r0);refine ax ?_;refine a6 _ rfl (fun _=>?_) (fun e=>by cases e);refine w_4 ?_
  exact hx8 rfl rfl rfl (⟨cci (adm (by omega)).symm,trivial⟩)
 have h0:=aa r0
 try simp only [ty] at h0
 (iterate 2 refine qy ?_ (hg:=(gff r0)));refine w_2 ?_;refine a6 _ rfl (fun r1=>?_) (fun r1=>?_)
 ·
  have h1:=r1
  have h1:=c6 r0 h1
  have h1:=ae h1
  try simp only [ty] at h1
  refine w_4 ?_
  exact hx8 rfl rfl rfl (⟨cci (adm (by omega)).symm,trivial⟩)
 have h1:=r1
 have h1:=c6 r0 h1
 have h1:=aa h1
 try simp only [ty] at h1
 refine w_8 ?_;refine a6 _ rfl (fun r2=>?_) (fun r2=>?_)
 ·
  have h2:=ae r2
  try simp only [ty] at h2
  refine w_4 ?_
  exact hx8 rfl rfl rfl (⟨cci (axs (by omega) (by omega)).symm,trivial⟩)
 have h2:=aa r2
 try simp only [ty] at h2
 refine f8 ?_
 refine ah (ι:=Nat) ⟨[(0,some _),(1,some _)],[]⟩ ⟨⟨c9,c9,trivial⟩,trivial⟩ (fun i=>⟨[(5,some (vA (orL (ps.take i)))),(6,some (vI i))],[]⟩) (fun i=>i ≤ ps.length) (fun i=>ps.length - i) (0) (Nat.zero_le _) ⟨⟨⟨_,rfl,(CoR.refl _)⟩,zy,trivial⟩,trivial⟩ ?_
 rintro i hi
 refine w_8 ?_;refine a6 _ rfl (fun r3=>?_) (fun r3=>?_)
 ·
  have h3:=ae r3
  try simp only [ty] at h3
  refine ae8 ?_;refine ⟨i + 1, ?_, ?_, ?_⟩
  · show i + 1 ≤ _;omega
  · first | omega | (dsimp only;omega)
  exact ⟨⟨⟨_,rfl,(dz (by rw [bOr,a0g (by omega)];rfl))⟩,zy,c9,c9,trivial⟩,trivial⟩
 have h3:=aa r3
 try simp only [ty] at h3
 obtain rfl:i = ps.length:=by omega
 rw [show ps.take ps.length = ps from List.take_length]
 refine w_8 ?_;refine b9 rfl rfl (fun r4=>?_) (fun r4=>?_)
 ·
  have h4:=ae r4
  try simp only [ty] at h4
  (iterate 4 refine k9 (gtf r4) ?_);refine rq rfl rfl rfl rfl rfl ?_ (hp:=r4);refine ax ?_;refine a6 _ rfl (fun _=>?_) (fun e=>by cases e);refine w_4 ?_
  exact hx8 rfl rfl rfl (⟨cci (adp (by omega) (by omega) (by first | exact .inl (by omega) | exact .inr (fun e=>absurd (show asI (orL ps) = asI (aq n) by rw [e]) (by assumption)))).symm,trivial⟩)
 have h4:=aa r4
 try simp only [ty] at h4
 (iterate 2 refine qy ?_ (hg:=(gff r4)));refine qcx ze (a00 n) ?_ (hg:=(gff r4));refine qy ?_ (hg:=(gff r4));refine w_2 ?_;refine a6 _ rfl (fun r5=>?_) (fun r5=>?_)
 ·
  have h5:=r5
  have h5:=c6 r4 h5
  have h5:=aa (au h5)
  try simp only [ty] at h5
  refine w_4 ?_
  exact hx8 rfl rfl rfl (⟨cci (adp (by omega) (by omega) (by first | exact .inl (by omega) | exact .inr (fun e=>absurd (show asI (orL ps) = asI (aq n) by rw [e]) (by assumption)))).symm,trivial⟩)
 have h5:=r5
 have h5:=c6 r4 h5
 have h5:=ae (ar h5)
 try simp only [ty] at h5
 refine w_6 ?_;refine ⟨.inr rfl, ?_⟩
 exact ⟨_,_,_,_,rfl,(by (repeat' apply And.intro) <;> first | trivial | exact Nat.le_of_ble_eq_true rfl | rfl),rfl,(by (repeat' apply And.intro) <;> first | trivial | exact Nat.le_of_ble_eq_true rfl | rfl),⟨cci (axm (by omega) (by omega) (fun e=>by
  rcases e with e | e
  · omega
  exact e (c8.1 (by assumption)))).symm,trivial⟩⟩
end
section
inductive Lf (l:List Fd):AS → AS → Prop
 | leaf {s:AS}:ik l s = false → Lf l s s
 | left {s q:AS}:ik l s = true → Lf l (spA l s) q → Lf l s q
 | right {s q:AS}:ik l s = true → Lf l (spB l s) q → Lf l s q
def b4d (l:List Fd):Nat → AS → List AS
 | 0,s=>[s]
 | k + 1,s=>if ik l s = true then b4d l k (spA l s) ++ b4d l k (spB l s) else [s]
end
section
open Go.Proofs
def u8A (b:BitVec 8):AS:=b.setWidth 32
abbrev u8C:BitVec 8 → Nat → PV:=fun b _=>.raw (.int .u8 (b.toNat:Int))
end
section
structure Rcp where
 n:BitVec 8
 f:List Dp
 m:List Dp
 p:List (BitVec 8)
deriving Inhabited
def Rcp.num (d:Rcp) (k:Nat):Int:=1 + ((d.n.toNat % k:Nat):Int)
abbrev Rcp.pc (d:Rcp):PC:=.agg [.raw (.int .u8 (d.n.toNat:Int)),dpl d.f,dpl d.m,psl 1 u8C d.p]
def u8S (n:Int) (b:BitVec 8):AS:=b.setWidth 32 &&& aq n
theorem aly {a b c:Nat}:(bif bif decide ((a:Int) ≤ 4) then decide ((b:Int) ≤ 4) else false then decide ((c:Int) ≤ 3) else false) = decide (a ≤ 4 ∧ b ≤ 4 ∧ c ≤ 3):=by
 rw [Bool.eq_iff_iff,decide_eq_true_iff]
 by_cases h1:(a:Int) ≤ 4
 · by_cases h2:(b:Int) ≤ 4
   · rw [decide_eq_true h1,decide_eq_true h2,cond_true,cond_true,decide_eq_true_iff];omega
   rw [decide_eq_true h1,decide_eq_false h2,cond_true,cond_false];exact ⟨(fun h=>by cases h),(fun h=>by omega)⟩
 rw [decide_eq_false h1,cond_false,cond_false];exact ⟨(fun h=>by cases h),(fun h=>by omega)⟩
end
end Go.Hx

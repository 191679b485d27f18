/- A part of the proof: V15 Cs18 V16 Cs19 V17. -/
import Derived.Test.YtkkenjdfbojdlaaGreatDoorFx20
set_option linter.all false
set_option maxRecDepth 100000
set_option maxHeartbeats 1000000
namespace Go.Hx
section
open Go.Proofs
theorem anj (l:List AS):dw Tryz.prog 216 [.one (.ref 900 l.length)] [(900, .arr true 1 46 l.length (lf sC l))] (.v (.one (.ref 901 (iu l).length))) [(901, .arr true 1 46 (iu l).length (lf sC (iu l)))] []:=by
 refine gd (nt:=61) a7 Tryz.func216 rfl rfl l9 rfl ?_;refine d8 ?_
 refine a9n 900 rfl fun hlen=>?_
 refine dl ?_;refine a6 _ rfl (fun r0=>?_) (fun r0=>?_)
 ·
  have h0:=ae r0
  try simp only [ty] at h0
  refine w_5 ?_;refine u6 2 901 rfl rfl rfl rfl ?_;refine go ?_;refine ⟨.inr rfl, ?_⟩
  have he:=age (l:=l) (k:=l.length) (Nat.le_refl _) (fun j h1 h2=>by omega)
  exact ⟨_,_,rfl,(by (repeat' apply And.intro) <;> first | trivial | exact Nat.le_of_ble_eq_true rfl),jx (by rw [he]),⟨⟨_,rfl,fy he (by rw [he])⟩,trivial⟩⟩
 have h0:=aa r0
 try simp only [ty] at h0
 refine w_7 ?_
 refine ah (ι:=Nat) ⟨[(0,some _)],[(900,some _)]⟩ ⟨⟨c9,trivial⟩,⟨u9,trivial⟩⟩ (fun k=>⟨[(3,some (vI k))],[]⟩) (fun k=>1 ≤ k ∧ k ≤ l.length ∧ ∀ j,0 < j → j < k → ¬ l.getD j default = l.getD (j - 1) default) (fun k=>l.length - k) (1) (⟨Nat.le_refl _,by omega,fun j h1 h2=>by omega⟩) ⟨⟨zy,trivial⟩,trivial⟩ ?_
 rintro k ⟨hk1,hk,hI⟩
 refine w_8 ?_;refine a6 _ rfl (fun r1=>?_) (fun r1=>?_)
 ·
  have h1:=ae r1
  try simp only [ty] at h1
  refine w_4 ?_;refine bg (E:=bj) a7 aw [0,1,2,3,4,5,6,7,8,9] ?_;refine f8 ?_;refine ⟨by kernel_rfl, ?_⟩;refine a6 _ rfl (fun r2=>?_) (fun r2=>?_)
  ·
   have h2:=ae r2
   try simp only [ty] at h2
   refine kf ?_
   refine ah (ι:=Nat × Nat × List AS) ⟨[(0,some _),(4,some _)],[]⟩ ⟨⟨c9,c9,trivial⟩,trivial⟩ (fun x=>⟨[(3,some (vI x.1)),(5,some (vI ((x.2.1:Int) - k)))],[(900,some (.arr true 1 46 l.length (lf sC x.2.2)))]⟩) (fun x=>CpI l k x.1 x.2.1 x.2.2) (fun x=>l.length - x.2.1) ((k,k + 1,l)) (CpI.start hk1 (by omega) hI (vl (by assumption) rfl (by omega))) ⟨⟨zy,⟨_,rfl,(coi (by first | rfl | (dsimp only;omega)))⟩,trivial⟩,⟨u9,trivial⟩⟩ ?_
   rintro ⟨p,q,m⟩ hC
   have hC0:=hC
   obtain ⟨hml,hkq,hpq,hql,_,_⟩:=hC0
   dsimp only at hC hml hkq hpq hql
   refine w_8 ?_;refine a6 _ rfl (fun r3=>?_) (fun r3=>?_)
   ·
    have h3:=ae r3
    try simp only [ty] at h3
    simp only [ej,bc,Int.toNat_natCast] at h3
    refine w_4 ?_;refine bg (E:=bj) a7 aw [0,1,2,3,4,5,6,7,8,9] ?_;refine f8 ?_;refine ⟨by kernel_rfl, ?_⟩;refine a6 _ rfl (fun r4=>?_) (fun r4=>?_)
    ·
     have h4:=r4
     have h4:=aa (au h4)
     try simp only [ty] at h4
     refine amo ?_
     first | (refine ⟨(p + 1, q + 1, m.set p (m.getD q default)), ?_, ?_, ?_⟩
              · exact hC.keep (by omega) (vz (by assumption) (by simp only [bc];omega) (by simp only [bc];omega))
              · first | omega | (dsimp only;omega)
              exact ⟨⟨⟨_,rfl,(coi (by first | rfl | (dsimp only;omega)))⟩,⟨_,rfl,(coi (by first | rfl | (dsimp only;omega)))⟩,c9,c9,trivial⟩,⟨⟨_,rfl,(qb id hml.symm (by omega) (by dsimp only;omega) (by simp only [bc];omega))⟩,trivial⟩⟩)
           | (refine ⟨(p,q + 1,m), ?_, ?_, ?_⟩
              · exact hC.skip (by omega) (vl (by assumption) (by simp only [bc];omega) (by simp only [bc];omega))
              · first | omega | (dsimp only;omega)
              exact ⟨⟨⟨_,rfl,(coi (by first | rfl | (dsimp only;omega)))⟩,⟨_,rfl,(coi (by first | rfl | (dsimp only;omega)))⟩,c9,c9,trivial⟩,⟨u9,trivial⟩⟩)
    have h4:=r4
    have h4:=ae (ar h4)
    try simp only [ty] at h4
    refine w_6 ?_
    first | (refine ⟨(p + 1, q + 1, m.set p (m.getD q default)), ?_, ?_, ?_⟩
             · exact hC.keep (by omega) (vz (by assumption) (by simp only [bc];omega) (by simp only [bc];omega))
             · first | omega | (dsimp only;omega)
             exact ⟨⟨⟨_,rfl,(coi (by first | rfl | (dsimp only;omega)))⟩,⟨_,rfl,(coi (by first | rfl | (dsimp only;omega)))⟩,c9,c9,trivial⟩,⟨⟨_,rfl,(qb id hml.symm (by omega) (by dsimp only;omega) (by simp only [bc];omega))⟩,trivial⟩⟩)
          | (refine ⟨(p,q + 1,m), ?_, ?_, ?_⟩
             · exact hC.skip (by omega) (vl (by assumption) (by simp only [bc];omega) (by simp only [bc];omega))
             · first | omega | (dsimp only;omega)
             exact ⟨⟨⟨_,rfl,(coi (by first | rfl | (dsimp only;omega)))⟩,⟨_,rfl,(coi (by first | rfl | (dsimp only;omega)))⟩,c9,c9,trivial⟩,⟨u9,trivial⟩⟩)
   have h3:=aa r3
   try simp only [ty] at h3
   simp only [ej,bc,Int.toNat_natCast] at h3
   refine w_6 ?_;refine ra 0 true rfl rfl rfl rfl rfl rfl ?_;refine w_8 ?_;refine ahl 2 901 rfl rfl rfl rfl (by simp only [ej,bc,Int.toNat_natCast];omega) rfl ?_;refine go ?_;refine ⟨.inr rfl, ?_⟩
   have he:=(ad3 hC (by omega)).1
   exact ⟨_,_,rfl,(by (repeat' apply And.intro) <;> first | trivial | exact Nat.le_of_ble_eq_true rfl),jx (by rw [he];simp [ej,bc]),⟨⟨_,rfl,b0k hC (by omega) (by simp [bc]) (by simp [ej,bc])⟩,trivial⟩⟩
  have h2:=aa r2
  try simp only [ty] at h2
  refine w_6 ?_;refine ⟨k + 1, ?_, ?_, ?_⟩
  · refine ⟨by omega,by show k + 1 ≤ _;omega,fun j h1 h2=>?_⟩
    rcases Nat.lt_or_eq_of_le (Nat.le_of_lt_succ h2) with h | h
    · exact hI j h1 h
    subst h
    exact vz (by assumption) rfl (by omega)
  · first | omega | (dsimp only;omega)
  exact ⟨⟨zy,c9,trivial⟩,⟨u9,trivial⟩⟩
 have h1:=aa r1
 try simp only [ty] at h1
 refine w_6 ?_;refine u6 2 901 rfl rfl rfl rfl ?_;refine go ?_;refine ⟨.inr rfl, ?_⟩
 have he:=age (l:=l) (k:=k) (by omega) hI
 exact ⟨_,_,rfl,(by (repeat' apply And.intro) <;> first | trivial | exact Nat.le_of_ble_eq_true rfl),jx (by rw [he]),⟨⟨_,rfl,fy he (by rw [he])⟩,trivial⟩⟩
theorem b11 (l:List AS) (hl:l.length ≤ 8589934592):dw Tryz.prog 169 [.one (.p (asl l))] [] (.v (.one (.ref 901 (ord l).length))) [(901, .arr true 1 46 (ord l).length (lf sC (ord l)))] []:=by
 refine gd (nt:=10) a7 Tryz.func169 rfl rfl l9 rfl ?_;refine w_7 ?_;refine bf rfl rfl rfl rfl rfl rfl a34 (a07 l.length false (lf sC l) (by omega)) (da.refl _) trivial rfl rfl ?_;refine w_5 ?_
 refine bf rfl rfl rfl rfl rfl rfl akm (ax2 0 _ l hl) (da.refl _) ⟨u9,trivial⟩ rfl rfl ?_;refine w_4 ?_
 refine bf rfl rfl rfl rfl rfl rfl ajp ((anj (srt l)).swap 900 0) (⟨congrArg (HV.ref 0) (a57 l).symm,trivial⟩) ⟨⟨_,rfl,fy rfl (a57 l).symm⟩,trivial⟩ rfl rfl ?_;refine w_3 ?_;refine ⟨.inr rfl, ?_⟩
 exact ⟨_,_,rfl,(by (repeat' apply And.intro) <;> first | trivial | exact Nat.le_of_ble_eq_true rfl),jx (by rw [a0t]),⟨⟨_,rfl,fy (a0t _).symm (by rw [a0t])⟩,trivial⟩⟩
theorem asq (s:AS):dw Tryz.prog 118 [.one (.p (asC s))] [] (.v (.one (.ref 901 (be s).length))) [(901, .arr true 1 46 (be s).length (lf sC (be s)))] []:=by
 refine gd (nt:=23) a7 Tryz.func118 rfl rfl l9 rfl ?_;refine w_8 ?_;refine qcx vq (a51 s) ?_;refine w_2 ?_;refine a6 _ rfl (fun r0=>?_) (fun r0=>?_)
 ·
  have h0:=ae r0
  try simp only [ty] at h0
  refine w_4 ?_;refine d6 2 901 true 1 46 (lf sC []) (by decide) rfl (CoP.sl rfl (.inr rfl) (fun h=>h) (fun i j hi _=>absurd hi (Nat.not_lt_zero i))) (.inr rfl) rfl ?_;refine go ?_;refine ⟨.inr rfl, ?_⟩
  exact ⟨_,_,rfl,(by (repeat' apply And.intro) <;> first | trivial | exact Nat.le_of_ble_eq_true rfl),jx (by rw [zu h0];rfl),⟨⟨_,rfl,fy (zu h0) (by rw [zu h0];rfl)⟩,trivial⟩⟩
 have h0:=aa r0
 try simp only [ty] at h0
 refine w_4 ?_;refine m9 0 ?_;refine w_9 ?_
 refine ah (ι:=List AS × AS) ⟨[(0,some _)],[]⟩ ⟨⟨c9,trivial⟩,trivial⟩ (fun y=>⟨[(3,some (.v (.one (.ref 0 y.1.length)))),(4,some (vA y.2))],[(0,some (.arr true 1 46 y.1.length (lf sC y.1)))]⟩) (fun y=>a4f s y) (fun y=>y.2.toNat) (([s],s)) (acw s) ⟨⟨zy,zy,trivial⟩,⟨⟨_,rfl,(a0q (CoP.refl _))⟩,trivial⟩⟩ ?_
 rintro y hy
 have hlen:=hy.2.1
 have hsl:=s.isLt
 refine w_6 ?_;refine a6 _ rfl (fun r1=>?_) (fun r1=>?_)
 ·
  have h1:=r1
  have h1:=aa (au h1)
  try simp only [ty] at h1
  have hne:y.2 ≠ 0:=fun e=>h1 (by rw [e];rfl)
  refine w_5 ?_;refine rq rfl rfl rfl rfl rfl ?_ (hp:=(wn hne));refine w_7 ?_;refine m9 1 ?_;refine ra 2 true rfl rfl rfl rfl rfl rfl ?_;refine w_2 ?_;refine ⟨(y.1 ++ [(y.2 - 1) &&& s],(y.2 - 1) &&& s), ?_, ?_, ?_⟩
  · exact acu hy hne
  · exact nc hne
  exact ⟨⟨⟨_,rfl,(ca rfl)⟩,⟨_,rfl,(dz (xb hne))⟩,c9,trivial⟩,⟨⟨_,rfl,(c7 rfl (CoP.of_eq (by rw [xb hne];rfl)))⟩,trivial⟩⟩
 have h1:=r1
 have h1:=ae (ar h1)
 try simp only [ty] at h1
 have hz:y.2 = 0:=c8.1 h1
 refine w_2 ?_;refine bi 3 rfl rfl rfl ?_;refine w_2 ?_;refine bf rfl rfl rfl rfl rfl rfl vt (b11 y.1 (by omega)) (da.refl _) trivial rfl rfl ?_;refine w_3 ?_;refine ⟨.inr rfl, ?_⟩
 have he:=(ahn hy hz).trans (aar h0).symm
 exact ⟨_,_,rfl,(by (repeat' apply And.intro) <;> first | trivial | exact Nat.le_of_ble_eq_true rfl),jx (by rw [he]),⟨⟨_,rfl,fy he.symm (by rw [he])⟩,trivial⟩⟩
end
section
def p6 (l:List Fd) (p:AS):Int:=if br 16 l = 0 then (if 8 < bsz p then 3 else if p >>> 16 = 0 then 0 else 1) else br 16 l
def a1g (l:List Fd) (p:AS):Fd:=if p6 l p = 0 then k7 l p else ⟨0,0⟩
def t8 (l:List Fd) (p:AS):Bool:=decide (p6 l p = 0) && ik l p
theorem ag1 {f:Fd} (h:f = ⟨0,0⟩):CoC (.agg [jg (.int .u32 0),jg (.int .u32 0)]) f.pc:=CoC.of_eq (by rw [h];rfl)
theorem bam {a b:Fd} (h:a = b):CoC a.pc b.pc:=CoC.of_eq (by rw [h])
theorem b4w {l:List Fd} {p:AS} (h:¬ br 16 l = 0):p6 l p = br 16 l ∧ a1g l p = ⟨0,0⟩ ∧ t8 l p = false:=by
 have e:p6 l p = br 16 l:=if_neg h
 unfold a1g t8
 rw [e]
 exact ⟨rfl,if_neg h,by rw [decide_eq_false h];rfl⟩
theorem b7s {l:List Fd} {p:AS} (h:br 16 l = 0) (h2:(8:Int) < bsz p):p6 l p = 3 ∧ a1g l p = ⟨0,0⟩ ∧ t8 l p = false:=by
 have e:p6 l p = 3:=by unfold p6;rw [if_pos h,if_pos (by omega)]
 unfold a1g t8
 rw [e]
 exact ⟨rfl,rfl,rfl⟩
theorem ah2 {p:AS} {n:Nat}:(asI p).fdiv (2 ^ (min n 32)) = 0 ↔ p >>> n = 0:=by
 rw [uk,show (0:Int) = asI 0 from rfl,c8]
theorem b7r {l:List Fd} {p:AS} (h:br 16 l = 0) (h2:¬ (8:Int) < bsz p) (h3:¬ (asI p).fdiv (2 ^ (min 16 32)) = 0):p6 l p = 1 ∧ a1g l p = ⟨0,0⟩ ∧ t8 l p = false:=by
 rw [ah2] at h3
 have e:p6 l p = 1:=by unfold p6;rw [if_pos h,if_neg (by omega),if_neg h3]
 unfold a1g t8
 rw [e]
 exact ⟨rfl,rfl,rfl⟩
theorem b8a {l:List Fd} {p:AS} (h:br 16 l = 0) (h2:¬ (8:Int) < bsz p) (h3:(asI p).fdiv (2 ^ (min 16 32)) = 0):p6 l p = 0 ∧ a1g l p = k7 l p ∧ t8 l p = ik l p:=by
 rw [ah2] at h3
 have e:p6 l p = 0:=by unfold p6;rw [if_pos h,if_neg (by omega),if_pos h3]
 unfold a1g t8
 rw [e]
 exact ⟨rfl,rfl,rfl⟩
def bcP (n:Int) (l:List Fd) (f:Fd):Bool:=decide (f.rhs &&& ~~~f.lhs ≠ 0) && decide (clo l f.lhs ≠ aq n)
def bcS (n:Int) (l:List Fd):Bool:=decide (br n l = 0) && !l.any (bcP n l)
def gw (n:Int) (l:List Fd):List AS:=if gi n l 8 = 0 then (be (aq n)).filter fun s=>!ik l s else []
theorem b7u {n:Int} {l:List Fd} (h:gi n l 8 = 0):gw n l = (be (aq n)).filter fun s=>!ik l s:=if_pos h
theorem b5b {n:Int} {l:List Fd} (h:¬ gi n l 8 = 0):gw n l = []:=if_neg h
theorem a4o {n m:Int} {l:List Fd} (h:gi n l m = 0):br n l = 0 ∧ n ≤ m:=by
 unfold gi at h
 split at h
 · rename_i hv
   split at h
   · cases h
   exact ⟨hv,by omega⟩
 rename_i hv
 exact absurd h hv
theorem au8 (n:Int) (l:List Fd):(gw n l).length ≤ 4294967296:=by
 unfold gw
 have:=qc (aq n)
 split
 · exact Nat.le_trans (List.length_filter_le _ _) this
 simp
end
section
open Go.Proofs
theorem azx:goodFn Tryz.prog 157:=wgx Tryz.func157
theorem bby (l:List Fd) (p:AS):af Tryz.prog 157 [pP (fdl l),pA p] (aj [(a1g l p).pc,pB (t8 l p),pI (p6 l p)]):=by
 refine a8 (nt:=32) a7 Tryz.func157 rfl rfl l9 ?_;refine sx7 ?_;refine m9 0 ?_;refine w_7 ?_;refine qcx sd (wo 16 l) ?_;refine w_7 ?_;refine a6 _ rfl (fun r0=>?_) (fun r0=>?_)
 ·
  have h0:=r0
  have h0:=aa (au h0)
  try simp only [ty] at h0
  refine w_9 ?_;refine ⟨.inr rfl, ?_⟩
  have he:=b4w (p:=p) h0
  exact f9 rfl rfl (⟨ag1 he.2.1,ccb he.2.2.symm,cci he.1.symm,trivial⟩)
 have h0:=r0
 have h0:=ae (ar h0)
 try simp only [ty] at h0
 refine w_5 ?_;refine qcx vq (a51 p) ?_;refine w_2 ?_;refine a6 _ rfl (fun r1=>?_) (fun r1=>?_)
 ·
  have h1:=ae r1
  try simp only [ty] at h1
  refine w_8 ?_;refine ⟨.inr rfl, ?_⟩
  have he:=b7s h0 h1
  exact f9 rfl rfl (⟨ag1 he.2.1,ccb he.2.2.symm,cci he.1.symm,trivial⟩)
 have h1:=aa r1
 try simp only [ty] at h1
 refine w_8 ?_;refine a6 _ rfl (fun r2=>?_) (fun r2=>?_)
 ·
  have h2:=r2
  have h2:=aa (au h2)
  try simp only [ty] at h2
  refine w_8 ?_;refine ⟨.inr rfl, ?_⟩
  have he:=b7r h0 h1 h2
  exact f9 rfl rfl (⟨ag1 he.2.1,ccb he.2.2.symm,cci he.1.symm,trivial⟩)
 have h2:=r2
 have h2:=ae (ar h2)
 try simp only [ty] at h2
 refine w_5 ?_;refine qcx agp (amw l p) ?_;refine w_3 ?_;refine m9 1 ?_;refine fc ?_;refine ⟨.inr rfl, ?_⟩
 have he:=b8a h0 h1 h2
 exact f9 rfl rfl (⟨bam he.2.1.symm,ccb he.2.2.symm,cci he.1.symm,trivial⟩)
theorem b0g:goodFn Tryz.prog 146:=wgx Tryz.func146
theorem b36 (s:AS) (l:List Fd):af Tryz.prog 146 [pA s,pP (bx (fdl l))] (aj [pB (ik l s)]):=by
 refine a8 (nt:=13) a7 Tryz.func146 rfl rfl l9 ?_;refine w_8 ?_;refine qcx agp (amw l s) ?_;refine w_3 ?_;refine m9 0 ?_;refine w_8 ?_
 exact hx8 rfl rfl rfl (CoL.refl _)
theorem b7o:goodFn Tryz.prog 89:=wgx Tryz.func89
theorem b7w (n:Int) (l:List Fd):af Tryz.prog 89 [pI n,pP (fdl l)] (aj [pP (asl (gw n l)),pI (gi n l 8)]):=by
 refine a8 (nt:=18) a7 Tryz.func89 rfl rfl l9 ?_;refine sx7 ?_;refine m9 2 ?_;refine w_8 ?_;refine qcx apt (b7i n l) ?_;refine w_7 ?_;refine a6 _ rfl (fun r0=>?_) (fun r0=>?_)
 ·
  have h0:=r0
  have h0:=aa (au h0)
  try simp only [ty] at h0
  refine w_6 ?_
  exact hx8 rfl rfl rfl (⟨CoC.one (a0z (b5b h0)),CoC.refl _,trivial⟩)
 have h0:=r0
 have h0:=ae (ar h0)
 try simp only [ty] at h0
 refine w_2 ?_
 have hv:=gp (a4o h0).1
 refine cz 3 rfl rfl rfl ?_;refine w_2 ?_;refine qcx ag8 (alc n hv.1 hv.2.1) ?_;refine bf rfl rfl rfl rfl rfl rfl a5a (asq (aq n)) (da.refl _) trivial rfl rfl ?_;refine qy ?_
 refine bf rfl rfl rfl rfl rfl rfl aaw ((amb (be (aq n)) 146 1 (fun i=>[bx (fdl l)].getD i .any) (ik l) b0g (fun s=>b36 s l)).swap 900 901) (da.refl _) ⟨u9,trivial⟩ rfl rfl ?_;refine w_3 ?_
 exact hx8 rfl rfl rfl (⟨CoC.one (CoP.of_eq (by rw [b7u h0])),cci h0.symm,trivial⟩)
end
section
def nn (l:List Fd) (p z:AS):AS:=(p &&& clo l (z &&& p)) &&& ~~~z
def ek (l:List Fd) (z p:AS):Bool:=decide (nn l p z ≠ 0)
def aac (l:List Fd) (ps:List AS):Nat → AS → AS
 | 0,z=>z
 | n + 1,z=>match ps.find? (ek l z) with
  | none=>z
  | some p=>aac l ps n (z ||| nn l p z)
def a1c (l:List Fd) (ps:List AS) (z:AS):AS:=aac l ps 4294967297 z
def ux (l:List Fd) (ps:List AS) (f:Fd):Bool:=decide (sub f.rhs (a1c l ps f.lhs))
theorem b7d (l:List Fd) (p z:AS):bo .andNot .u32 (bo .and .u32 (asI p) (asI (clo l (z &&& p)))) (asI z) = asI (nn l p z):=by rw [gl,jn];rfl
theorem b01 {l:List Fd} {p z:AS}:(!decide (asI (nn l p z) = 0)) = ek l z p:=by
 unfold ek
 rw [show (0:Int) = asI 0 from rfl,a8b]
 simp
theorem b9r {z m:AS} (h:m &&& ~~~z = m) (h0:m ≠ 0):z.toNat < (z ||| m).toNat:=by
 have hs:sub z (z ||| m):=ct.2 fun i _ hi=>by rw [BitVec.getLsbD_or,hi];rfl
 have hle:=a86 hs
 rcases Nat.lt_or_eq_of_le hle with h1 | h1
 · exact h1
 exfalso
 apply h0
 have e:z = z ||| m:=BitVec.eq_of_toNat_eq h1
 apply BitVec.eq_of_getLsbD_eq
 intro i hi
 have e1:=congrArg (fun s:AS=>s.getLsbD i) e
 have e2:=congrArg (fun s:AS=>s.getLsbD i) h
 simp only [BitVec.getLsbD_or,BitVec.getLsbD_and,BitVec.getLsbD_not] at e1 e2
 have e3:(0:AS).getLsbD i = false:=by simp
 rw [e3]
 rw [decide_eq_true hi] at e2
 clear h h0 hs hle h1 e
 revert e1 e2
 cases z.getLsbD i <;> cases m.getLsbD i <;> simp
theorem aun {l:List Fd} {p z:AS} (h:ek l z p = true):z.toNat < (z ||| nn l p z).toNat:=by
 refine b9r ?_ (of_decide_eq_true h)
 unfold nn
 rw [BitVec.and_assoc,BitVec.and_self]
def a7j (l:List Fd) (ps:List AS) (z0:AS) (x:Nat × List Nat × AS):Prop:=aac l ps x.1 x.2.2 = a1c l ps z0 ∧ 4294967296 < x.1 + x.2.2.toNat ∧ x.2.1.length + x.1 = 4294967297
theorem ahj (l:List Fd) (ps:List AS) (z0:AS):a7j l ps z0 (4294967297,[],z0):=by
 refine ⟨rfl, ?_, ?_⟩
 · dsimp only;omega
 dsimp only;rw [List.length_nil]
theorem a4h {l:List Fd} {ps:List AS} {z0:AS} {x:Nat × List Nat × AS} (h:a7j l ps z0 x):0 < x.1:=by
 have:=h.2.1
 have:=x.2.2.isLt
 omega
theorem aks {l:List Fd} {ps:List AS} {z0:AS} {x:Nat × List Nat × AS} (h:a7j l ps z0 x) (hi:idx (ek l x.2.2) ps < 0):x.2.2 = a1c l ps z0:=by
 have hp:=a4h h
 rw [← h.1]
 obtain ⟨n,hn⟩:∃ n,x.1 = n + 1:=⟨x.1 - 1,by omega⟩
 rw [hn]
 unfold aac
 have:ps.find? (ek l x.2.2) = none:=by
  have hm:idx (ek l x.2.2) ps = -1:=by
   by_cases h:idx (ek l x.2.2) ps = -1
   · exact h
   obtain ⟨i,h1,_⟩:=ww h
   omega
  exact ag6 (a7h hm)
 rw [this]
theorem ah3 {l:List Fd} {ps:List AS} {z0:AS} {x:Nat × List Nat × AS} {i:Nat} (h:a7j l ps z0 x) (hi:i < ps.length) (hv:ek l x.2.2 (ps.getD i default) = true) (hj:∀ j,j < i → ek l x.2.2 (ps.getD j default) = false) :
 a7j l ps z0 (x.1 - 1,x.2.1 ++ [i],x.2.2 ||| nn l (ps.getD i default) x.2.2):=by
 have hp:=a4h h
 have hlt:=aun hv
 obtain ⟨h1,h2,h3⟩:=h
 obtain ⟨n,hn⟩:∃ n,x.1 = n + 1:=⟨x.1 - 1,by omega⟩
 refine ⟨?_,by dsimp only;omega, ?_⟩
 · rw [← h1,hn]
   have:ps.find? (ek l x.2.2) = some (ps.getD i default):=a9c hi hj hv
   show aac l ps n _ = _
   conv=>rhs;unfold aac
   rw [this]
 dsimp only
 rw [List.length_append,List.length_singleton]
 omega
def b7 (l:List Fd) (ps:List AS) (i:Nat):List Nat:=(List.range i).filter fun j=>!ux l ps (l.getD j default)
def nr (l:List Fd) (ps:List AS):Bool:=(List.range l.length).all fun j=>ux l ps (l.getD j default)
theorem pn {l:List Fd} {ps:List AS} {i:Nat} (h:ux l ps (l.getD i default) = false):b7 l ps (i + 1) = b7 l ps i ++ [i]:=by
 unfold b7
 rw [List.range_succ,List.filter_append]
 simp only [List.filter_cons,h,Bool.not_false,Bool.not_true,if_true,List.filter_nil,List.append_nil,Bool.false_eq_true,if_false]
theorem qg {l:List Fd} {ps:List AS} {i:Nat} (h:ux l ps (l.getD i default) = true):b7 l ps (i + 1) = b7 l ps i:=by
 unfold b7
 rw [List.range_succ,List.filter_append]
 simp only [List.filter_cons,h,Bool.not_false,Bool.not_true,if_true,List.filter_nil,List.append_nil,Bool.false_eq_true,if_false]
theorem acq (l:List Fd) (ps:List AS) (i:Nat):(b7 l ps i).length ≤ i:=Nat.le_trans (List.length_filter_le _ _) (by rw [List.length_range];exact Nat.le_refl _)
theorem atp {l:List Fd} {ps:List AS}:decide (((b7 l ps l.length).length:Int) = 0) = nr l ps:=by
 unfold b7 nr
 rw [Bool.eq_iff_iff,decide_eq_true_iff,List.all_eq_true]
 constructor
 · intro h x hx
   have h0:((List.range l.length).filter fun j=>!ux l ps (l.getD j default)) = []:=List.eq_nil_of_length_eq_zero (by omega)
   rw [List.filter_eq_nil_iff] at h0
   have:=h0 x hx
   simpa using this
 intro h
 rw [List.filter_eq_nil_iff.2 fun x hx=>(by rw [h x hx];decide)]
 rfl
theorem b85 {l:List Fd} {ps:List AS} {f:Fd}:decide (bo .andNot .u32 (asI f.rhs) (asI (a1c l ps f.lhs)) = 0) = ux l ps f:=decide_eq_decide.2 m7
theorem b2t (l:List Fd):HV.clo 247 2 (fun i=>[HV.p (bx (fdl l)), .ptr 1 0].getD i (.p .any)) = HV.clo 247 2 (fun i=>([HV.p (bx (fdl l)), .ptr 1000 0].getD i (.p .any)).ren (swp 1000 1)) :=
 congrArg (HV.clo 247 2) (funext fun i=>match i with | 0=>rfl | 1=>rfl | n + 2=>rfl)
end
section
open Go.Proofs
theorem ak2:goodFn Tryz.prog 248:=wgx Tryz.func248
theorem axh (l:List Fd) (p z:AS):af Tryz.prog 248 [pP (fdl l),pA p,pA z] (aj [pA (nn l p z)]):=by
 refine a8 (nt:=16) a7 Tryz.func248 rfl rfl l9 ?_;refine f8 ?_;refine rc rfl rfl rfl rfl rfl rfl qf (uf l (z &&& p)) (⟨CoC.refl _,cci (gl _ _),trivial⟩) rfl rfl ?_;refine w_5 ?_
 exact hx8 rfl rfl rfl (⟨cci (b7d l p z),trivial⟩)
theorem ayq:goodFn Tryz.prog 247:=wgx Tryz.func247
theorem b9q (x:AS) (l:List Fd) (z:AS):dw Tryz.prog 247 [.one (.p (asC x)), .one (.p (bx (fdl l))), .one (.ptr 1000 0)] [(1000, .box [.p (asC z)])] (.v (.one (.p (.raw (.bool (ek l z x)))))) [(1000, .box [.p (asC z)])] [1000]:=by
 refine gd (nt:=10) a7 Tryz.func247 rfl rfl l9 rfl ?_;refine w_9 ?_;refine qcx ak2 (axh l x z) ?_;refine w_4 ?_;refine ⟨.inr rfl, ?_⟩
 exact ⟨_,_,rfl,(by (repeat' apply And.intro) <;> first | trivial | exact Nat.le_of_ble_eq_true rfl),cob b01,⟨u9,trivial⟩⟩
theorem bbe (ps:List AS) (l:List Fd) (z:AS):dw Tryz.prog 167 [.one (.p (asl ps)), .one (.clo 247 2 fun i=>[HV.p (bx (fdl l)), .ptr 1000 0].getD i (.p .any))] [(1000, .box [.p (asC z)])] (.v (.one (.p (.raw (.int .i64 (idx (ek l z) ps)))))) [(1000, .box [.p (asC z)])] [1000]:=by
 refine gd (nt:=19) a7 Tryz.func167 rfl rfl l9 rfl ?_;refine d8 ?_
 refine dg 0 rfl fun hn=>?_
 refine w_3 ?_;refine d4 (ι:=Unit) ⟨[],[(1000,some _)]⟩ ⟨trivial,⟨u9,trivial⟩⟩ (fun _i=>⟨[],[]⟩) (fun _i=>idx (ek l z) ps = -1) ?_ ?_
 ·
  refine w_7 ?_
  refine ah (ι:=Nat) ⟨[(0,some _),(1,some _),(7,some _)],[(1000,some _)]⟩ ⟨⟨c9,c9,c9,trivial⟩,⟨u9,trivial⟩⟩ (fun i=>⟨[(8,some (vI i))],[]⟩) (fun i=>i ≤ ps.length ∧ (∀ j,j < i → ek l z (ps.getD j default) = false)) (fun i=>ps.length - i) (0) (⟨Nat.zero_le _,cr⟩) ⟨⟨zy,trivial⟩,trivial⟩ ?_
  rintro i ⟨hi,hI⟩
  refine w_5 ?_;refine a6 _ rfl (fun r0=>?_) (fun r0=>?_)
  ·
   have h0:=ae r0
   try simp only [ty] at h0
   refine mr ?_;refine bf rfl rfl rfl rfl rfl rfl ayq (b9q (ps.getD i default) l z) (da.refl _) ⟨u9,trivial⟩ rfl rfl ?_;refine ax ?_;refine a6 _ rfl (fun r1=>?_) (fun r1=>?_)
   ·
    have h1:=r1
    refine w_6 ?_;refine ⟨.inr rfl, ?_⟩
    exact ⟨_,_,rfl,(by (repeat' apply And.intro) <;> first | trivial | exact Nat.le_of_ble_eq_true rfl),coi (qt (i:=i) (by omega) hI h1).symm,⟨u9,trivial⟩⟩
   have h1:=r1
   refine w_5 ?_;refine ⟨i + 1, ?_, ?_, ?_⟩
   · exact ⟨by show i + 1 ≤ _;omega,bz hI (h1)⟩
   · first | omega | (dsimp only;omega)
   exact ⟨⟨zy,c9,c9,c9,trivial⟩,⟨u9,trivial⟩⟩
  have h0:=aa r0
  try simp only [ty] at h0
  refine fe ?_;refine ⟨(), ?_, ?_⟩
  · exact re fun j hj=>hI j (by omega)
  exact ⟨trivial,⟨u9,trivial⟩⟩
 rintro _ hj
 refine w_5 ?_;refine ⟨.inr rfl, ?_⟩
 exact ⟨_,_,rfl,(by (repeat' apply And.intro) <;> first | trivial | exact Nat.le_of_ble_eq_true rfl),coi hj.symm,⟨u9,trivial⟩⟩
theorem b2j:goodFn Tryz.prog 217:=wgx Tryz.func217
theorem b47 (l:List Fd) (ps:List AS) (z0:AS):af Tryz.prog 217 [pP (fdl l),pP (asl ps),pA z0] (aj [pA (a1c l ps z0),pP .any]):=by
 refine a8 (nt:=30) a7 Tryz.func217 rfl rfl l9 ?_;refine sx7 ?_;refine m9 0 ?_;refine m9 1 ?_;refine w_8 ?_;refine cz 3 rfl rfl rfl ?_
 refine d6 8 900 true 1 3 (lf iC []) (by decide) rfl (CoP.sl rfl (.inr rfl) (fun h=>h) (fun i j hi _=>absurd hi (Nat.not_lt_zero i))) (.inr rfl) rfl ?_
 refine ah (ι:=Nat × List Nat × AS) ⟨[(1,some _),(3,some _),(5,some _)],[]⟩ ⟨⟨c9,c9,c9,trivial⟩,trivial⟩ (fun x=>⟨[(8,some (.v (.one (.ref 900 x.2.1.length))))],[(900,some (.arr true 1 3 x.2.1.length (lf iC x.2.1))),(1,some (.box [.p (asC x.2.2)]))]⟩) (fun x=>a7j l ps z0 x) (fun x=>x.1) ((4294967297,[],z0)) (ahj l ps z0) ⟨⟨zy,trivial⟩,⟨u9,u9,trivial⟩⟩ ?_
 rintro x hx
 have hlen:=hx.2.2
 have hpos:=a4h hx
 refine w_5 ?_;refine bf rfl rfl rfl rfl rfl rfl aa2 ((bbe ps l x.2.2).swap 1000 1) (⟨CoP.refl _,b2t l,trivial⟩) ⟨u9,trivial⟩ rfl rfl ?_;refine w_8 ?_;refine a6 _ rfl (fun r0=>?_) (fun r0=>?_)
 ·
  have h0:=ae r0
  try simp only [ty] at h0
  refine d8 ?_;refine bi 8 rfl rfl rfl ?_;refine w_6 ?_
  exact hx8 rfl rfl rfl (⟨cci (congrArg asI (aks hx (by omega))),CoC.one (CoP.any_of),trivial⟩)
 have h0:=aa r0
 try simp only [ty] at h0
 obtain ⟨i0,hi0,hi1,hi2,hi3⟩:=ww (p:=ek l x.2.2) (l:=ps) (by omega)
 refine w_2 ?_;refine bg (E:=bj) a7 aw [0,1,2,3,4,5,6,7,8,9] ?_;refine w_7 ?_
 refine rc rfl rfl rfl rfl rfl rfl ak2 (axh l (ps.getD i0 default) x.2.2) (⟨CoC.refl _,CoC.one (CoP.of_eq (by rw [hi0];rfl)),CoC.refl _,trivial⟩) rfl rfl ?_;refine w_3 ?_;refine ⟨by kernel_rfl, ?_⟩;refine w_3 ?_
 refine m9 2 ?_;refine ra 3 true rfl rfl rfl rfl rfl rfl ?_;refine w_2 ?_;refine ⟨(x.1 - 1,x.2.1 ++ [i0],x.2.2 ||| nn l (ps.getD i0 default) x.2.2), ?_, ?_, ?_⟩
 · exact ah3 hx hi1 hi2 hi3
 · dsimp only
   omega
 exact ⟨⟨⟨_,rfl,(ca rfl)⟩,c9,c9,c9,trivial⟩,⟨⟨_,rfl,(c7 rfl (CoP.of_eq (congrArg (fun z=>PV.raw (.int .i64 z)) hi0)))⟩,⟨_,rfl,⟨CoP.of_eq (congrArg (fun z=>PV.raw (.int .u32 z)) (bOr _ _)),trivial⟩⟩,trivial⟩⟩
theorem b0q:goodFn Tryz.prog 171:=wgx Tryz.func171
theorem bao (l:List Fd) (ps:List AS) (z:AS):af Tryz.prog 171 [pP (fdl l),pP (asl ps),pA z] (aj [pA (a1c l ps z)]):=by
 refine a8 (nt:=17) a7 Tryz.func171 rfl rfl l9 ?_;refine w_9 ?_;refine qcx b2j (b47 l ps z) ?_;refine f8 ?_
 exact hx8 rfl rfl rfl (CoL.refl _)
theorem azz:goodFn Tryz.prog 122:=wgx Tryz.func122
theorem b8x (l:List Fd) (ps:List AS) (x:Fd):af Tryz.prog 122 [pP (fdl l),pP (asl ps),x.pc] (aj [pB (ux l ps x)]):=by
 refine a8 (nt:=16) a7 Tryz.func122 rfl rfl l9 ?_;refine sx7 ?_;refine m9 0 ?_;refine w_3 ?_;refine bg (E:=bj) a7 aw [0,1,2,3,4,5,6,7,8,9] ?_;refine w_6 ?_
 refine qcx b0q (bao l ps x.lhs) ?_;refine w_4 ?_;refine ⟨by kernel_rfl, ?_⟩
 exact hx8 rfl rfl rfl (⟨ccb b85,trivial⟩)
theorem ar3:goodFn Tryz.prog 59:=wgx Tryz.func59
theorem axo (l:List Fd) (ps:List AS) (hl:l.length ≤ 16777216):af Tryz.prog 59 [pP (fdl l),pP (asl ps)] (aj [pP (il (b7 l ps l.length))]):=by
 refine a8 (nt:=26) a7 Tryz.func59 rfl rfl l9 ?_;refine dl ?_
 refine dg 0 rfl fun hn=>?_
 refine w_6 ?_;refine d6 5 900 true 1 3 (lf iC []) (by decide) rfl (CoP.sl rfl (.inr rfl) (fun h=>h) (fun i j hi _=>absurd hi (Nat.not_lt_zero i))) (.inr rfl) rfl ?_
 refine ah (ι:=Nat) ⟨[(0,some _),(1,some _),(8,some _),(9,some _)],[]⟩ ⟨⟨c9,c9,c9,c9,trivial⟩,trivial⟩ (fun i=>⟨[(5,some (.v (.one (.ref 900 (b7 l ps i).length)))),(10,some (vI i))],[(900,some (.arr true 1 3 (b7 l ps i).length (lf iC (b7 l ps i))))]⟩) (fun i=>i ≤ l.length) (fun i=>l.length - i) (0) (Nat.zero_le _) ⟨⟨zy,zy,trivial⟩,⟨u9,trivial⟩⟩ ?_
 rintro i hi
 have hlen:=acq l ps i
 refine w_5 ?_;refine a6 _ rfl (fun r0=>?_) (fun r0=>?_)
 ·
  have h0:=ae r0
  try simp only [ty] at h0
  refine w_8 ?_;refine m9 0 ?_;refine w_8 ?_;refine qcx azz (b8x l ps (l.getD i default)) ?_;refine w_2 ?_;refine a6 _ rfl (fun r1=>?_) (fun r1=>?_)
  ·
   have h1:=r1
   have h1:=au h1
   have hq:=au r1
   refine w_3 ?_;refine m9 1 ?_;refine ra 2 true rfl rfl rfl rfl rfl rfl ?_;refine w_6 ?_
   first | (refine ⟨i + 1, ?_, ?_, ?_⟩
            · show i + 1 ≤ _;omega
            · first | omega | (dsimp only;omega)
            exact ⟨⟨⟨_,rfl,(ca (pn (by assumption)))⟩,zy,c9,c9,c9,c9,trivial⟩,⟨⟨_,rfl,(c7 (pn (by assumption)) (CoP.refl _))⟩,trivial⟩⟩)
         | (refine ⟨i + 1, ?_, ?_, ?_⟩
            · show i + 1 ≤ _;omega
            · first | omega | (dsimp only;omega)
            exact ⟨⟨⟨_,rfl,(cg (qg (by assumption)))⟩,zy,c9,c9,c9,c9,trivial⟩,⟨⟨_,rfl,(cb (qg (by assumption)))⟩,trivial⟩⟩)
  have h1:=r1
  have h1:=ar h1
  have hq:=ar r1
  refine w_5 ?_
  first | (refine ⟨i + 1, ?_, ?_, ?_⟩
           · show i + 1 ≤ _;omega
           · first | omega | (dsimp only;omega)
           exact ⟨⟨⟨_,rfl,(ca (pn (by assumption)))⟩,zy,c9,c9,c9,c9,trivial⟩,⟨⟨_,rfl,(c7 (pn (by assumption)) (CoP.refl _))⟩,trivial⟩⟩)
        | (refine ⟨i + 1, ?_, ?_, ?_⟩
           · show i + 1 ≤ _;omega
           · first | omega | (dsimp only;omega)
           exact ⟨⟨⟨_,rfl,(cg (qg (by assumption)))⟩,zy,c9,c9,c9,c9,trivial⟩,⟨⟨_,rfl,(cb (qg (by assumption)))⟩,trivial⟩⟩)
 have h0:=aa r0
 try simp only [ty] at h0
 obtain rfl:i = l.length:=by omega
 refine w_6 ?_;refine bi 4 rfl rfl rfl ?_
 exact hx8 rfl rfl rfl (⟨CoC.one (CoP.refl _),trivial⟩)
theorem af0:goodFn Tryz.prog 90:=wgx Tryz.func90
theorem auj (l:List Fd) (ps:List AS) (hl:l.length ≤ 16777216):af Tryz.prog 90 [pP (fdl l),pP (asl ps)] (aj [pB (nr l ps)]):=by
 refine a8 (nt:=10) a7 Tryz.func90 rfl rfl l9 ?_;refine w_8 ?_;refine qcx ar3 (axo l ps hl) ?_;refine w_4 ?_
 exact hx8 rfl rfl rfl (⟨ccb atp,trivial⟩)
end
end Go.Hx

/- A part of the proof: Sp6 W14. -/
import Derived.Test.YtdcdbghdgjlhhaaGreatOx20
set_option linter.all false
set_option maxRecDepth 100000
set_option maxHeartbeats 1000000
section
set_option maxHeartbeats 400000
namespace Go.Hx
theorem aed {s:Stt} {x:Opn} (hs:a0b s) (h:eq s x = 0) (h4:(gr s x).kind = 4):0 ≤ (gr s x).attr ∧ (gr s x).attr < ((gr s x).row.vals.length:Int):=by
 by_cases k0:x.kind.toNat % 9 = 0
 · rw [(a90 k0).1] at h4;exact absurd h4 (by simp)
 by_cases hi:bv (bm s) (bf x) < 0
 · rw [(a1j k0 hi).2] at h;omega
 by_cases k1:x.kind.toNat % 9 = 1
 · rw [(a8k k1 hi).1] at h4;exact absurd h4 (by simp)
 by_cases hr:0 ≤ aj (aq (bm s) (bf x)).rows x.id
 case neg=>rw [(a4f k0 k1 hi hr).2] at h;omega
 by_cases k2:x.kind.toNat % 9 = 2
 · rw [(a9a k2 hi hr).1] at h4;exact absurd h4 (by simp)
 obtain ⟨e1,e2⟩:=a8q (s:=s) (x:=x) k0 k1 k2 hi hr
 rw [e2] at h
 rw [e1]
 obtain ⟨_,_,ha,hb,_⟩:=z8 h
 refine ⟨ha, ?_⟩
 show _ < (((aq (bm s) (bf x)).rows.getD _ default).vals.length:Int)
 rw [(hs.V.at hi).width (il hr)]
 exact hb
def m8 (c:Chg):Bool:=decide (c.kind = 4) && decide (c.row.vals.getD c.attr.toNat default = c.value)
def doE (s:Stt) (x:Opn):Int :=
 let k:=x.kind.toNat % 9
 if k = 4 then (if s.opn = true then 16 else 0)
 else if k = 5 ∨ k = 6 then (if s.opn = true then 0 else 16)
 else if k = 7 then (if s.opn = true ∨ s.done.length = 0 then 16 else 0)
 else if k = 8 then (if s.opn = true ∨ s.undone.length = 0 then 16 else 0)
 else eq s x
def doS (s:Stt) (x:Opn):Stt :=
 let k:=x.kind.toNat % 9
 if doE s x ≠ 0 then s
 else if k = 4 then { s with opn:=true }
 else if k = 5 then o4 { s with opn:=false,now:=[] } s.now
 else if k = 6 then { s with opn:=false,now:=[] }
 else if k = 7 then ⟨s.done.take (s.done.length - 1),s.undone ++ [s.done.getD (s.done.length - 1) default],false,[]⟩
 else if k = 8 then ⟨s.done ++ [s.undone.getD (s.undone.length - 1) default],s.undone.take (s.undone.length - 1),false,[]⟩
 else if m8 (gr s x) = true then s
 else tp s (gr s x)
theorem acw {s:Stt} {x:Opn} (hk:x.kind.toNat % 9 = 4) (h:s.opn = true):doS s x = s ∧ doE s x = 16:=by
 have he:doE s x = 16:=by unfold doE;simp only [hk];simp [h]
 exact ⟨by unfold doS;simp only [hk,he];simp,he⟩
theorem do4 {s:Stt} {x:Opn} (hk:x.kind.toNat % 9 = 4) (h:s.opn = false):doS s x = { s with opn:=true } ∧ doE s x = 0:=by
 have he:doE s x = 0:=by unfold doE;simp only [hk];simp [h]
 exact ⟨by unfold doS;simp only [hk,he];simp,he⟩
theorem ad4 {s:Stt} {x:Opn} (hk:x.kind.toNat % 9 = 5) (h:s.opn = false):doS s x = s ∧ doE s x = 16:=by
 have he:doE s x = 16:=by unfold doE;simp only [hk];simp [h]
 exact ⟨by unfold doS;simp only [hk,he];simp,he⟩
theorem do5 {s:Stt} {x:Opn} (hk:x.kind.toNat % 9 = 5) (h:s.opn = true):doS s x = o4 { s with opn:=false,now:=[] } s.now ∧ doE s x = 0:=by
 have he:doE s x = 0:=by unfold doE;simp only [hk];simp [h]
 exact ⟨by unfold doS;simp only [hk,he];simp,he⟩
theorem ac2 {s:Stt} {x:Opn} (hk:x.kind.toNat % 9 = 6) (h:s.opn = false):doS s x = s ∧ doE s x = 16:=by
 have he:doE s x = 16:=by unfold doE;simp only [hk];simp [h]
 exact ⟨by unfold doS;simp only [hk,he];simp,he⟩
theorem do6 {s:Stt} {x:Opn} (hk:x.kind.toNat % 9 = 6) (h:s.opn = true):doS s x = { s with opn:=false,now:=[] } ∧ doE s x = 0:=by
 have he:doE s x = 0:=by unfold doE;simp only [hk];simp [h]
 exact ⟨by unfold doS;simp only [hk,he];simp,he⟩
theorem a8f {s:Stt} {x:Opn} (hk:x.kind.toNat % 9 = 7) (h:s.opn = true ∨ s.done.length = 0):doS s x = s ∧ doE s x = 16:=by
 have he:doE s x = 16:=by unfold doE;simp only [hk];exact if_pos h
 exact ⟨by unfold doS;simp only [hk,he];simp,he⟩
theorem do7 {s:Stt} {x:Opn} (hk:x.kind.toNat % 9 = 7) (h:¬ (s.opn = true ∨ s.done.length = 0)):doS s x = ⟨s.done.take (s.done.length - 1),s.undone ++ [s.done.getD (s.done.length - 1) default],false,[]⟩ ∧ doE s x = 0:=by
 have he:doE s x = 0:=by unfold doE;simp only [hk];exact if_neg h
 exact ⟨by unfold doS;simp only [hk,he];simp,he⟩
theorem a8i {s:Stt} {x:Opn} (hk:x.kind.toNat % 9 = 8) (h:s.opn = true ∨ s.undone.length = 0):doS s x = s ∧ doE s x = 16:=by
 have he:doE s x = 16:=by unfold doE;simp only [hk];exact if_pos h
 exact ⟨by unfold doS;simp only [hk,he];simp,he⟩
theorem do8 {s:Stt} {x:Opn} (hk:x.kind.toNat % 9 = 8) (h:¬ (s.opn = true ∨ s.undone.length = 0)):doS s x = ⟨s.done ++ [s.undone.getD (s.undone.length - 1) default],s.undone.take (s.undone.length - 1),false,[]⟩ ∧ doE s x = 0:=by
 have he:doE s x = 0:=by unfold doE;simp only [hk];exact if_neg h
 exact ⟨by unfold doS;simp only [hk,he];simp,he⟩
theorem a0k {s:Stt} {x:Opn} (h4:¬ x.kind.toNat % 9 = 4) (h5:¬ x.kind.toNat % 9 = 5) (h6:¬ x.kind.toNat % 9 = 6) (h7:¬ x.kind.toNat % 9 = 7) (h8:¬ x.kind.toNat % 9 = 8):doE s x = eq s x:=by simp [doE,h4,h5,h6,h7,h8]
theorem doc {s:Stt} {x:Opn} (h4:¬ x.kind.toNat % 9 = 4) (h5:¬ x.kind.toNat % 9 = 5) (h6:¬ x.kind.toNat % 9 = 6) (h7:¬ x.kind.toNat % 9 = 7) (h8:¬ x.kind.toNat % 9 = 8) (he:¬ eq s x = 0):doS s x = s ∧ doE s x = eq s x:=⟨by simp [doS,a0k h4 h5 h6 h7 h8,he],a0k h4 h5 h6 h7 h8⟩
theorem acr {s:Stt} {x:Opn} (h4:¬ x.kind.toNat % 9 = 4) (h5:¬ x.kind.toNat % 9 = 5) (h6:¬ x.kind.toNat % 9 = 6) (h7:¬ x.kind.toNat % 9 = 7) (h8:¬ x.kind.toNat % 9 = 8) (he:eq s x = 0) (hs:m8 (gr s x) = true):doS s x = s ∧ doE s x = 0:=⟨by simp [doS,a0k h4 h5 h6 h7 h8,h4,h5,h6,h7,h8,he,hs],by rw [a0k h4 h5 h6 h7 h8,he]⟩
theorem adm {s:Stt} {x:Opn} (h4:¬ x.kind.toNat % 9 = 4) (h5:¬ x.kind.toNat % 9 = 5) (h6:¬ x.kind.toNat % 9 = 6) (h7:¬ x.kind.toNat % 9 = 7) (h8:¬ x.kind.toNat % 9 = 8) (he:eq s x = 0) (hs:m8 (gr s x) = false):doS s x = tp s (gr s x) ∧ doE s x = 0:=⟨by simp [doS,a0k h4 h5 h6 h7 h8,h4,h5,h6,h7,h8,he,hs],by rw [a0k h4 h5 h6 h7 h8,he]⟩
theorem wc {α:Type} [Inhabited α] {s n k':Nat} {k:Int} {cl:Bool} {c:α → Nat → PV} {l:List α} (h:k.toNat = k') (hk:k' ≤ l.length) :
 CoP (.sl (oi (ik n (some k)) none) s cl (tc (lf c l) none)) (psl s c (l.take k')):=by
 subst h;exact a2w hk
end Go.Hx
end
namespace Go.Hx
section
open Go.Proofs
theorem abk:am Tryz.prog 11:=wgx Tryz.func11
theorem c11 (s:Stt) (x:Opn) (hs:a0b s) (hx:gw x):ay Tryz.prog 11 [s.pc,x.pc] (bu [(doS s x).pc,pI (doE s x)]):=by
 refine av (nt:=131) a8 Tryz.func11 rfl rfl l9 ?_
 have hV:=hs.V
 have hlt:=hs.lt
 have hlu:=hs.lu
 have hln:=hs.ln
 refine sx7 ?_;refine m9 0 ?_;refine m9 1 ?_;refine m9 2 ?_;refine w_3 ?_;refine ap (E:=au) a8 ag [0,1,2,3,4,5,6,7] ?_;refine w_9 ?_;refine ⟨by kernel_rfl, ?_⟩;refine sv ?_
 refine a7 _ rfl (fun r0=>?_) (fun r0=>?_)
 ·
  have h0:=ae r0
  try simp only [ty] at h0
  refine w_6 ?_;refine a7 _ rfl (fun r1=>?_) (fun r1=>?_)
  ·
   have h1:=r1
   refine w_7 ?_;refine ⟨.inr rfl, ?_⟩
   have hd:=acw (s:=s) (x:=x) (by omega) (by assumption)
   rw [hd.1,hd.2]
   exact f9 rfl rfl (⟨CoC.refl _,CoC.refl _,trivial⟩)
  have h1:=r1
  refine gk ?_;refine ⟨.inr rfl, ?_⟩
  first | have hd:=do4 (s:=s) (x:=x) (by omega) (by assumption) | have hd:=do6 (s:=s) (x:=x) (by omega) (by simp_all)
  rw [hd.1,hd.2]
  first | exact ⟨_,_,_,_,rfl,(by (repeat' apply And.intro) <;> first | trivial | exact Nat.le_of_ble_eq_true rfl | rfl),rfl,(by (repeat' apply And.intro) <;> first | trivial | exact Nat.le_of_ble_eq_true rfl | rfl),⟨CoC.refl _,CoC.refl _,trivial⟩⟩ | exact f9 rfl rfl (⟨CoC.agg ⟨CoP.refl _,CoP.refl _,CoP.refl _,ar,trivial⟩,CoC.refl _,trivial⟩)
 have h0:=aa r0
 try simp only [ty] at h0
 refine w_5 ?_;refine a7 _ rfl (fun r2=>?_) (fun r2=>?_)
 ·
  have h2:=ae r2
  try simp only [ty] at h2
  refine w_7 ?_;refine a7 _ rfl (fun r3=>?_) (fun r3=>?_)
  ·
   have h3:=r3
   have h3:=b7 h3
   refine w_7 ?_;refine ⟨.inr rfl, ?_⟩
   have hd:=ad4 (s:=s) (x:=x) (by omega) (by simp_all)
   rw [hd.1,hd.2]
   exact f9 rfl rfl (⟨CoC.refl _,CoC.refl _,trivial⟩)
  have h3:=r3
  have h3:=b8 h3
  refine wt ?_;refine rc rfl rfl rfl rfl rfl rfl ab7 (c40 { s with opn:=false,now:=[] } s.now hlt) (⟨CoC.agg ⟨CoP.refl _,CoP.refl _,CoP.refl _,ar,trivial⟩,CoC.refl _,trivial⟩) rfl rfl ?_;refine w_4 ?_
  refine ⟨.inr rfl, ?_⟩
  have hd:=do5 (s:=s) (x:=x) (by omega) (by simp_all)
  rw [hd.1,hd.2]
  exact f9 rfl rfl (⟨CoC.refl _,CoC.refl _,trivial⟩)
 have h2:=aa r2
 try simp only [ty] at h2
 refine w_5 ?_;refine a7 _ rfl (fun r4=>?_) (fun r4=>?_)
 ·
  have h4:=ae r4
  try simp only [ty] at h4
  refine w_7 ?_;refine a7 _ rfl (fun r5=>?_) (fun r5=>?_)
  ·
   have h5:=r5
   have h5:=b7 h5
   refine w_7 ?_;refine ⟨.inr rfl, ?_⟩
   have hd:=ac2 (s:=s) (x:=x) (by omega) (by simp_all)
   rw [hd.1,hd.2]
   exact f9 rfl rfl (⟨CoC.refl _,CoC.refl _,trivial⟩)
  have h5:=r5
  have h5:=b8 h5
  refine qb ?_;refine ⟨.inr rfl, ?_⟩
  first | have hd:=do4 (s:=s) (x:=x) (by omega) (by assumption) | have hd:=do6 (s:=s) (x:=x) (by omega) (by simp_all)
  rw [hd.1,hd.2]
  first | exact ⟨_,_,_,_,rfl,(by (repeat' apply And.intro) <;> first | trivial | exact Nat.le_of_ble_eq_true rfl | rfl),rfl,(by (repeat' apply And.intro) <;> first | trivial | exact Nat.le_of_ble_eq_true rfl | rfl),⟨CoC.refl _,CoC.refl _,trivial⟩⟩ | exact f9 rfl rfl (⟨CoC.agg ⟨CoP.refl _,CoP.refl _,CoP.refl _,ar,trivial⟩,CoC.refl _,trivial⟩)
 have h4:=aa r4
 try simp only [ty] at h4
 refine w_5 ?_;refine a7 _ rfl (fun r6=>?_) (fun r6=>?_)
 ·
  have h6:=ae r6
  try simp only [ty] at h6
  refine w_6 ?_;refine bo rfl rfl (fun r7=>?_) (fun r7=>?_)
  ·
   have h7:=r7
   (iterate 2 refine k9 (gtf r7) ?_);refine rq rfl rfl rfl rfl rfl ?_ (hp:=r7);refine ca ?_;refine a7 _ rfl (fun _=>?_) (fun e=>by cases e);refine w_7 ?_;refine ⟨.inr rfl, ?_⟩
   have hd:=a8f (s:=s) (x:=x) (by omega) (by first | exact .inl (by assumption) | exact .inr (by omega))
   rw [hd.1,hd.2]
   exact f9 rfl rfl (⟨CoC.refl _,CoC.refl _,trivial⟩)
  have h7:=r7
  (iterate 2 refine qy ?_ (hg:=(gff r7)));refine w_2 ?_;refine a7 _ rfl (fun r8=>?_) (fun r8=>?_)
  ·
   have h8:=r8
   have h8:=bw r7 h8
   have h8:=ae h8
   try simp only [ty] at h8
   refine w_7 ?_;refine ⟨.inr rfl, ?_⟩
   have hd:=a8f (s:=s) (x:=x) (by omega) (by first | exact .inl (by assumption) | exact .inr (by omega))
   rw [hd.1,hd.2]
   exact f9 rfl rfl (⟨CoC.refl _,CoC.refl _,trivial⟩)
  have h8:=r8
  have h8:=bw r7 h8
  have h8:=aa h8
  try simp only [ty] at h8
  refine w_2 ?_;refine ap (E:=au) a8 ag [0,1,2,3,4,5,6,7,8,9,10,11,12,13,14,15,16,17,18,19] ?_;refine w_5 ?_;refine m9 3 ?_;refine w_2 ?_;refine ra 4 true rfl rfl rfl rfl rfl rfl ?_
  refine w_6 ?_;refine m9 5 ?_;refine ra 6 true rfl rfl rfl rfl rfl rfl ?_;refine w_4 ?_;refine ⟨by kernel_rfl, ?_⟩;refine ej ?_;refine ⟨.inr rfl, ?_⟩
  have hd:=do7 (s:=s) (x:=x) (by omega) (by rintro (h | h) <;> first | (simp_all;done) | omega)
  rw [hd.1,hd.2]
  exact f9 rfl rfl (⟨CoC.agg ⟨(wc (by omega) (by omega)),(qz (Nat.zero_add _) rfl (fun i j hi hj=>CoP.of_eq (by simp [eo])) (jq (lt1 (CoP.of_eq (by show txC (s.done.getD ((s.done.length:Int) - 1).toNat default) 0 = txC (s.done.getD (s.done.length - 1) default) 0;rw [show ((s.done.length:Int) - 1).toNat = s.done.length - 1 from by omega]))))),CoP.refl _,ar,trivial⟩,CoC.refl _,trivial⟩)
 have h6:=aa r6
 try simp only [ty] at h6
 refine w_5 ?_;refine a7 _ rfl (fun r9=>?_) (fun r9=>?_)
 ·
  have h9:=ae r9
  try simp only [ty] at h9
  refine w_6 ?_;refine bo rfl rfl (fun r10=>?_) (fun r10=>?_)
  ·
   have h10:=r10
   (iterate 2 refine k9 (gtf r10) ?_);refine rq rfl rfl rfl rfl rfl ?_ (hp:=r10);refine ca ?_;refine a7 _ rfl (fun _=>?_) (fun e=>by cases e);refine w_7 ?_;refine ⟨.inr rfl, ?_⟩
   have hd:=a8i (s:=s) (x:=x) (by omega) (by first | exact .inl (by assumption) | exact .inr (by omega))
   rw [hd.1,hd.2]
   exact f9 rfl rfl (⟨CoC.refl _,CoC.refl _,trivial⟩)
  have h10:=r10
  (iterate 2 refine qy ?_ (hg:=(gff r10)));refine w_2 ?_;refine a7 _ rfl (fun r11=>?_) (fun r11=>?_)
  ·
   have h11:=r11
   have h11:=bw r10 h11
   have h11:=ae h11
   try simp only [ty] at h11
   refine w_7 ?_;refine ⟨.inr rfl, ?_⟩
   have hd:=a8i (s:=s) (x:=x) (by omega) (by first | exact .inl (by assumption) | exact .inr (by omega))
   rw [hd.1,hd.2]
   exact f9 rfl rfl (⟨CoC.refl _,CoC.refl _,trivial⟩)
  have h11:=r11
  have h11:=bw r10 h11
  have h11:=aa h11
  try simp only [ty] at h11
  refine w_2 ?_;refine ap (E:=au) a8 ag [0,1,2,3,4,5,6,7,8,9,10,11,12,13,14,15,16,17,18,19] ?_;refine m9 7 ?_;refine w_2 ?_;refine ra 8 true rfl rfl rfl rfl rfl rfl ?_;refine w_6 ?_
  refine m9 9 ?_;refine ra 10 true rfl rfl rfl rfl rfl rfl ?_;refine w_9 ?_;refine ⟨by kernel_rfl, ?_⟩;refine ej ?_;refine ⟨.inr rfl, ?_⟩
  have hd:=do8 (s:=s) (x:=x) (by omega) (by rintro (h | h) <;> first | (simp_all;done) | omega)
  rw [hd.1,hd.2]
  exact f9 rfl rfl (⟨CoC.agg ⟨(qz (Nat.zero_add _) rfl (fun i j hi hj=>CoP.of_eq (by simp [eo])) (jq (lt1 (CoP.of_eq (by show txC (s.undone.getD ((s.undone.length:Int) - 1).toNat default) 0 = txC (s.undone.getD (s.undone.length - 1) default) 0;rw [show ((s.undone.length:Int) - 1).toNat = s.undone.length - 1 from by omega]))))),(wc (by omega) (by omega)),CoP.refl _,ar,trivial⟩,CoC.refl _,trivial⟩)
 have h9:=aa r9
 try simp only [ty] at h9
 refine w_4 ?_;refine qcx ag4 (c41 s x hs hx) ?_;refine w_3 ?_;refine m9 11 ?_;refine w_9 ?_;refine a7 _ rfl (fun r12=>?_) (fun r12=>?_)
 ·
  have h12:=r12
  have h12:=aa (b7 h12)
  try simp only [ty] at h12
  refine w_8 ?_;refine ⟨.inr rfl, ?_⟩
  have hd:=doc (s:=s) (x:=x) (by omega) (by omega) (by omega) (by omega) (by omega) (by simp_all)
  rw [hd.1,hd.2]
  exact f9 rfl rfl (⟨CoC.refl _,CoC.refl _,trivial⟩)
 have h12:=r12
 have h12:=ae (b8 h12)
 try simp only [ty] at h12
 have hE:eq s x = 0:=by simpa using r12
 refine w_3 ?_;refine ap (E:=au) a8 ag [0,1,2,3,4,5,6,7,8,9,10,11,12,13,14] ?_;refine w_4 ?_;refine bo rfl rfl (fun r13=>?_) (fun r13=>?_)
 ·
  have h13:=ae r13
  try simp only [ty] at h13
  (iterate 5 refine qy ?_ (hg:=(gtt r13)));refine rq rfl rfl rfl rfl (gtt r13) ?_ (hp:=(by have:=aed hs hE (by assumption);exact ⟨rfl,this⟩));(iterate 4 refine qy ?_ (hg:=(gtt r13)));refine w_2 ?_
  refine ⟨by kernel_rfl, ?_⟩;refine a7 _ rfl (fun r14=>?_) (fun r14=>?_)
  ·
   have h14:=r14
   have h14:=dm r13 h14
   refine w_7 ?_;refine ⟨.inr rfl, ?_⟩
   have hd:=acr (s:=s) (x:=x) (by omega) (by omega) (by omega) (by omega) (by omega) (by simp_all) (by simp_all [m8,Val.eq_iff])
   rw [hd.1,hd.2]
   exact f9 rfl rfl (⟨CoC.refl _,CoC.refl _,trivial⟩)
  have h14:=r14
  have h14:=dm r13 h14
  refine w_5 ?_;refine qcx abq (c42 s (gr s x) hlt hln) ?_;refine w_4 ?_;refine ⟨.inr rfl, ?_⟩
  have hd:=adm (s:=s) (x:=x) (by omega) (by omega) (by omega) (by omega) (by omega) (by simp_all) (by simp_all [m8,Val.eq_iff])
  rw [hd.1,hd.2]
  exact f9 rfl rfl (⟨CoC.refl _,CoC.refl _,trivial⟩)
 have h13:=aa r13
 try simp only [ty] at h13
 (iterate 10 refine k9 (gft r13) ?_);refine rq rfl rfl rfl rfl rfl ?_ (hp:=r13);refine ca ?_;refine ⟨by kernel_rfl, ?_⟩;refine a7 _ rfl (fun e=>by cases e) (fun _=>?_);refine w_5 ?_
 refine qcx abq (c42 s (gr s x) hlt hln) ?_;refine w_4 ?_;refine ⟨.inr rfl, ?_⟩
 have hd:=adm (s:=s) (x:=x) (by omega) (by omega) (by omega) (by omega) (by omega) (by simp_all) (by simp_all [m8,Val.eq_iff])
 rw [hd.1,hd.2]
 exact f9 rfl rfl (⟨CoC.refl _,CoC.refl _,trivial⟩)
end
end Go.Hx

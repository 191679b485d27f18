/- A part of the proof: Dw1 Ds2. -/
import Derived.Test.YtkkenjdfbojdlaaGreatDoorFx32
set_option linter.all false
set_option maxRecDepth 100000
namespace Go.Hx
section
open Go.Proofs
theorem ayv:goodFn Tryz.prog 210:=wgx Tryz.func210
theorem bce (b:Bs) (g k:Nat) (caps:Nat → PV) (V:UInt8 → Bool) (hg:goodFn Tryz.prog g) (hV:∀ x,af Tryz.prog g (pU8 x :: gn caps k 0) (aj [pB (V x)])):af Tryz.prog 210 [pP (byl b),pP (.fn g k caps)] (aj [pI (idx V b.data.toList)]):=by
 refine a8 (nt:=19) a7 Tryz.func210 rfl rfl l9 ?_;refine d8 ?_
 refine dg 0 rfl fun hn=>?_
 refine w_3 ?_;refine d4 (ι:=Unit) ⟨[],[]⟩ ⟨trivial,trivial⟩ (fun _i=>⟨[],[]⟩) (fun _i=>idx V b.data.toList = -1) ?_ ?_
 ·
  refine w_7 ?_
  refine ah (ι:=Nat) ⟨[(0,some _),(1,some _),(7,some _)],[]⟩ ⟨⟨c9,c9,c9,trivial⟩,trivial⟩ (fun i=>⟨[(8,some (vI i))],[]⟩) (fun i=>i ≤ b.data.toList.length ∧ (∀ j,j < i → V (b.data.toList.getD j default) = false)) (fun i=>b.data.toList.length - i) (0) (⟨Nat.zero_le _,cr⟩) ⟨⟨zy,trivial⟩,trivial⟩ ?_
  rintro i ⟨hi,hI⟩
  refine w_5 ?_;refine a6 _ rfl (fun r0=>?_) (fun r0=>?_)
  ·
   have h0:=ae r0
   try simp only [ty] at h0
   refine mr ?_;refine rc rfl rfl rfl rfl rfl rfl hg (hV (b.data.toList.getD i default)) (CoL.refl _) rfl rfl ?_;refine ax ?_;refine a6 _ rfl (fun r1=>?_) (fun r1=>?_)
   ·
    have h1:=r1
    refine w_5 ?_
    exact hx8 rfl rfl rfl (⟨cci (qt (i:=i) (by omega) hI h1).symm,trivial⟩)
   have h1:=r1
   refine w_5 ?_;refine ⟨i + 1, ?_, ?_, ?_⟩
   · exact ⟨by show i + 1 ≤ _;omega,bz hI (h1)⟩
   · first | omega | (dsimp only;omega)
   exact ⟨⟨zy,c9,c9,c9,trivial⟩,trivial⟩
  have h0:=aa r0
  try simp only [ty] at h0
  refine fe ?_;refine ⟨(), ?_, ?_⟩
  · exact re fun j hj=>hI j (by omega)
  exact ⟨trivial,trivial⟩
 rintro _ hj
 refine w_4 ?_
 exact hx8 rfl rfl rfl (⟨cci hj.symm,trivial⟩)
theorem azj:goodFn Tryz.prog 162:=wgx Tryz.func162
theorem bbd (b:Bs) (g k:Nat) (caps:Nat → PV) (V:UInt8 → Bool) (hg:goodFn Tryz.prog g) (hV:∀ x,af Tryz.prog g (pU8 x :: gn caps k 0) (aj [pB (V x)])):af Tryz.prog 162 [pP (byl b),pP (.fn g k caps)] (aj [pB (b.data.toList.any V)]):=by
 refine a8 (nt:=9) a7 Tryz.func162 rfl rfl l9 ?_;refine w_8 ?_;refine qcx ayv (bce b g k caps V hg hV) ?_;refine w_3 ?_
 exact hx8 rfl rfl rfl (⟨ccb x8,trivial⟩)
theorem b1d:goodFn Tryz.prog 211:=wgx Tryz.func211
theorem bb5 (l:List Bs) (s:Bs):af Tryz.prog 211 [pP (bsl l),pS s] (aj [pI (idx (fun x=>decide (x = s)) l)]):=by
 refine a8 (nt:=19) a7 Tryz.func211 rfl rfl l9 ?_;refine d8 ?_
 refine dg 0 rfl fun hn=>?_
 refine w_3 ?_;refine d4 (ι:=Unit) ⟨[],[]⟩ ⟨trivial,trivial⟩ (fun _i=>⟨[],[]⟩) (fun _i=>idx (fun x=>decide (x = s)) l = -1) ?_ ?_
 ·
  refine w_7 ?_
  refine ah (ι:=Nat) ⟨[(0,some _),(1,some _),(7,some _)],[]⟩ ⟨⟨c9,c9,c9,trivial⟩,trivial⟩ (fun i=>⟨[(8,some (vI i))],[]⟩) (fun i=>i ≤ l.length ∧ (∀ j,j < i → decide (l.getD j default = s) = false)) (fun i=>l.length - i) (0) (⟨Nat.zero_le _,cr⟩) ⟨⟨zy,trivial⟩,trivial⟩ ?_
  rintro i ⟨hi,hI⟩
  refine w_5 ?_;refine a6 _ rfl (fun r0=>?_) (fun r0=>?_)
  ·
   have h0:=ae r0
   try simp only [ty] at h0
   refine ae8 ?_;refine a6 _ rfl (fun r1=>?_) (fun r1=>?_)
   ·
    have h1:=ae r1
    try simp only [ty] at h1
    refine w_5 ?_
    exact hx8 rfl rfl rfl (⟨cci (qt (p:=fun x=>decide (x = s)) (i:=i) (by omega) hI (decide_eq_true h1.symm)).symm,trivial⟩)
   have h1:=aa r1
   try simp only [ty] at h1
   refine w_5 ?_;refine ⟨i + 1, ?_, ?_, ?_⟩
   · exact ⟨by show i + 1 ≤ _;omega,bz hI (decide_eq_false fun e=>h1 e.symm)⟩
   · first | omega | (dsimp only;omega)
   exact ⟨⟨zy,c9,c9,c9,trivial⟩,trivial⟩
  have h0:=aa r0
  try simp only [ty] at h0
  refine fe ?_;refine ⟨(), ?_, ?_⟩
  · exact re (p:=fun x=>decide (x = s)) fun j hj=>hI j (by omega)
  exact ⟨trivial,trivial⟩
 rintro _ hj
 refine w_4 ?_
 exact hx8 rfl rfl rfl (⟨cci hj.symm,trivial⟩)
theorem b2v:goodFn Tryz.prog 164:=wgx Tryz.func164
theorem bb7 (l:List Bs) (s:Bs):af Tryz.prog 164 [pP (bsl l),pS s] (aj [pB (l.any fun x=>decide (x = s))]):=by
 refine a8 (nt:=9) a7 Tryz.func164 rfl rfl l9 ?_;refine w_8 ?_;refine qcx b1d (bb5 _ _) ?_;refine w_3 ?_
 exact hx8 rfl rfl rfl (⟨ccb x8,trivial⟩)
theorem azr:goodFn Tryz.prog 163:=wgx Tryz.func163
theorem b8z (x:UInt8):af Tryz.prog 163 [pU8 x] (aj [pB (a4b x)]):=by
 refine a8 (nt:=9) a7 Tryz.func163 rfl rfl l9 ?_;refine w_9 ?_;refine b9 rfl rfl (fun r0=>?_) (fun r0=>?_)
 ·
  have h0:=ae r0
  try simp only [ty] at h0
  (iterate 2 refine k9 (gtf r0) ?_);refine rq rfl rfl rfl rfl rfl ?_ (hp:=r0);refine w_2 ?_
  exact hx8 rfl rfl rfl (⟨ccb (by unfold a4b;first | rfl | simp_all),trivial⟩)
 have h0:=aa r0
 try simp only [ty] at h0
 (iterate 2 refine qy ?_ (hg:=(gff r0)));refine w_3 ?_
 exact hx8 rfl rfl rfl (⟨ccb (by unfold a4b;first | rfl | simp_all),trivial⟩)
theorem b10:goodFn Tryz.prog 111:=wgx Tryz.func111
theorem bco (l:List Bs) (hl:∀ b ∈ l,b.size ≤ maxLen):af Tryz.prog 111 [pP (bsl l)] (aj [pI (j6 l)]):=by
 refine a8 (nt:=30) a7 Tryz.func111 rfl rfl l9 ?_;refine w_6 ?_
 refine dg 0 rfl fun hn=>?_
 refine w_5 ?_;refine a6 _ rfl (fun r0=>?_) (fun r0=>?_)
 ·
  have h0:=ae r0
  try simp only [ty] at h0
  have he:=b4v h0
  refine w_4 ?_
  exact hx8 rfl rfl rfl (⟨cci he.symm,trivial⟩)
 have h0:=aa r0
 try simp only [ty] at h0
 refine w_9 ?_
 refine ah (ι:=Nat) ⟨[(0,some _),(8,some _),(9,some _)],[]⟩ ⟨⟨c9,c9,c9,trivial⟩,trivial⟩ (fun i=>⟨[(10,some (vI i))],[]⟩) (fun i=>i ≤ l.length ∧ (∀ j,j < i → j2 l j = false)) (fun i=>l.length - i) (0) (⟨Nat.zero_le _,cr⟩) ⟨⟨zy,trivial⟩,trivial⟩ ?_
 rintro i ⟨hi,hI⟩
 refine w_5 ?_;refine a6 _ rfl (fun r1=>?_) (fun r1=>?_)
 ·
  have h1:=ae r1
  try simp only [ty] at h1
  have hsz:(l.getD i default).size ≤ maxLen:=hl _ (by rw [List.getD_eq_getElem?_getD,List.getElem?_eq_getElem (by omega)];exact List.getElem_mem _)
  refine a6o ?_;refine b9 rfl rfl (fun r2=>?_) (fun r2=>?_)
  ·
   have h2:=ae r2
   try simp only [ty] at h2
   have hb:j2 l i = true:=by unfold j2;simp_all
   (iterate 3 refine k9 (gtf r2) ?_);refine rq rfl rfl rfl rfl rfl ?_ (hp:=r2);refine qy ?_;(iterate 5 refine k9 rfl ?_);refine w_2 ?_;refine a6 _ rfl (fun _=>?_) (fun e=>by cases e);refine w_4 ?_
   exact hx8 rfl rfl rfl (⟨cci (a7e h0 (by omega) hb).symm,trivial⟩)
  have h2:=aa r2
  try simp only [ty] at h2
  refine qy ?_ (hg:=(gff r2));refine rv rfl rfl rfl rfl rfl (gff r2) ?_;refine qcx azj (bbd (l.getD i default) 163 0 (fun _=>.any) a4b azr b8z) ?_ (hg:=(gff r2));refine w_2 ?_
  refine b9 rfl rfl (fun r3=>?_) (fun r3=>?_)
  ·
   have h3:=r3
   have h3:=c6 r2 h3
   have hb:j2 l i = true:=by unfold j2;simp_all
   (iterate 5 refine k9 (gtf r3) ?_);refine rq rfl rfl rfl rfl rfl ?_ (hp:=r3);refine ax ?_;refine a6 _ rfl (fun _=>?_) (fun e=>by cases e);refine w_4 ?_
   exact hx8 rfl rfl rfl (⟨cci (a7e h0 (by omega) hb).symm,trivial⟩)
  have h3:=r3
  have h3:=c6 r2 h3
  (iterate 4 refine qy ?_ (hg:=(gff r3)));refine rc rfl rfl rfl rfl rfl rfl b2v (bb7 (l.take i) (l.getD i default)) (⟨CoC.one (ajy (k:=i) (by omega)),CoC.refl _,trivial⟩) rfl (gff r3) ?_;refine w_2 ?_
  refine a6 _ rfl (fun r4=>?_) (fun r4=>?_)
  ·
   have h4:=r4
   have h4:=c6 r3 h4
   have hb:j2 l i = true:=by unfold j2;simp_all
   refine w_4 ?_
   exact hx8 rfl rfl rfl (⟨cci (a7e h0 (by omega) hb).symm,trivial⟩)
  have h4:=r4
  have h4:=c6 r3 h4
  have hb:j2 l i = false:=by unfold j2;simp_all
  refine w_5 ?_;refine ⟨i + 1, ?_, ?_, ?_⟩
  · exact ⟨by show i + 1 ≤ _;omega,bz hI (hb)⟩
  · first | omega | (dsimp only;omega)
  exact ⟨⟨zy,c9,c9,c9,trivial⟩,trivial⟩
 have h1:=aa r1
 try simp only [ty] at h1
 obtain rfl:i = l.length:=by omega
 refine w_5 ?_
 exact hx8 rfl rfl rfl (⟨cci (b63 h0 hI).symm,trivial⟩)
end
section
theorem a7p {l:List Bs} {i:Nat} (hi:i < l.length):szB (l.take (i + 1)) = szB (l.take i) + (l.getD i default).size:=by
 unfold szB
 rw [List.take_succ,List.getElem?_eq_getElem hi,List.map_append,List.sum_append,List.getD_eq_getElem?_getD,List.getElem?_eq_getElem hi]
 simp
theorem aoa (l:List Bs) (i:Nat):szB l = szB (l.take i) + szB (l.drop i):=by
 unfold szB
 rw [← List.sum_append,← List.map_append,List.take_append_drop]
theorem tg (l:List Bs) (i:Nat):szB (l.take i) ≤ szB l:=by have:=aoa l i;omega
theorem a13 {l:List Bs} {i:Nat} (hi:i < l.length):(l.getD i default).size ≤ szB l:=by
 have h1:=a7p hi
 have h2:=tg l (i + 1)
 omega
theorem b3d {l:List Bs} {b:Bs} (h:b ∈ l):b.size ≤ szB l:=by
 obtain ⟨i,hi,rfl⟩:=List.getElem_of_mem h
 have:=a13 hi
 rwa [List.getD_eq_getElem?_getD,List.getElem?_eq_getElem hi] at this
def pf (l:List Bs) (sep:Bs) (i:Nat):List UInt8:=bL (l.getD 0 default) ++ Lib.joinTail (bL sep) (((l.drop 1).take i).map bL)
theorem b7a (l:List Bs) (sep:Bs):pf l sep 0 = [] ++ bL (l.getD 0 default):=by simp [pf,Lib.joinTail]
theorem ac7 {l:List Bs} {sep:Bs} {i:Nat} (hi:1 + i < l.length):pf l sep (i + 1) = (pf l sep i ++ bL sep) ++ bL (l.getD (1 + i) default):=by
 unfold pf
 have h:((l.drop 1).map bL)[i]? = some (bL (l.getD (1 + i) default)):=by
  rw [List.getElem?_map,List.getElem?_drop,List.getD_eq_getElem?_getD,List.getElem?_eq_getElem hi]
  rfl
 have h2:=Lib.joinTail_take_succ (bL sep) ((l.drop 1).map bL) i _ h
 rw [List.map_take,List.map_take,h2]
 simp only [List.append_assoc]
theorem aws {l:List Bs} (sep:Bs) (h:l ≠ []):(⟨(pf l sep (l.length - 1)).toArray⟩:Bs) = lq l sep:=by
 obtain ⟨x,r,rfl⟩:=List.exists_cons_of_ne_nil h
 unfold pf lq bOf
 rw [List.map_cons,Lib.join_cons]
 simp
theorem b08 (l:List Bs) (sep:Bs) (i:Nat):(pf l sep i).length ≤ szB l + sep.size * l.length:=by
 unfold pf
 rw [List.length_append,Lib.joinTail_length,List.length_map]
 have h1:Lib.lens (((l.drop 1).take i).map bL) ≤ szB (l.drop 1):=by
  have:Lib.lens (((l.drop 1).take i).map bL) = szB ((l.drop 1).take i):=by
   unfold Lib.lens szB
   rw [List.map_map]
   rfl
  rw [this]
  exact tg _ _
 have h2:((l.drop 1).take i).length ≤ l.length:=by
  rw [List.length_take,List.length_drop]
  omega
 have h3:(bL (l.getD 0 default)).length + szB (l.drop 1) ≤ szB l:=by
  cases l with
  | nil=>exact Nat.le_refl 0
  | cons x r =>
   have e:szB (x :: r) = x.size + szB r:=by simp [szB]
   rw [e]
   show x.size + szB r ≤ _
   omega
 have h4:=Nat.mul_le_mul_left sep.size h2
 show _ + (sep.size * _ + _) ≤ _
 omega
theorem ac3 {l:List Bs} (sep:Bs) (h:(l.length:Int) = 1):lq l sep = l.getD 0 default:=by
 match l,h with
 | [x],_ =>
  show bOf (Lib.join [bL x] (bL sep)) = x
  rw [Lib.join_one,amu]
theorem bbj {α:Type} {l:List α} (h:(l.length:Int) = 0):l = []:=List.eq_nil_of_length_eq_zero (by omega)
theorem b31 {n:Int} (h1:1 ≤ n) (h2:n ≤ 1000):(2:Int) ≤ 9223372036854775807 / n:=Int.le_ediv_of_mul_le (by omega) (by omega)
end
end Go.Hx

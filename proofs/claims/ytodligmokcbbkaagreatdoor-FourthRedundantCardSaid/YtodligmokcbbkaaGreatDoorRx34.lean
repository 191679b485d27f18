/- A part of the proof: Gr2 Ch15 Y4 Jrw1 Jrw2 Gr3. -/
import Derived.Test.YtodligmokcbbkaaGreatDoorRx16
import Derived.Test.YtodligmokcbbkaaGreatDoorRx19
import Derived.Test.YtodligmokcbbkaaGreatDoorRx22
import Derived.Test.YtodligmokcbbkaaGreatDoorRx23
import Derived.Test.YtodligmokcbbkaaGreatDoorRx25
import Derived.Test.YtodligmokcbbkaaGreatDoorRx26
import Derived.Test.YtodligmokcbbkaaGreatDoorRx30
import Derived.Test.YtodligmokcbbkaaGreatDoorRx31
import Derived.Test.YtodligmokcbbkaaGreatDoorRx33
set_option linter.all false
section
namespace Go.Hx
open Go.Proofs
set_option maxRecDepth 100000
theorem ah7:ak Tryz.prog 12:=⟨Tryz.f12,Tryz.func12,by kernel_rfl,by kernel_rfl⟩
theorem acb (t:Tbl) (d:Fd) (hT:TOk t) (hd:sub (d.lhs ||| d.rhs) (am ((t.attrs.length:Nat):Int))):aj Tryz.prog 12 [t.pc,d.pc] (ao [pB (ab2 t d),pI 0]):=by
 refine ai (nt:=112) ae Tryz.func12 rfl rfl l9 ?_
 have hok:=hT.ok
 have htz:=ir.2 hT
 have hn:=hT.na
 have hnr:=hT.nr
 have h0z:(0:Int) ≤ ((t.attrs.length:Nat):Int):=by omega
 have h1z:((t.attrs.length:Nat):Int) ≤ 16:=by omega
 refine sx7 ?_;refine m9 0 ?_;refine m9 1 ?_;(iterate 2 refine qy ?_);refine a6 ?_;refine a7 ?_;refine sx7 ?_;refine qy ?_;refine rc rfl rfl rfl rfl rfl rfl zr (c88 t) (CoL.refl _) rfl rfl ?_;refine qy ?_
 refine a6 ?_;refine sx7 ?_;(iterate 2 refine qy ?_);refine a6 ?_;refine a8 _ rfl (fun r0=>?_) (fun r0=>?_)
 ·
  have h0:=r0
  have h0:=of_decide_eq_false (b7 h0)
  try simp only [ty] at h0
  exfalso
  omega
 ·
  have h0:=r0
  have h0:=of_decide_eq_true (b6 h0)
  try simp only [ty] at h0
  refine aa ?_;refine sx7 ?_;(iterate 4 refine qy ?_);refine a6 ?_;refine a7 ?_;refine sx7 ?_;(iterate 8 refine qy ?_);refine a6 ?_;refine a8 _ rfl (fun r1=>?_) (fun r1=>?_)
  ·
   have h1:=r1
   have h1:=of_decide_eq_false (b7 h1)
   try simp only [ty] at h1
   exact absurd (ng.2 ((vd (n:=((t.attrs.length:Nat):Int)) (by omega) (by omega)).2 ⟨a14 hd,bf.2 fun z hz hb=>bf.1 hd z hz (by rw [BitVec.getLsbD_or,hb,Bool.or_true])⟩)) h1
  ·
   have h1:=r1
   have h1:=of_decide_eq_true (b6 h1)
   try simp only [ty] at h1
   refine aa ?_;refine a7 ?_;refine dp (E:=ci) ae ct [0,1,2,3,4,5,6,7,8,9,10,11,12,13,14,15] ?_;(iterate 7 refine qy ?_)
   refine rq rfl rfl rfl rfl rfl ?_ (hp:=⟨xa h0z h1z,tk h0z h1z⟩);(iterate 8 refine qy ?_);refine a6 ?_;refine ⟨by kernel_rfl, ?_⟩;refine a7 ?_;refine gf [] [0,1] rfl ?_
   refine xx (k:=0) (L:=[1]) 901 rfl (fun bg=>?_);refine gl (E:=ci) (L1:=[1]) (L2:=[]) ae ?_;refine qy ?_;refine a6 ?_;refine lm ?_;refine agf 902 ?_;refine a7 ?_
   refine sx7 ?_;(iterate 4 refine qy ?_);refine a6 ?_;refine af ?_
   refine aw (ι:=(Nat × Array MapEntry × Nat × (Nat → Option Obj))) ⟨[(3,some _),(10,some _),(52,some _),(53,some _)],[(1,some _)]⟩ ⟨⟨c9,c9,c9,c9,trivial⟩,⟨u9,trivial⟩⟩ (fun x=>⟨[(54,some (vI x.1)),(8,some (vA (ig d))),(9,some (vA (jw t.attrs.length d)))],[(901,some (mpO bg x.2.1 x.2.2.1)),(902,some (.bun x.2.2.2))]⟩) (fun x=>x.1 ≤ t.rows.length ∧ mq Tryz.prog 9 x.2.1 x.2.2.1 ∧ l6 t.rows d t.attrs.length x.1 x.1 x.2.1 x.2.2.2) (fun x=>t.rows.length - x.1) ((0,#[],0,fun _=>none)) (⟨Nat.zero_le _,mq.nil,l6.zero⟩) ⟨⟨zy,⟨_,rfl,(j9 (jx _ _))⟩,⟨_,rfl,(j9 (by show d8 .andNot .u32 (IntKind.wrap .u32 (1 * 2 ^ (min (((t.attrs.length:Nat):Int)).toNat 32)) - 1) _ = _;rw [w4 h0z h1z,bOr,jx];rfl))⟩,trivial⟩,⟨u9,u9,trivial⟩⟩ ?_
   rintro ⟨i,es,clock,B⟩ ⟨hi,hX,hG⟩
   dsimp only at hi hX hG ⊢
   refine sx7 ?_;refine qy ?_;refine a6 ?_;refine a7 ?_;refine a8 _ rfl (fun r2=>?_) (fun r2=>?_)
   ·
    have h2:=of_decide_eq_true r2
    try simp only [ty] at h2
    have hir:i < t.rows.length:=by omega
    have hwi:(t.rows.getD i default).vals.length = t.attrs.length:=hT.width hir
    have hvl:(t.rows.getD i default).vals.length ≤ 16:=by omega
    have hbl:∀ z,d.lhs.getLsbD z = true → z < (t.rows.getD i default).vals.length:=fun z hz=>by rw [hwi];exact s7 hn (a14 hd) z hz
    have hbr:∀ z,(ig d).getLsbD z = true → z < (t.rows.getD i default).vals.length:=fun z hz=>by rw [hwi];exact s7 hn (anw hd) z hz
    have hbs:∀ z,(jw t.attrs.length d).getLsbD z = true → z < (t.rows.getD i default).vals.length:=fun z hz=>by rw [hwi];exact s7 hn amn z hz
    have hs1:=yx (l:=(t.rows.getD i default).vals) (s:=d.lhs)
    have hs2:=yx (l:=(t.rows.getD i default).vals) (s:=ig d)
    have hs3:=yx (l:=(t.rows.getD i default).vals) (s:=jw t.attrs.length d)
    refine aa ?_;refine a7 ?_;refine af ?_;refine sx7 ?_;(iterate 2 refine qy ?_);refine m9 2 ?_;refine s9 ?_;refine a6 ?_;refine sx7 ?_;(iterate 3 refine qy ?_)
    refine rc rfl rfl rfl rfl rfl rfl a9a (adt (t.rows.getD i default) d.lhs hbl hvl) (CoL.refl _) rfl rfl ?_;refine qy ?_;refine a6 ?_;refine a7 ?_;refine gf [] [0,1,2,3,4,5,6,7,8] rfl ?_
    refine gl (E:=ci) (L1:=[0,1]) (L2:=[2,3,4,5,6,7,8]) ae ?_;(iterate 2 refine qy ?_);refine a6 ?_
    refine aj3 (mid:=901) (k:=2) (L:=[3,4,5,6,7,8]) rfl Tryz.underlying67 (Go.Maps.string_keyed Tryz.underlying9) Tryz.zeroValue70 rfl hX (Go.WideMaps.keyOf_string_mk Tryz.underlying9 (by show ((b9 (t.rows.getD i default).vals d.lhs)).size ≤ maxLen;unfold maxLen;first | omega | (rw [mw];omega))) rfl (fun ok v hy hn1=>?_)
    obtain ⟨m0,m1,m2,rfl⟩:∃ m0 m1 m2,v = .agg #[m0,m1,m2]:=by
     cases ok with
     | true =>
      obtain ⟨e,he,hk,rfl⟩:=hy rfl
      obtain ⟨k,_,_,b0,b1,b2,g⟩:=hG.en e he
      exact ⟨_,_,_,g.v⟩
     | false=>exact ⟨_,_,_,(hn1 rfl).1⟩
    refine gl (E:=ci) (L1:=[3,4,5,6,7,8]) (L2:=[]) ae ?_;(iterate 3 refine qy ?_);refine m9 3 ?_;refine s9 ?_;refine qy ?_;refine a6 ?_;refine lm ?_
    refine cr (ι:=(Array MapEntry × Nat × (Nat → Option Obj) × Nat × Nat × Nat)) ⟨[(3,some _),(8,some _),(9,some _),(10,some _),(12,some _),(14,some _),(52,some _),(53,some _),(54,some _)],[(1,some _),(2,some _)]⟩ ⟨⟨c9,c9,c9,c9,c9,c9,c9,c9,c9,trivial⟩,⟨u9,u9,trivial⟩⟩ (fun y=>⟨[],[(901,some (mpO bg y.1 y.2.1)),(902,some (.bun y.2.2.1)),(3,some (.box [.p (.raw (.map (some y.2.2.2.1))), .p (.raw (.map (some y.2.2.2.2.1))), .p (.raw (.map (some y.2.2.2.2.2)))]))]⟩) (fun y=>ajx Tryz.prog 9 t.rows d t.attrs.length i y) ?_ ?_
    ·
     refine sx7 ?_;(iterate 2 refine qy ?_);refine a6 ?_;refine a8 _ rfl (fun r3=>?_) (fun r3=>?_)
     ·
      have h3:=r3
      have h3:=b7 h3
      have hok1:ok = false:=by simpa using r3
      subst hok1
      obtain ⟨hz0,hno⟩:=hn1 rfl
      refine a7 ?_;refine gf [] [0,1,2,3,4] rfl ?_;refine xx (k:=0) (L:=[1,2,3,4]) 4 rfl (fun b0=>?_);refine xx (k:=1) (L:=[2,3,4]) 5 rfl (fun b1=>?_)
      refine xx (k:=2) (L:=[3,4]) 6 rfl (fun b2=>?_);refine ai7 (k:=3) (L:=[4]) rfl (by kernel_rfl) ?_;refine gl (E:=ci) (L1:=[4]) (L2:=[]) ae ?_;refine s9 ?_;refine a6 ?_
      refine lm ?_;refine lp 4 902 rfl rfl (fun q0=>?_);refine lp 5 902 rfl rfl (fun q1=>?_);refine lp 6 902 rfl rfl (fun q2=>?_);refine gf [] [0,1,2,3] rfl ?_
      refine gl (E:=ci) (L1:=[0,1,2]) (L2:=[3]) ae ?_;(iterate 3 refine qy ?_);refine a6 ?_
      refine anm (mid:=901) (k:=3) (L:=[]) rfl Tryz.underlying67 (Go.Maps.string_keyed Tryz.underlying9) hX (by have:=hG.sz;unfold maxLen;omega) (Go.WideMaps.keyOf_string_mk Tryz.underlying9 (by show ((b9 (t.rows.getD i default).vals d.lhs)).size ≤ maxLen;unfold maxLen;first | omega | (rw [mw];omega))) rfl rfl (fun es3 clock3 hX3 hP=>?_)
      refine lm ?_
      obtain ⟨hG3,e0,he0,hk0,hE⟩:=hG.put hir (fun x hx y hy e=>hX3.inj hx hy e) hno hP rfl q0 q1 q2
      have hJ:ajx Tryz.prog 9 t.rows d t.attrs.length i (es3,clock3,_,b0,b1,b2):=⟨hX3,hG3,e0,he0,hk0,hE⟩
      exact ⟨_,hJ,⟨⟨c9,c9,c9,c9,c9,c9,c9,c9,c9,trivial⟩,⟨u9,u9,u9,u9,u9,trivial⟩⟩⟩
     ·
      have h3:=r3
      have h3:=b6 h3
      have hok1:ok = true:=by simpa using r3
      obtain ⟨e0,he0,hk0,hv0⟩:=hy hok1
      obtain ⟨k,hk1,hk2,b0,b1,b2,hE⟩:=hG.en e0 he0
      obtain rfl:(b9 (t.rows.getD i default).vals d.lhs) = k:=by rw [hk0] at hk1;simpa using hk1
      have hv1:=hv0.trans hE.v
      simp only [Value.agg.injEq,Array.mk.injEq,List.cons.injEq,and_true] at hv1
      obtain ⟨rfl,rfl,rfl⟩:=hv1
      have hJ:ajx Tryz.prog 9 t.rows d t.attrs.length i (es,clock,B,b0,b1,b2):=⟨hX,hG.same hir he0 hk0,e0,he0,hk0,hE⟩
      refine aa ?_
      exact ⟨_,hJ,⟨⟨c9,c9,c9,c9,c9,c9,c9,c9,c9,trivial⟩,⟨u9,u9,u9,u9,u9,trivial⟩⟩⟩
    · rintro ⟨es2,clock2,B2,b0,b1,b2⟩ ⟨hX2,hG2,e0,he0,hk0,hE⟩
      dsimp only at hX2 hG2 he0 hk0 hE ⊢
      refine a7 ?_;refine dp (E:=ci) ae ct [0,1,2,3,4,5,6,7] ?_;(iterate 2 refine qy ?_)
      refine rc rfl rfl rfl rfl rfl rfl a9a (adt (t.rows.getD i default) (ig d) hbr hvl) (CoL.refl _) rfl rfl ?_;(iterate 2 refine qy ?_)
      refine rc rfl rfl rfl rfl rfl rfl a9a (adt (t.rows.getD i default) (jw t.attrs.length d) hbs hvl) (CoL.refl _) rfl rfl ?_;(iterate 2 refine qy ?_);refine a6 ?_;refine ⟨by kernel_rfl, ?_⟩
      obtain ⟨eax0,cax0,hBx0,hfx0⟩:=hE.a
      obtain ⟨eax1,cax1,hBx1,hfx1⟩:=hE.b
      obtain ⟨eax2,cax2,hBx2,hfx2⟩:=hE.c
      refine om 910 902 0 (.map (some b0)) rfl hBx0 ?_;refine om 911 902 0 (.map (some b1)) rfl (by rw [c7 (Ne.symm hE.d01)];exact hBx1) ?_
      refine om 912 902 0 (.map (some b2)) rfl (by rw [c7 (Ne.symm hE.d12),c7 (Ne.symm hE.d02)];exact hBx2) ?_
      refine acj 3 [.ref 910 0, .ref 911 0, .ref 912 0] rfl ⟨mt.from rfl rfl,mt.from rfl rfl,mt.from rfl rfl,trivial⟩ ?_;refine xe 910 (kk:=.pstr b0) rfl (a32 hfx0) ?_
      refine xe 911 (kk:=.pstr b1) rfl (a32 hfx1) ?_;refine xe 912 (kk:=.pstr b2) rfl (a32 hfx2) ?_;refine dp (E:=ci) ae ct [0,1,2,3,4,5,6,7,8,9,10,11,12,13] ?_
      (iterate 11 refine qy ?_)
      refine rs rfl rfl rfl rfl rfl ?_ (hp:=⟨rfl,(by show ((b9 (t.rows.getD i default).vals (ig d))).size ≤ maxLen;unfold maxLen;first | omega | (rw [mw];omega)),by show i < maxLen;unfold maxLen;omega⟩)
      refine rs rfl rfl rfl rfl rfl ?_ (hp:=⟨rfl,(by show ((b9 (t.rows.getD i default).vals (jw t.attrs.length d))).size ≤ maxLen;unfold maxLen;first | omega | (rw [mw];omega)),by show i < maxLen;unfold maxLen;omega⟩)
      refine rs rfl rfl rfl rfl rfl ?_ (hp:=⟨rfl,(by show ((b9 (t.rows.getD i default).vals (ig d)) ++ (b9 (t.rows.getD i default).vals (jw t.attrs.length d))).size ≤ maxLen;unfold maxLen;first | omega | (rw [mw];omega)),by show i < maxLen;unfold maxLen;omega⟩)
      refine a6 ?_;refine ⟨by kernel_rfl, ?_⟩
      refine a8a 910 (.mp (.pstr b0) (i + 1) (mn (lA t.rows d i (b9 (t.rows.getD i default).vals d.lhs) ++ [(b9 (t.rows.getD i default).vals (ig d))]))) rfl (by rw [← a54];exact CoO.refl _) ?_
      refine a8a 911 (.mp (.pstr b1) (i + 1) (mn (lB t.rows d t.attrs.length i (b9 (t.rows.getD i default).vals d.lhs) ++ [(b9 (t.rows.getD i default).vals (jw t.attrs.length d))]))) rfl (by rw [← a54];exact CoO.refl _) ?_
      refine a8a 912 (.mp (.pstr b2) (i + 1) (mn (lC t.rows d t.attrs.length i (b9 (t.rows.getD i default).vals d.lhs) ++ [(b9 (t.rows.getD i default).vals (ig d)) ++ (b9 (t.rows.getD i default).vals (jw t.attrs.length d))]))) rfl (by rw [← a54];exact CoO.refl _) ?_
      refine yq 910 rfl a1y (fun ew0 cw0 hw0=>?_);refine yq 911 rfl a1y (fun ew1 cw1 hw1=>?_);refine yq 912 rfl a1y (fun ew2 cw2 hw2=>?_);refine lp 910 902 rfl rfl (fun _=>?_)
      refine lp 911 902 rfl rfl (fun _=>?_);refine lp 912 902 rfl rfl (fun _=>?_)
      have hG4:l6 t.rows d t.attrs.length (i + 1) (i + 1) es2 (d6 (d6 (d6 (d6 (d6 (d6 B2 b0 none) b1 none) b2 none) b0 (some (.map ew0 cw0))) b1 (some (.map ew1 cw1))) b2 (some (.map ew2 cw2))):=hG2.step hir (fun x hx y hy e=>hX2.inj hx hy e) he0 hk0 hE (fun q h0 h1 h2=>by rw [c7 h2,c7 h1,c7 h0,c7 h2,c7 h1,c7 h0]) ⟨ew0,cw0,by rw [c7 hE.d02,c7 hE.d01,ge],hw0⟩ ⟨ew1,cw1,by rw [c7 hE.d12,ge],hw1⟩ ⟨ew2,cw2,by rw [ge],hw2⟩
      refine gy ?_;(iterate 2 refine qy ?_);refine a6 ?_
      refine ⟨(i + 1,es2,clock2,(d6 (d6 (d6 (d6 (d6 (d6 B2 b0 none) b1 none) b2 none) b0 (some (.map ew0 cw0))) b1 (some (.map ew1 cw1))) b2 (some (.map ew2 cw2)))), ?_, ?_, ?_⟩
      · exact ⟨by show i + 1 ≤ _;omega,hX2,hG4⟩
      · first | omega | (dsimp only;omega)
      · exact ⟨⟨zy,zy,zy,c9,c9,c9,c9,trivial⟩,⟨u9,u9,u9,trivial⟩⟩
   ·
    have h2:=of_decide_eq_false r2
    try simp only [ty] at h2
    obtain rfl:i = t.rows.length:=by omega
    refine az ?_;(iterate 2 refine a7 ?_);refine gf [] [0,1] rfl ?_;refine gl (E:=ci) (L1:=[0]) (L2:=[1]) ae ?_;refine qy ?_;refine a6 ?_
    refine ak9 (k:=1) (L:=[]) 4 rfl rfl fun bi=>?_
    refine lm ?_;refine af ?_
    refine aw (ι:=Array Nat) ⟨[(96,some _)],[(901,some _)]⟩ ⟨⟨c9,trivial⟩,⟨u9,trivial⟩⟩ (fun s=>⟨[],[(4,some (itO bi bg clock s)),(902,some (.bun B))]⟩) (fun s=>xi Tryz.prog 9 t.rows d t.attrs.length es s) (fun s=>(leftOf es s).size) (#[]) (xi.nil) ⟨trivial,⟨u9,u9,trivial⟩⟩ ?_
    rintro s hS
    refine a7 ?_;refine gf [] [0,1] rfl ?_;refine al3 (mid:=901) (k:=0) (L:=[1]) rfl hX (fun h0=>?_) (fun e he=>?_)
    ·
     refine gl (E:=ci) (L1:=[1]) (L2:=[]) ae ?_;refine qy ?_;refine a6 ?_;refine lm ?_;refine a7 ?_;refine a8 _ rfl (fun e=>by cases e) (fun _=>?_);refine az ?_;refine sx7 ?_
     (iterate 2 refine qy ?_);refine a6 ?_
     exact hx8 rfl rfl rfl (⟨ccb (al4 hG (hS.fin h0)).symm,CoC.refl _,trivial⟩)
    ·
     refine gl (E:=ci) (L1:=[1]) (L2:=[]) ae ?_;refine qy ?_;refine a6 ?_;refine lm ?_;refine a7 ?_;refine a8 _ rfl (fun _=>?_) (fun e=>by cases e);refine aa ?_
     refine af ?_;refine a7 ?_;refine gf [] [0,1,2,3] rfl ?_;refine ai8 (mid:=901) (k:=0) (L:=[1,2,3]) rfl hX he ?_
     obtain ⟨k,hk1,hk2,b0,b1,b2,hE⟩:=hG.en e (mem_left he).1
     rw [hE.v,hk1]
     refine gl (E:=ci) (L1:=[1,2,3]) (L2:=[]) ae ?_;refine qy ?_;refine m9 5 ?_;refine s9 ?_;refine a6 ?_;refine lm ?_;refine a7 ?_
     obtain ⟨eaz0,caz0,hBz0,hfz0⟩:=hE.a
     obtain ⟨eaz1,caz1,hBz1,hfz1⟩:=hE.b
     obtain ⟨eaz2,caz2,hBz2,hfz2⟩:=hE.c
     refine om 910 902 0 (.map (some b0)) rfl hBz0 ?_;refine om 911 902 0 (.map (some b1)) rfl (by rw [c7 (Ne.symm hE.d01)];exact hBz1) ?_
     refine om 912 902 0 (.map (some b2)) rfl (by rw [c7 (Ne.symm hE.d12),c7 (Ne.symm hE.d02)];exact hBz2) ?_
     refine acj 5 [.ref 910 0, .ref 911 0, .ref 912 0] rfl ⟨mt.from rfl rfl,mt.from rfl rfl,mt.from rfl rfl,trivial⟩ ?_
     have hl0:=hfz0.le
     have hl1:=hfz1.le
     have hl2:=hfz2.le
     refine gf [] [0,1,2,3,4,5,6,7,8,9,10] rfl ?_;refine gl (E:=ci) (L1:=[0,1]) (L2:=[2,3,4,5,6,7,8,9,10]) ae ?_;(iterate 2 refine qy ?_);refine a6 ?_
     refine a5i (mid:=910) (k:=2) (L:=[3,4,5,6,7,8,9,10]) rfl Tryz.underlying69 hfz0.mx ?_;refine gl (E:=ci) (L1:=[3,4]) (L2:=[5,6,7,8,9,10]) ae ?_;(iterate 2 refine qy ?_)
     refine a6 ?_;refine a5i (mid:=911) (k:=5) (L:=[6,7,8,9,10]) rfl Tryz.underlying69 hfz1.mx ?_;refine gl (E:=ci) (L1:=[6,7,8]) (L2:=[9,10]) ae ?_
     refine rq rfl rfl rfl rfl rfl ?_ (hp:=(by have hm:eaz0.size * eaz1.size ≤ 1000 * 1000:=Nat.mul_le_mul (by omega) (by omega);rw [← Int.natCast_mul];generalize eaz0.size * eaz1.size = q at hm;exact ⟨by show (-9223372036854775808:Int) ≤ _;omega,by show _ ≤ (9223372036854775807:Int);omega⟩))
     (iterate 2 refine qy ?_);refine a6 ?_;refine a5i (mid:=912) (k:=9) (L:=[10]) rfl Tryz.underlying69 hfz2.mx ?_;refine gl (E:=ci) (L1:=[10]) (L2:=[]) ae ?_;refine qy ?_;refine a6 ?_
     refine lm ?_;refine a8 _ rfl (fun r4=>?_) (fun r4=>?_)
     ·
      have h4:=r4
      have h4:=of_decide_eq_false (b7 h4)
      try simp only [ty] at h4
      have hcf:o4 t.attrs.length t.rows d k = false:=by
       rw [acd hfz0 hfz1 hfz2]
       refine decide_eq_false fun e=>?_
       rw [← Int.natCast_mul] at h4
       exact h4 (congrArg (fun q:Nat=>(q:Int)) e)
      refine sx7 ?_;(iterate 2 refine qy ?_);refine a6 ?_
      exact hx8 rfl rfl rfl (⟨ccb (agn hG (mem_left he).1 hk1 hcf).symm,CoC.refl _,trivial⟩)
     ·
      have h4:=r4
      have h4:=of_decide_eq_true (b6 h4)
      try simp only [ty] at h4
      have hcT:o4 t.attrs.length t.rows d k = true:=by
       rw [acd hfz0 hfz1 hfz2]
       rw [← Int.natCast_mul] at h4
       exact decide_eq_true (Int.ofNat.inj h4)
      refine lp 910 902 rfl rfl (fun _=>?_);refine lp 911 902 rfl rfl (fun _=>?_);refine lp 912 902 rfl rfl (fun _=>?_)
      have hBe:(d6 (d6 (d6 (d6 (d6 (d6 B b0 none) b1 none) b2 none) b0 (some (.map eaz0 caz0))) b1 (some (.map eaz1 caz1))) b2 (some (.map eaz2 caz2))) = B:=funext fun q=>by
       by_cases e0:q = b2
       · subst e0;rw [ge,hBz2]
       · rw [c7 e0]
         by_cases e1:q = b1
         · subst e1;rw [ge,hBz1]
         · rw [c7 e1]
           by_cases e2:q = b0
           · subst e2;rw [ge,hBz0]
           · rw [c7 e2,c7 e0,c7 e1,c7 e2]
      refine aa ?_;refine ⟨s.push e.born, ?_, ?_, ?_⟩
      · exact hS.step hX he hk1 hcT
      · exact left_shrinks es s e he
      · exact ⟨⟨c9,trivial⟩,⟨u9,⟨_,rfl,(by rw [hBe];exact CoO.refl _)⟩,u9,trivial⟩⟩
end Go.Hx
end
section
namespace Go.Hx
open Go.Proofs
set_option maxRecDepth 100000
def sT:List Rw:=[[0,1,5],[0,7,2]]
def fdX:List Fd:=[⟨1,2⟩]
theorem a4y {x:Fd} {cl:Bool} {f:Nat → Nat → PV} (h0:CoP (f 0 0) (x.c 0)) (h1:CoP (f 0 1) (x.c 1)):CoP (.sl 1 2 cl f) (fdl [x]) :=
 CoP.sl rfl (.inl rfl) (fun h=>by cases h) fun i j hi hj=>by
  obtain rfl:i = 0:=by omega
  rcases (by omega:j = 0 ∨ j = 1) with rfl | rfl
  · exact h0
  · exact h1
theorem a4c {s:Nat} {f:Nat → Nat → PV}:CoP (.sl 0 s true f) (fdl []):=CoP.sl rfl (.inr rfl) (fun h=>by cases h) fun i j hi _=>absurd hi (Nat.not_lt_zero i)
end Go.Hx
end
section
namespace Go.Hx
open Go.Proofs
set_option maxRecDepth 100000
theorem aih:ak Tryz.prog 10:=⟨Tryz.f10,Tryz.func10,by kernel_rfl,by kernel_rfl⟩
theorem aqm (a b:List AS):aj Tryz.prog 10 [pP (asl a),pP (asl b)] (ao [pB (decide (a = b))]):=by
 refine ai (nt:=26) ae Tryz.func10 rfl rfl l9 ?_;refine sx7 ?_;refine qy ?_;refine a6 ?_;(iterate 2 refine a7 ?_)
 refine j1 0 rfl fun hn0=>?_
 refine j1 1 rfl fun hn1=>?_
 refine gy ?_;(iterate 5 refine qy ?_);refine a6 ?_;refine a8 _ rfl (fun r0=>?_) (fun r0=>?_)
 ·
  have h0:=r0
  have h0:=of_decide_eq_false (b7 h0)
  try simp only [ty] at h0
  refine sx7 ?_;refine qy ?_;refine a6 ?_
  exact hx8 rfl rfl rfl (⟨ccb (decide_eq_false fun e=>by subst e;omega).symm,trivial⟩)
 ·
  have h0:=r0
  have h0:=of_decide_eq_true (b6 h0)
  try simp only [ty] at h0
  refine aa ?_;refine a7 ?_;refine sx7 ?_;(iterate 3 refine qy ?_);refine a6 ?_;refine af ?_
  refine aw (ι:=Nat) ⟨[(0,some _),(1,some _),(12,some _)],[]⟩ ⟨⟨c9,c9,c9,trivial⟩,trivial⟩ (fun i=>⟨[(13,some (vI i))],[]⟩) (fun i=>i ≤ a.length ∧ ∀ j,j < i → a.getD j default = b.getD j default) (fun i=>a.length - i) (0) (⟨Nat.zero_le _,fun j hj=>absurd hj (Nat.not_lt_zero j)⟩) ⟨⟨⟨_,rfl,(CoR.refl _)⟩,trivial⟩,trivial⟩ ?_
  rintro i ⟨hi,hI⟩
  refine sx7 ?_;refine qy ?_;refine a6 ?_;refine a7 ?_;refine a8 _ rfl (fun r1=>?_) (fun r1=>?_)
  ·
   have h1:=of_decide_eq_true r1
   try simp only [ty] at h1
   refine aa ?_;refine a7 ?_;refine af ?_;refine sx7 ?_;(iterate 2 refine qy ?_);refine a6 ?_;refine a7 ?_;refine dp (E:=ci) ae ct [0,1,2,3,4,5,6,7,8] ?_
   (iterate 9 refine qy ?_);refine a6 ?_;refine ⟨by kernel_rfl, ?_⟩;refine a8 _ rfl (fun r2=>?_) (fun r2=>?_)
   ·
    have h2:=r2
    have h2:=of_decide_eq_false (b7 h2)
    try simp only [ty] at h2
    refine sx7 ?_;refine qy ?_;refine a6 ?_
    exact hx8 rfl rfl rfl (⟨ccb (decide_eq_false fun e=>by subst e;exact absurd rfl (by assumption:¬ asI _ = asI _)).symm,trivial⟩)
   ·
    have h2:=r2
    have h2:=of_decide_eq_true (b6 h2)
    try simp only [ty] at h2
    refine aa ?_;refine gy ?_;(iterate 2 refine qy ?_);refine a6 ?_;refine ⟨i + 1, ?_, ?_, ?_⟩
    · refine ⟨by omega,fun j hj=>?_⟩
      by_cases e:j = i
      · subst e;exact fz.1 (by assumption)
      · exact hI j (by omega)
    · first | omega | (dsimp only;omega)
    · exact ⟨⟨⟨_,rfl,(CoR.refl _)⟩,c9,c9,c9,trivial⟩,trivial⟩
  ·
   have h1:=of_decide_eq_false r1
   try simp only [ty] at h1
   obtain rfl:i = a.length:=by omega
   refine az ?_;refine sx7 ?_;refine qy ?_;refine a6 ?_
   exact hx8 rfl rfl rfl (⟨ccb (decide_eq_true (aov (by omega) hI)).symm,trivial⟩)
theorem asw:aj Tryz.prog 8 [pI 3,pP (fdl []),pP (fdl [⟨1,2⟩]),pA 7] (ao [Fd.pc ⟨1,2⟩,pB true,pI 0]):=by
 have h:=ae5 3 [] [⟨1,2⟩] 7
 rw [apg.1,apg.2] at h
 exact h
theorem atb:aj Tryz.prog 9 [pI 3,pP (fdl []),pP (fdl [⟨1,2⟩])] (ao [pP (asl [3,5]),pI 0]):=by
 have h:=aly 3 [] [⟨1,2⟩]
 rw [apc.1,apc.2] at h
 exact h
theorem aq5:aj Tryz.prog 8 [pI 3,pP (fdl [⟨2,4⟩]),pP (fdl []),pA 7] (ao [Fd.pc ⟨2,1⟩,pB true,pI 0]):=by
 have h:=ae5 3 [⟨2,4⟩] [] 7
 rw [asj.1,asj.2] at h
 exact h
theorem aqb:aj Tryz.prog 9 [pI 3,pP (fdl [⟨2,4⟩]),pP (fdl [])] (ao [pP (asl [3,6]),pI 0]):=by
 have h:=aly 3 [⟨2,4⟩] []
 rw [apm.1,apm.2] at h
 exact h
theorem avi:aj Tryz.prog 10 [pP (asl [3,5]),pP (asl [3,5])] (ao [pB true]):=by
 have h:=aqm [3,5] [3,5]
 rw [decide_eq_true rfl] at h
 exact h
theorem avw:aj Tryz.prog 10 [pP (asl [3,6]),pP (asl [3,6])] (ao [pB true]):=by
 have h:=aqm [3,6] [3,6]
 rw [decide_eq_true rfl] at h
 exact h
theorem adj:ak Tryz.prog 4:=⟨Tryz.f4,Tryz.func4,by kernel_rfl,by kernel_rfl⟩
theorem a35  : aj Tryz.prog 4 [] (ao [pB true]):=by
 refine ai (nt:=80) ae Tryz.func4 rfl rfl l9 ?_;refine sx7 ?_;refine qy ?_;refine a6 ?_;refine sx7 ?_;refine qy ?_;refine m9 0 ?_;refine qy ?_;refine a6 ?_;refine ep 1 rfl rfl rfl ?_
 refine sx7 ?_;refine qy ?_;refine rc rfl rfl rfl rfl rfl rfl adq (asw) (⟨CoC.refl _,CoC.one a4c,CoC.one (a4y (CoP.refl _) (CoP.refl _)),CoC.refl _,trivial⟩) rfl rfl ?_;(iterate 4 refine qy ?_);refine m9 1 ?_
 refine s9 ?_;(iterate 2 refine qy ?_);refine a6 ?_;refine sx7 ?_;refine qy ?_;refine rc rfl rfl rfl rfl rfl rfl alx (atb) (⟨CoC.refl _,CoC.one a4c,CoC.one (a4y (CoP.refl _) (CoP.refl _)),trivial⟩) rfl rfl ?_
 (iterate 5 refine qy ?_);refine a6 ?_;refine a7 ?_;refine gf [0,1] [2,3,4,5,6,7,8,9,10] rfl ?_;refine gl (E:=ci) ae ?_;refine qy ?_;refine m9 2 ?_;refine a6 ?_;refine alm ?_
 refine a6h 27 rfl rfl rfl ?_;refine ad7 ?_;refine gl (E:=ci) (L1:=[2,3,4,5,6,7,8,9,10]) (L2:=[]) ae ?_
 refine rc rfl rfl rfl rfl rfl rfl adq (aq5) (⟨CoC.refl _,CoC.one (a4y (CoP.refl _) (CoP.refl _)),CoC.one a4c,CoC.refl _,trivial⟩) rfl rfl ?_;(iterate 4 refine qy ?_);refine m9 3 ?_;refine s9 ?_
 (iterate 2 refine qy ?_);refine a6 ?_;refine lm ?_;refine a7 ?_;refine gf [0,1] [2,3,4,5,6,7] rfl ?_;refine gl (E:=ci) ae ?_;refine qy ?_;refine m9 4 ?_;refine a6 ?_
 refine alm ?_;refine a6h 34 rfl rfl rfl ?_;refine ad7 ?_;refine gl (E:=ci) (L1:=[2,3,4,5,6,7]) (L2:=[]) ae ?_
 refine rc rfl rfl rfl rfl rfl rfl alx (aqb) (⟨CoC.refl _,CoC.one (a4y (CoP.refl _) (CoP.refl _)),CoC.one a4c,trivial⟩) rfl rfl ?_;(iterate 5 refine qy ?_);refine a6 ?_;refine lm ?_;refine a7 ?_
 refine dp (E:=ci) ae ct [0,1,2,3,4,5,6,7,8,9,10,11,12,13,14,15,16,17,18,19,20,21,22,23,24,25,26,27,28,29,30,31,32,33,34,35,36,37,38,39,40,41,42] ?_
 (iterate 18 refine qy ?_);refine m9 5 ?_
 refine j6 rfl rfl rfl rfl rfl rfl aih (aj.eat (hcs:=[.one (.p (asl [3,5])), .one (.ref 5 2)]) (o1:=[(5, .arr true 1 27 2 (lf sC [3,5]))]) (avi) rfl (by (repeat' apply And.intro) <;> first | trivial | rfl) (CoL.refl _)) (im.refl _) ⟨⟨_,rfl,(a9u (CoP.refl _) (CoP.refl _))⟩,trivial⟩ rfl rfl ?_
 (iterate 19 refine qy ?_);refine m9 6 ?_
 refine j6 rfl rfl rfl rfl rfl rfl aih (aj.eat (hcs:=[.one (.p (asl [3,6])), .one (.ref 6 2)]) (o1:=[(6, .arr true 1 27 2 (lf sC [3,6]))]) (avw) rfl (by (repeat' apply And.intro) <;> first | trivial | rfl) (CoL.refl _)) (im.refl _) ⟨⟨_,rfl,(a9u (CoP.refl _) (CoP.refl _))⟩,trivial⟩ rfl rfl ?_
 (iterate 2 refine qy ?_);refine a6 ?_;refine ⟨by kernel_rfl, ?_⟩
 exact hx8 rfl rfl rfl (CoL.refl _)
end Go.Hx
end
section
namespace Go.Hx
open Go.Proofs
set_option maxRecDepth 100000
theorem ai2:ak Tryz.prog 65:=⟨Tryz.f65,Tryz.func65,by kernel_rfl,by kernel_rfl⟩
theorem acr (r:Row) (s:AS) (hl:r.vals.length ≤ 68719476736):aj Tryz.prog 65 [r.pc,pA s] (ao [pP (vals (sel r.vals s))]):=by
 refine ai (nt:=26) ae Tryz.func65 rfl rfl l9 ?_;refine sx7 ?_;refine m9 0 ?_;refine qy ?_;refine a6 ?_;refine sx7 ?_;refine qy ?_;refine a6 ?_;refine a7 ?_;refine sx7 ?_;refine qy ?_
 refine a6 ?_;refine af ?_;refine jy 5 900 true 3 78 (lf Val.c []) (by decide) rfl (CoP.sl rfl (.inr rfl) (fun h=>h) (fun i j hi _=>absurd hi (Nat.not_lt_zero i))) (.inr rfl) rfl ?_
 refine aw (ι:=Nat) ⟨[(1,some _),(2,some _)],[(0,some _)]⟩ ⟨⟨c9,c9,trivial⟩,⟨u9,trivial⟩⟩ (fun i=>⟨[(5,some (.v (.one (.ref 900 (sel (r.vals.take i) s).length)))),(6,some (vI i))],[(900,some (.arr true 3 78 (sel (r.vals.take i) s).length (lf Val.c (sel (r.vals.take i) s))))]⟩) (fun i=>i ≤ r.vals.length) (fun i=>r.vals.length - i) (0) (Nat.zero_le _) ⟨⟨⟨_,rfl,(CoR.refl _)⟩,zy,trivial⟩,⟨u9,trivial⟩⟩ ?_
 rintro i hi
 have hlen:(sel (r.vals.take i) s).length ≤ i:=Nat.le_trans aod (by rw [List.length_take];omega)
 refine a7 ?_;refine sx7 ?_;(iterate 5 refine qy ?_);refine a6 ?_;refine a8 _ rfl (fun r0=>?_) (fun r0=>?_)
 ·
  have h0:=of_decide_eq_true r0
  try simp only [ty] at h0
  refine aa ?_;refine a7 ?_;refine af ?_;refine sx7 ?_;(iterate 2 refine qy ?_);refine rc rfl rfl rfl rfl rfl rfl ari (auz s i) (CoL.refl _) rfl rfl ?_;refine a6 ?_
  refine a8 _ rfl (fun r1=>?_) (fun r1=>?_)
  ·
   have h1:=r1
   have hh:dl s (i:Int) = true:=r1
   refine gy ?_;(iterate 6 refine qy ?_);refine m9 1 ?_;refine ra 2 true rfl rfl rfl rfl rfl rfl ?_;refine qy ?_;refine a6 ?_;refine gy ?_;(iterate 3 refine qy ?_);refine a6 ?_
   first | (refine ⟨i + 1, ?_, ?_, ?_⟩
            · show i + 1 ≤ _;omega
            · first | omega | (dsimp only;omega)
            · exact ⟨⟨⟨_,rfl,(dw (a86 (by omega) hh))⟩,zy,c9,c9,trivial⟩,⟨⟨_,rfl,(a0a (a86 (by omega) hh) (aq0 (CoP.refl _) (CoP.refl _) (CoP.refl _)))⟩,u9,trivial⟩⟩)
         | (refine ⟨i + 1, ?_, ?_, ?_⟩
            · show i + 1 ≤ _;omega
            · first | omega | (dsimp only;omega)
            · exact ⟨⟨⟨_,rfl,(cw (a87 (by omega) hh))⟩,zy,c9,c9,trivial⟩,⟨⟨_,rfl,(c8 (a87 (by omega) hh))⟩,u9,trivial⟩⟩)
  ·
   have h1:=r1
   have hh:dl s (i:Int) = false:=r1
   refine aa ?_;refine gy ?_;(iterate 3 refine qy ?_);refine a6 ?_
   first | (refine ⟨i + 1, ?_, ?_, ?_⟩
            · show i + 1 ≤ _;omega
            · first | omega | (dsimp only;omega)
            · exact ⟨⟨⟨_,rfl,(dw (a86 (by omega) hh))⟩,zy,c9,c9,trivial⟩,⟨⟨_,rfl,(a0a (a86 (by omega) hh) (aq0 (CoP.refl _) (CoP.refl _) (CoP.refl _)))⟩,u9,trivial⟩⟩)
         | (refine ⟨i + 1, ?_, ?_, ?_⟩
            · show i + 1 ≤ _;omega
            · first | omega | (dsimp only;omega)
            · exact ⟨⟨⟨_,rfl,(cw (a87 (by omega) hh))⟩,zy,c9,c9,trivial⟩,⟨⟨_,rfl,(c8 (a87 (by omega) hh))⟩,u9,trivial⟩⟩)
 ·
  have h0:=of_decide_eq_false r0
  try simp only [ty] at h0
  obtain rfl:i = r.vals.length:=by omega
  rw [show r.vals.take r.vals.length = r.vals from List.take_length]
  refine az ?_;refine a7 ?_;refine ep 5 rfl rfl rfl ?_;refine gy ?_;(iterate 2 refine qy ?_);refine a6 ?_
  exact hx8 rfl rfl rfl (CoL.refl _)
theorem a3q:ak Tryz.prog 36:=⟨Tryz.f36,Tryz.func36,by kernel_rfl,by kernel_rfl⟩
theorem a84 (a b:Row) (s:AS) (ha:a.ok) (hb:b.ok):aj Tryz.prog 36 [a.pc,b.pc,pA s] (ao [pB (ic a b s)]):=by
 refine ai (nt:=14) ae Tryz.func36 rfl rfl l9 ?_;refine sx7 ?_;refine m9 0 ?_;refine m9 1 ?_;refine qy ?_;refine a6 ?_;refine a7 ?_;refine dp (E:=ci) ae ct [0,1,2,3,4,5,6,7] ?_
 (iterate 2 refine qy ?_);refine rc rfl rfl rfl rfl rfl rfl ai2 (acr a s ha.1) (CoL.refl _) rfl rfl ?_;(iterate 2 refine qy ?_);refine rc rfl rfl rfl rfl rfl rfl ai2 (acr b s hb.1) (CoL.refl _) rfl rfl ?_
 refine rc rfl rfl rfl rfl rfl rfl ara (c81 (sel a.vals s) (sel b.vals s) (aia ha.2) (aia hb.2)) (CoL.refl _) rfl rfl ?_;refine qy ?_;refine a6 ?_;refine ⟨by kernel_rfl, ?_⟩
 exact hx8 rfl rfl rfl (CoL.refl _)
end Go.Hx
end
section
namespace Go.Hx
open Go.Proofs
set_option maxRecDepth 100000
set_option maxHeartbeats 1000000
theorem as2:ak Tryz.prog 37:=⟨Tryz.f37,Tryz.func37,by kernel_rfl,by kernel_rfl⟩
theorem atp (t:Tbl) (a b:Row) (s:AS) (ht:t.ok) (ha:a.ok) (hb:b.ok):aj Tryz.prog 37 [t.pc,a.pc,b.pc,pA s] (ao [pB (a4a t a b s)]):=by
 refine ai (nt:=40) ae Tryz.func37 rfl rfl l9 ?_
 have hrl:=ht.2.1
 refine sx7 ?_;refine m9 0 ?_;refine m9 1 ?_;refine m9 2 ?_;refine qy ?_;refine a6 ?_;refine a7 ?_;refine sx7 ?_;refine qy ?_;refine a6 ?_;refine af ?_
 refine aw (ι:=Nat) ⟨[(3,some _),(4,some _),(5,some _),(6,some _)],[(0,some _),(1,some _),(2,some _)]⟩ ⟨⟨c9,c9,c9,c9,trivial⟩,⟨u9,u9,u9,trivial⟩⟩ (fun i=>⟨[(9,some (vI i))],[]⟩) (fun i=>i ≤ t.rows.length ∧ (∀ j,j < i → (ic (t.rows.getD j default) a s && ic (t.rows.getD j default) b (am t.attrs.length &&& ~~~s)) = false)) (fun i=>t.rows.length - i) (0) (⟨Nat.zero_le _,dq⟩) ⟨⟨zy,trivial⟩,trivial⟩ ?_
 rintro i ⟨hi,hIi⟩
 refine a7 ?_;refine sx7 ?_;(iterate 5 refine qy ?_);refine a6 ?_;refine a8 _ rfl (fun r0=>?_) (fun r0=>?_)
 ·
  have h0:=of_decide_eq_true r0
  try simp only [ty] at h0
  refine aa ?_;refine a7 ?_;refine af ?_;refine a7 ?_;refine dp (E:=ci) ae ct [0,1,2,3,4,5,6,7,8,9,10,11,12,13,14,15,16,17,18,19,20,21,22] ?_
  (iterate 7 refine qy ?_);refine rc rfl rfl rfl rfl rfl rfl a3q (a84 (t.rows.getD i default) a s (ht.2.2 i (by omega)) ha) (CoL.refl _) rfl rfl ?_;refine qy ?_;refine bd rfl rfl (fun r1=>?_) (fun r1=>?_)
  ·
   have h1:=r1
   (iterate 9 refine qy ?_ (hg:=(gtt r1)));refine rc rfl rfl rfl rfl rfl rfl a9s (ab5 (t.attrs.length:Int)) (CoL.refl _) rfl (gtt r1) ?_;(iterate 2 refine qy ?_ (hg:=(gtt r1)))
   refine rc rfl rfl rfl rfl rfl rfl a3q (a84 (t.rows.getD i default) b (am t.attrs.length &&& ~~~s) (ht.2.2 i (by omega)) hb) (⟨CoC.refl _,CoC.refl _,cci (by first | exact jx _ _ | rfl),trivial⟩) rfl (gtt r1) ?_
   refine qy ?_;refine a6 ?_;refine ⟨by kernel_rfl, ?_⟩;refine a8 _ rfl (fun r2=>?_) (fun r2=>?_)
   ·
    have h2:=r2
    have h2:=ck r1 h2
    refine sx7 ?_;refine qy ?_;refine a6 ?_
    exact hx8 rfl rfl rfl (⟨ccb (at3 (p:=fun x:Row=>ic x a s && ic x b (am t.attrs.length &&& ~~~s)) (i:=i) (by omega) (by simp_all)).symm,trivial⟩)
   ·
    have h2:=r2
    have h2:=ck r1 h2
    refine aa ?_;refine gy ?_;(iterate 3 refine qy ?_);refine a6 ?_;refine ⟨i + 1, ?_, ?_, ?_⟩
    · exact ⟨by show i + 1 ≤ _;omega,cu hIi (by simp_all)⟩
    · first | omega | (dsimp only;omega)
    · exact ⟨⟨zy,c9,c9,c9,c9,trivial⟩,⟨u9,u9,u9,trivial⟩⟩
  ·
   have h1:=r1
   (iterate 13 refine k9 (gft r1) ?_);refine rq rfl rfl rfl rfl rfl ?_ (hp:=r1);refine a6 ?_;refine ⟨by kernel_rfl, ?_⟩;refine a8 _ rfl (fun e=>by cases e) (fun _=>?_);refine aa ?_;refine gy ?_
   (iterate 3 refine qy ?_);refine a6 ?_;refine ⟨i + 1, ?_, ?_, ?_⟩
   · exact ⟨by show i + 1 ≤ _;omega,cu hIi (by simp_all)⟩
   · first | omega | (dsimp only;omega)
   · exact ⟨⟨zy,c9,c9,c9,c9,trivial⟩,⟨u9,u9,u9,trivial⟩⟩
 ·
  have h0:=of_decide_eq_false r0
  try simp only [ty] at h0
  obtain rfl:i = t.rows.length:=by omega
  refine az ?_;refine sx7 ?_;refine qy ?_;refine a6 ?_
  exact hx8 rfl rfl rfl (⟨ccb (aul (p:=fun x:Row=>ic x a s && ic x b (am t.attrs.length &&& ~~~s)) hIi).symm,trivial⟩)
theorem a3p:ak Tryz.prog 17:=⟨Tryz.f17,Tryz.func17,by kernel_rfl,by kernel_rfl⟩
theorem ac8 (t:Tbl) (d:Fd) (ht:TOk t) (hd:sub (d.lhs ||| d.rhs) (am t.attrs.length)):aj Tryz.prog 17 [t.pc,d.pc] (ao [pB (mvB t d),pI 0]):=by
 refine ai (nt:=75) ae Tryz.func17 rfl rfl l9 ?_
 have hok:=ht.ok
 have hrl:=hok.2.1
 have htz:=ir.2 ht
 refine sx7 ?_;refine m9 0 ?_;refine m9 1 ?_;(iterate 2 refine qy ?_);refine a6 ?_;refine a7 ?_;refine sx7 ?_;refine qy ?_;refine rc rfl rfl rfl rfl rfl rfl a9c (c82 t) (CoL.refl _) rfl rfl ?_;refine qy ?_
 refine a6 ?_;refine sx7 ?_;(iterate 2 refine qy ?_);refine a6 ?_;refine a8 _ rfl (fun r0=>?_) (fun r0=>?_)
 ·
  have h0:=r0
  have h0:=of_decide_eq_false (b7 h0)
  try simp only [ty] at h0
  exfalso
  omega
 ·
  have h0:=r0
  have h0:=of_decide_eq_true (b6 h0)
  try simp only [ty] at h0
  refine aa ?_;refine sx7 ?_;(iterate 4 refine qy ?_);refine a6 ?_;refine a7 ?_;refine sx7 ?_;(iterate 6 refine qy ?_)
  refine rc rfl rfl rfl rfl rfl rfl ags (ade (t.attrs.length:Int) (d.lhs ||| d.rhs)) (⟨CoC.refl _,cci (bOr _ _),trivial⟩) rfl rfl ?_;refine qy ?_;refine a6 ?_;refine a8 _ rfl (fun r1=>?_) (fun r1=>?_)
  ·
   have h1:=r1
   have h1:=b7 h1
   exfalso
   simp_all
  ·
   have h1:=r1
   have h1:=b6 h1
   refine aa ?_;refine sx7 ?_;(iterate 6 refine qy ?_);refine a6 ?_;refine a7 ?_;refine sx7 ?_;refine qy ?_;refine a6 ?_;refine af ?_
   refine aw (ι:=Nat) ⟨[(2,some _),(3,some _),(8,some _)],[(0,some _),(1,some _)]⟩ ⟨⟨c9,c9,c9,trivial⟩,⟨u9,u9,trivial⟩⟩ (fun i=>⟨[(9,some (vI i))],[]⟩) (fun i=>i ≤ t.rows.length ∧ (∀ j,j < i → ((List.range t.rows.length).all fun k=>s6 t d j k) = true)) (fun i=>t.rows.length - i) (0) (⟨Nat.zero_le _,dq⟩) ⟨⟨zy,trivial⟩,trivial⟩ ?_
   rintro i ⟨hi,hIi⟩
   refine a7 ?_;refine sx7 ?_;(iterate 5 refine qy ?_);refine a6 ?_;refine a8 _ rfl (fun r2=>?_) (fun r2=>?_)
   ·
    have h2:=of_decide_eq_true r2
    try simp only [ty] at h2
    refine aa ?_;refine a7 ?_;refine af ?_;refine sx7 ?_;refine qy ?_;refine a6 ?_;refine af ?_
    refine aw (ι:=Nat) ⟨[(2,some _),(3,some _),(8,some _),(9,some _)],[(0,some _),(1,some _)]⟩ ⟨⟨c9,c9,c9,c9,trivial⟩,⟨u9,u9,trivial⟩⟩ (fun k=>⟨[(10,some (vI k))],[]⟩) (fun k=>k ≤ t.rows.length ∧ (∀ j,j < k → s6 t d i j = true)) (fun k=>t.rows.length - k) (0) (⟨Nat.zero_le _,dq⟩) ⟨⟨zy,trivial⟩,trivial⟩ ?_
    rintro k ⟨hk,hIk⟩
    refine a7 ?_;refine sx7 ?_;(iterate 5 refine qy ?_);refine a6 ?_;refine a8 _ rfl (fun r3=>?_) (fun r3=>?_)
    ·
     have h3:=of_decide_eq_true r3
     try simp only [ty] at h3
     refine aa ?_;refine a7 ?_;refine af ?_;refine a7 ?_
     refine dp (E:=ci) ae ct [0,1,2,3,4,5,6,7,8,9,10,11,12,13,14,15,16,17,18,19,20,21,22,23,24,25,26,27,28] ?_;(iterate 12 refine qy ?_)
     refine rc rfl rfl rfl rfl rfl rfl a3q (a84 (t.rows.getD i default) (t.rows.getD k default) d.lhs (hok.2.2 i (by omega)) (hok.2.2 k (by omega))) (CoL.refl _) rfl rfl ?_;refine qy ?_
     refine bd rfl rfl (fun r4=>?_) (fun r4=>?_)
     ·
      have h4:=r4
      (iterate 12 refine qy ?_ (hg:=(gtt r4)))
      refine rc rfl rfl rfl rfl rfl rfl as2 (atp t (t.rows.getD i default) (t.rows.getD k default) (d.lhs ||| d.rhs) hok (hok.2.2 i (by omega)) (hok.2.2 k (by omega))) (⟨CoC.refl _,CoC.refl _,CoC.refl _,cci (bOr _ _),trivial⟩) rfl (gtt r4) ?_
      refine qy ?_ (hg:=(gtt r4));refine qy ?_;refine a6 ?_;refine ⟨by kernel_rfl, ?_⟩;refine a8 _ rfl (fun r5=>?_) (fun r5=>?_)
      ·
       have h5:=r5
       have h5:=ck r4 h5
       have h5:=b7 h5
       refine sx7 ?_;(iterate 2 refine qy ?_);refine a6 ?_
       exact hx8 rfl rfl rfl (⟨ccb (j3 (p:=fun i=>(List.range t.rows.length).all fun k=>s6 t d i k) (i:=i) (by omega) (j3 (p:=fun k=>s6 t d i k) (i:=k) (by omega) (by unfold s6;simp_all))).symm,CoC.refl _,trivial⟩)
      ·
       have h5:=r5
       have h5:=ck r4 h5
       have h5:=b6 h5
       refine aa ?_;refine gy ?_;(iterate 3 refine qy ?_);refine a6 ?_;refine ⟨k + 1, ?_, ?_, ?_⟩
       · exact ⟨by show k + 1 ≤ _;omega,cu hIk (by unfold s6;simp_all)⟩
       · first | omega | (dsimp only;omega)
       · exact ⟨⟨zy,c9,c9,c9,c9,trivial⟩,⟨u9,u9,trivial⟩⟩
     ·
      have h4:=r4
      (iterate 14 refine k9 (gft r4) ?_);refine rq rfl rfl rfl rfl rfl ?_ (hp:=r4);refine a6 ?_;refine ⟨by kernel_rfl, ?_⟩;refine a8 _ rfl (fun e=>by cases e) (fun _=>?_);refine aa ?_;refine gy ?_
      (iterate 3 refine qy ?_);refine a6 ?_;refine ⟨k + 1, ?_, ?_, ?_⟩
      · exact ⟨by show k + 1 ≤ _;omega,cu hIk (by unfold s6;simp_all)⟩
      · first | omega | (dsimp only;omega)
      · exact ⟨⟨zy,c9,c9,c9,c9,trivial⟩,⟨u9,u9,trivial⟩⟩
    ·
     have h3:=of_decide_eq_false r3
     try simp only [ty] at h3
     obtain rfl:k = t.rows.length:=by omega
     refine az ?_;refine gy ?_;(iterate 3 refine qy ?_);refine a6 ?_;refine ⟨i + 1, ?_, ?_, ?_⟩
     · exact ⟨by show i + 1 ≤ _;omega,cu hIi (ly hIk)⟩
     · first | omega | (dsimp only;omega)
     · exact ⟨⟨zy,c9,c9,c9,trivial⟩,⟨u9,u9,trivial⟩⟩
   ·
    have h2:=of_decide_eq_false r2
    try simp only [ty] at h2
    obtain rfl:i = t.rows.length:=by omega
    refine az ?_;refine sx7 ?_;(iterate 2 refine qy ?_);refine a6 ?_
    exact hx8 rfl rfl rfl (⟨ccb (ly (p:=fun i=>(List.range t.rows.length).all fun k=>s6 t d i k) hIi).symm,CoC.refl _,trivial⟩)
end Go.Hx
end
section
namespace Go.Hx
open Go.Proofs
set_option maxRecDepth 100000
theorem ar1:ak Tryz.prog 15:=⟨Tryz.f15,Tryz.func15,by kernel_rfl,by kernel_rfl⟩
theorem aty (x r:Row) (s:AS) (ha:∀ z,s.getLsbD z = true → z < x.vals.length) (hb:∀ z,s.getLsbD z = true → z < r.vals.length):aj Tryz.prog 15 [x.pc,pP (rvp r),pP (bx (asC s))] (ao [pB (a31 r s x)]):=by
 refine ai (nt:=16) ae Tryz.func15 rfl rfl l9 ?_;refine sx7 ?_;refine m9 0 ?_;refine qy ?_;refine a6 ?_;refine sx7 ?_;(iterate 6 refine qy ?_);refine bd rfl rfl (fun r0=>?_) (fun r0=>?_)
 ·
  have h0:=r0
  have h0:=of_decide_eq_false (b7 h0)
  try simp only [ty] at h0
  (iterate 3 refine qy ?_ (hg:=(gtt r0)));refine rc rfl rfl rfl rfl rfl rfl apa (aub x r s ha hb) (CoL.refl _) rfl (gtt r0) ?_;(iterate 2 refine qy ?_);refine a6 ?_
  exact hx8 rfl rfl rfl (⟨ccb (by unfold a31;first | rfl | simp_all),trivial⟩)
 ·
  have h0:=r0
  have h0:=of_decide_eq_true (b6 h0)
  try simp only [ty] at h0
  (iterate 4 refine k9 (gft r0) ?_);refine rq rfl rfl rfl rfl rfl ?_ (hp:=r0);refine qy ?_;refine a6 ?_
  exact hx8 rfl rfl rfl (⟨ccb (by unfold a31;first | rfl | simp_all),trivial⟩)
theorem agy:ak Tryz.prog 13:=⟨Tryz.f13,Tryz.func13,by kernel_rfl,by kernel_rfl⟩
theorem ame (s:AS) (t:Tbl) (r:Row) (hs:∀ i,i < t.rows.length → ∀ z,s.getLsbD z = true → z < (t.rows.getD i default).vals.length) (hb:∀ z,s.getLsbD z = true → z < r.vals.length):aj Tryz.prog 13 [pA s,pP (tvp t),pP (rvp r)] (ao [pB (a8z t.rows r s)]):=by
 refine ai (nt:=9) ae Tryz.func13 rfl rfl l9 ?_;refine sx7 ?_;refine m9 0 ?_;refine qy ?_;refine a6 ?_;refine ez 3 rfl rfl rfl ?_;refine sx7 ?_;(iterate 3 refine qy ?_)
 refine rc rfl rfl rfl rfl rfl rfl aqs (asv t.rows 15 2 (fun i=>[rvp r,bx (asC s)].getD i .any) (a31 r s) ar1 (fun i hi=>aty _ r s (hs i hi) hb)) (CoL.refl _) rfl rfl ?_;refine qy ?_;refine a6 ?_
 exact hx8 rfl rfl rfl (CoL.refl _)
theorem auq:ak Tryz.prog 5:=⟨Tryz.f5,Tryz.func5,by kernel_rfl,by kernel_rfl⟩
theorem asx (t:Tbl) (d:Fd) (hT:TOk t) (hd:sub (d.lhs ||| d.rhs) (am ((t.attrs.length:Nat):Int))) (hmv:mvB t d = true) (hcm:ab2 t d = mvB t d):aj Tryz.prog 5 [t.pc,d.pc] (ao [pP (zl (oi t d)),pI (ja t d)]):=by
 refine ai (nt:=81) ae Tryz.func5 rfl rfl l9 ?_
 have hok:=hT.ok
 have htz:=ir.2 hT
 have hn:=hT.na
 have hnr:=hT.nr
 have h0z:(0:Int) ≤ ((t.attrs.length:Nat):Int):=by omega
 have h1z:((t.attrs.length:Nat):Int) ≤ 16:=by omega
 have hq1s:sub (d.lhs ||| d.rhs) (am ((t.attrs.length:Nat):Int)):=hd
 have hq2s:sub (d.lhs ||| (am ((t.attrs.length:Nat):Int) &&& ~~~d.rhs)) (am ((t.attrs.length:Nat):Int)):=bf.2 fun z hz hb=>by
  rw [BitVec.getLsbD_or,Bool.or_eq_true] at hb
  rcases hb with hb | hb
  · exact bf.1 hd z hz (by rw [BitVec.getLsbD_or,hb,Bool.true_or])
  · rw [j5 hz,Bool.and_eq_true] at hb
    exact hb.1
 have hq1:∀ i,i < t.rows.length → ∀ z,(d.lhs ||| d.rhs).getLsbD z = true → z < (t.rows.getD i default).vals.length:=fun i hi z hz=>by
  rw [hT.width hi]
  exact s7 hn hq1s z hz
 have hq2:∀ i,i < t.rows.length → ∀ z,(d.lhs ||| (am ((t.attrs.length:Nat):Int) &&& ~~~d.rhs)).getLsbD z = true → z < (t.rows.getD i default).vals.length:=fun i hi z hz=>by
  rw [hT.width hi]
  exact s7 hn hq2s z hz
 refine sx7 ?_;refine m9 0 ?_;refine m9 1 ?_;(iterate 2 refine qy ?_);refine a6 ?_;refine a7 ?_;refine sx7 ?_;refine qy ?_;refine rc rfl rfl rfl rfl rfl rfl zr (c88 t) (CoL.refl _) rfl rfl ?_;refine qy ?_
 refine a6 ?_;refine sx7 ?_;(iterate 2 refine qy ?_);refine a6 ?_;refine a8 _ rfl (fun r0=>?_) (fun r0=>?_)
 ·
  have h0:=r0
  have h0:=of_decide_eq_false (b7 h0)
  try simp only [ty] at h0
  exfalso
  omega
 ·
  have h0:=r0
  have h0:=of_decide_eq_true (b6 h0)
  try simp only [ty] at h0
  refine aa ?_;refine sx7 ?_;(iterate 4 refine qy ?_);refine a6 ?_;refine a7 ?_;refine sx7 ?_;(iterate 8 refine qy ?_);refine a6 ?_;refine a8 _ rfl (fun r1=>?_) (fun r1=>?_)
  ·
   have h1:=r1
   have h1:=of_decide_eq_false (b7 h1)
   try simp only [ty] at h1
   exact absurd (ng.2 ((vd (n:=((t.attrs.length:Nat):Int)) (by omega) (by omega)).2 ⟨a14 hd,bf.2 fun z hz hb=>bf.1 hd z hz (by rw [BitVec.getLsbD_or,hb,Bool.or_true])⟩)) h1
  ·
   have h1:=r1
   have h1:=of_decide_eq_true (b6 h1)
   try simp only [ty] at h1
   refine aa ?_;refine a7 ?_;refine sx7 ?_;(iterate 2 refine qy ?_);refine rc rfl rfl rfl rfl rfl rfl ah7 (acb t d hT hd) (CoL.refl _) rfl rfl ?_;(iterate 5 refine qy ?_);refine a6 ?_;refine sx7 ?_
   (iterate 6 refine qy ?_);refine a6 ?_;refine a8 _ rfl (fun r2=>?_) (fun r2=>?_)
   ·
    have h2:=r2
    have h2:=b7 h2
    exfalso
    simp_all
   ·
    have h2:=r2
    have h2:=b6 h2
    refine aa ?_;refine a7 ?_;refine dp (E:=ci) ae ct [0,1,2,3,4,5,6,7,8,9,10,11,12,13,14,15] ?_;(iterate 9 refine qy ?_)
    refine rq rfl rfl rfl rfl rfl ?_ (hp:=⟨xa h0z h1z,tk h0z h1z⟩);(iterate 6 refine qy ?_);refine a6 ?_;refine ⟨by kernel_rfl, ?_⟩;refine a7 ?_;refine ez 2 rfl rfl rfl ?_;refine gy ?_
    refine qy ?_;refine a6 ?_;refine a7 ?_;refine sx7 ?_;(iterate 4 refine qy ?_);refine a6 ?_;refine af ?_
    refine jy 12 900 true 1 2 (lf zC []) (by decide) rfl (CoP.sl rfl (.inr rfl) (fun h=>h) (fun i j hi _=>absurd hi (Nat.not_lt_zero i))) (.inr rfl) rfl ?_
    refine aw (ι:=Nat) ⟨[(2,some _),(59,some _),(60,some _)],[]⟩ ⟨⟨c9,c9,c9,trivial⟩,trivial⟩ (fun i=>⟨[(12,some (.v (.one (.ref 900 (kg t.attrs.length t.rows d i).length)))),(61,some (vI i)),(10,some (vA (d.lhs ||| d.rhs))),(11,some (vA (d.lhs ||| (am ((t.attrs.length:Nat):Int) &&& ~~~d.rhs))))],[(900,some (.arr true 1 2 (kg t.attrs.length t.rows d i).length (lf zC (kg t.attrs.length t.rows d i))))]⟩) (fun i=>i ≤ t.rows.length) (fun i=>t.rows.length - i) (0) (Nat.zero_le _) ⟨⟨⟨_,rfl,(CoR.refl _)⟩,⟨_,rfl,(CoR.refl _)⟩,⟨_,rfl,(j9 (bOr _ _))⟩,⟨_,rfl,(j9 (by show d8 .or .u32 _ (d8 .andNot .u32 (IntKind.wrap .u32 (1 * 2 ^ (min (((t.attrs.length:Nat):Int)).toNat 32)) - 1) _) = _;rw [w4 h0z h1z,jx,bOr]))⟩,trivial⟩,⟨u9,trivial⟩⟩ ?_
    rintro i hi
    have hlen:(kg t.attrs.length t.rows d i).length ≤ i:=a9w
    refine sx7 ?_;refine qy ?_;refine a6 ?_;refine a7 ?_;refine a8 _ rfl (fun r3=>?_) (fun r3=>?_)
    ·
     have h3:=of_decide_eq_true r3
     try simp only [ty] at h3
     have hir:i < t.rows.length:=by omega
     refine aa ?_;refine a7 ?_;refine af ?_;refine sx7 ?_;(iterate 2 refine qy ?_);refine m9 2 ?_;refine s9 ?_;refine a6 ?_;refine ez 14 rfl rfl rfl ?_;refine sx7 ?_
     (iterate 2 refine qy ?_);refine a6 ?_;refine sx7 ?_;(iterate 2 refine qy ?_);refine rc rfl rfl rfl rfl rfl rfl agy (ame (d.lhs ||| d.rhs) t (t.rows.getD i default) hq1 (hq1 i hir)) (CoL.refl _) rfl rfl ?_
     refine qy ?_;refine bd rfl rfl (fun r4=>?_) (fun r4=>?_)
     ·
      have h4:=r4
      (iterate 2 refine qy ?_ (hg:=(gtt r4)))
      refine rc rfl rfl rfl rfl rfl rfl agy (ame (d.lhs ||| (am ((t.attrs.length:Nat):Int) &&& ~~~d.rhs)) t (t.rows.getD i default) hq2 (hq2 i hir)) (CoL.refl _) rfl (gtt r4) ?_;refine qy ?_;refine a6 ?_
      refine a8 _ rfl (fun r5=>?_) (fun r5=>?_)
      ·
       have h5:=r5
       have h5:=ck r4 h5
       have hq:o5 t.attrs.length t.rows d i = true:=by rw [aek hT hir hd];simp_all
       refine gy ?_;(iterate 3 refine qy ?_);refine m9 3 ?_;refine ra 4 true rfl rfl rfl rfl rfl rfl ?_;refine qy ?_;refine a6 ?_;refine gy ?_;(iterate 2 refine qy ?_);refine a6 ?_
       first | (refine ⟨i + 1, ?_, ?_, ?_⟩
                · show i + 1 ≤ _;omega
                · first | omega | (dsimp only;omega)
                · exact ⟨⟨⟨_,rfl,(dw (ka hq))⟩,zy,zy,zy,c9,c9,c9,trivial⟩,⟨⟨_,rfl,(ec (ka hq) (CoP.refl _))⟩,trivial⟩⟩)
             | (refine ⟨i + 1, ?_, ?_, ?_⟩
                · show i + 1 ≤ _;omega
                · first | omega | (dsimp only;omega)
                · exact ⟨⟨⟨_,rfl,(cw (kb hq))⟩,zy,zy,zy,c9,c9,c9,trivial⟩,⟨⟨_,rfl,(c8 (kb hq))⟩,trivial⟩⟩)
      ·
       have h5:=r5
       have h5:=ck r4 h5
       have hq:o5 t.attrs.length t.rows d i = false:=by rw [aek hT hir hd];simp_all
       refine aa ?_;refine gy ?_;(iterate 2 refine qy ?_);refine a6 ?_
       first | (refine ⟨i + 1, ?_, ?_, ?_⟩
                · show i + 1 ≤ _;omega
                · first | omega | (dsimp only;omega)
                · exact ⟨⟨⟨_,rfl,(dw (ka hq))⟩,zy,zy,zy,c9,c9,c9,trivial⟩,⟨⟨_,rfl,(ec (ka hq) (CoP.refl _))⟩,trivial⟩⟩)
             | (refine ⟨i + 1, ?_, ?_, ?_⟩
                · show i + 1 ≤ _;omega
                · first | omega | (dsimp only;omega)
                · exact ⟨⟨⟨_,rfl,(cw (kb hq))⟩,zy,zy,zy,c9,c9,c9,trivial⟩,⟨⟨_,rfl,(c8 (kb hq))⟩,trivial⟩⟩)
     ·
      have h4:=r4
      have hq:o5 t.attrs.length t.rows d i = false:=by rw [aek hT hir hd];simp_all
      (iterate 3 refine k9 (gft r4) ?_);refine rq rfl rfl rfl rfl rfl ?_ (hp:=r4);refine a6 ?_;refine a8 _ rfl (fun e=>by cases e) (fun _=>?_);refine aa ?_;refine gy ?_;(iterate 2 refine qy ?_)
      refine a6 ?_
      first | (refine ⟨i + 1, ?_, ?_, ?_⟩
               · show i + 1 ≤ _;omega
               · first | omega | (dsimp only;omega)
               · exact ⟨⟨⟨_,rfl,(dw (ka hq))⟩,zy,zy,zy,c9,c9,c9,trivial⟩,⟨⟨_,rfl,(ec (ka hq) (CoP.refl _))⟩,trivial⟩⟩)
            | (refine ⟨i + 1, ?_, ?_, ?_⟩
               · show i + 1 ≤ _;omega
               · first | omega | (dsimp only;omega)
               · exact ⟨⟨⟨_,rfl,(cw (kb hq))⟩,zy,zy,zy,c9,c9,c9,trivial⟩,⟨⟨_,rfl,(c8 (kb hq))⟩,trivial⟩⟩)
    ·
     have h3:=of_decide_eq_false r3
     try simp only [ty] at h3
     obtain rfl:i = t.rows.length:=by omega
     refine az ?_;refine a7 ?_;refine ep 12 rfl rfl rfl ?_;refine gy ?_;(iterate 3 refine qy ?_);refine a6 ?_;refine df ?_;refine ⟨.inr rfl, ?_⟩
     have he:=ah4 htz hd hmv
     exact f9 rfl rfl ((by rw [he,afl he];exact CoL.refl _))
end Go.Hx
end

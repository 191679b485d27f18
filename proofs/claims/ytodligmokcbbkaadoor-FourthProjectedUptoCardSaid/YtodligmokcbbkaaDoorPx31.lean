/- A part of the proof: Jrw3 Fqw1 Y12 Jp4. -/
import Derived.Test.YtodligmokcbbkaaDoorPx16
import Derived.Test.YtodligmokcbbkaaDoorPx20
import Derived.Test.YtodligmokcbbkaaDoorPx23
import Derived.Test.YtodligmokcbbkaaDoorPx24
import Derived.Test.YtodligmokcbbkaaDoorPx28
import Derived.Test.YtodligmokcbbkaaDoorPx29
import Derived.Test.YtodligmokcbbkaaDoorPx30
set_option linter.all false
section
namespace Go.Hx
open Go.Proofs
set_option maxRecDepth 100000
def a1n (x:gm) (n:Int):Bool:=decide (¬ (x.rows.length:Int) > n)
def a9p (x:gm) (n:Nat):Tbl:=if x.rows.length > n then T0 else ae x (x.attrs.toNat % 6)
theorem aoy:am Tryd.prog 14:=⟨Tryd.f14,Tryd.func14,by kernel_rfl,by kernel_rfl⟩
theorem c36 (x:gm) (n:Nat) (hn:n ≤ 8) (hx:x.rows.length ≤ 68719476736):ao Tryd.prog 14 [x.pc,pI n] (ay [(ae x n).pc]):=by
 refine ak (nt:=67) ai Tryd.func14 rfl rfl l9 ?_;refine sx7 ?_;refine m9 0 ?_;refine m9 1 ?_;refine a6 ?_;refine sx7 ?_;refine m9 2 ?_;refine m9 3 ?_;refine qy ?_;refine ai5 rfl rfl rfl rfl rfl ?_
 refine ra 4 true rfl rfl rfl rfl rfl rfl ?_;refine qy ?_;refine m9 5 ?_;refine s9 ?_;refine a6 ?_;refine kg 5 1 rfl rfl rfl rfl rfl ?_;refine a7 ?_;refine sx7 ?_;refine qy ?_;refine a6 ?_
 refine ah ?_;refine lh 5 2 100 true 2 67 (lf Row.c (i9 x n)) (by decide) rfl rfl (CoP.sl rfl (.inr rfl) (fun h=>h) (fun i j hi _=>absurd hi (Nat.not_lt_zero i))) (.inr rfl) rfl rfl ?_
 refine b4 (ι:=Nat) ⟨[(1,some _),(2,some _),(4,some _),(5,some _)],[(0,some _),(1,some _)]⟩ ⟨⟨c9,c9,c9,c9,trivial⟩,⟨u9,u9,trivial⟩⟩ (fun i=>⟨[(6,some (vI i))],[(5,some (.box [.p (.raw (.string ⟨#[114]⟩)), .p (a4x (j4.take n)), .ref 100 i])),(100,some (.arr true 2 67 i (lf Row.c (i9 x n))))]⟩) (fun i=>i ≤ x.rows.length) (fun i=>x.rows.length - i) (0) (Nat.zero_le _) ⟨⟨zy,trivial⟩,⟨⟨_,rfl,⟨CoH.refl _,ast hn,CoH.refl _,trivial⟩⟩,u9,trivial⟩⟩ ?_
 rintro i hi
 refine a7 ?_;refine sx7 ?_;(iterate 5 refine qy ?_);refine a6 ?_;refine a8 _ rfl (fun r0=>?_) (fun r0=>?_)
 ·
  have h0:=of_decide_eq_true r0
  try simp only [ty] at h0
  refine aa ?_;refine a7 ?_;refine ah ?_;refine a7 ?_
  have hgl:=amh (g:=x.gap) (i:=i)
  refine gy ?_;(iterate 9 refine qy ?_);refine m9 6 ?_;refine s9 ?_;refine a6 ?_;refine a7 ?_;refine sx7 ?_;refine qy ?_;refine a6 ?_;refine ah ?_
  refine lh 6 1 101 true 3 80 (lf Val.c (jx (x.rows.getD i default) n)) (by decide) rfl rfl (CoP.sl rfl (.inr rfl) (fun h=>h) (fun i j hi _=>absurd hi (Nat.not_lt_zero i))) (.inr rfl) rfl rfl ?_
  refine b4 (ι:=Nat) ⟨[(1,some _),(2,some _),(4,some _),(5,some _),(6,some _),(7,some _)],[(5,some _),(100,some _),(0,some _),(1,some _)]⟩ ⟨⟨c9,c9,c9,c9,c9,c9,trivial⟩,⟨u9,u9,u9,u9,trivial⟩⟩ (fun k=>⟨[(8,some (vI k))],[(6,some (.box [.p (.raw (.int .i64 (1 + (i:Int) * (1 + (x.gap.toNat:Int) % 3)))), .ref 101 k])),(101,some (.arr true 3 80 k (lf Val.c (jx (x.rows.getD i default) n))))]⟩) (fun k=>k ≤ n) (fun k=>n - k) (0) (Nat.zero_le _) ⟨⟨zy,trivial⟩,⟨u9,u9,trivial⟩⟩ ?_
  rintro k hk
  refine a7 ?_;refine sx7 ?_;(iterate 3 refine qy ?_);refine a6 ?_;refine a8 _ rfl (fun r1=>?_) (fun r1=>?_)
  ·
   have h1:=of_decide_eq_true r1
   try simp only [ty] at h1
   refine aa ?_;refine a7 ?_;refine ah ?_;refine sx7 ?_;refine qy ?_;refine a6 ?_
   refine dx (ι:=Unit) ⟨[(1,some _),(2,some _),(4,some _),(5,some _),(6,some _),(7,some _),(8,some _)],[(6,some _),(101,some _),(5,some _),(100,some _),(0,some _),(1,some _)]⟩ ⟨⟨c9,c9,c9,c9,c9,c9,c9,trivial⟩,⟨u9,u9,u9,u9,u9,u9,trivial⟩⟩ (fun _i=>⟨[(9,some (.v (.one (.p (.raw (.int .u8 ((((x.rows.getD i default).getD k default).toNat:Nat):Int)))))))],[]⟩) (fun _i=>True) ?_ ?_
   ·
    refine a7 ?_;refine aps 0 2 rfl rfl (fun hb=>?_);refine gy ?_;(iterate 8 refine qy ?_);refine a6 ?_;refine a8 _ rfl (fun r2=>?_) (fun r2=>?_)
    ·
     have h2:=of_decide_eq_true r2
     try simp only [ty] at h2
     refine gy ?_;(iterate 9 refine qy ?_);refine a6 ?_;refine ⟨(), ?_, ?_⟩
     · trivial
     · exact ⟨⟨⟨_,rfl,(by first | exact CoR.refl _ | exact CoR.of_eq (by rw [a4f (by omega)];rfl))⟩,c9,c9,c9,c9,c9,c9,c9,trivial⟩,⟨u9,u9,u9,u9,u9,u9,trivial⟩⟩
    ·
     have h2:=of_decide_eq_false r2
     try simp only [ty] at h2
     refine aa ?_;refine ⟨(), ?_, ?_⟩
     · trivial
     · exact ⟨⟨⟨_,rfl,(by first | exact CoR.refl _ | exact CoR.of_eq (by rw [a4f (by omega)];rfl))⟩,c9,c9,c9,c9,c9,c9,c9,trivial⟩,⟨u9,u9,u9,u9,u9,u9,trivial⟩⟩
   · rintro _ _
     refine cw (E:=d6) ai bw [0,1,2,3,4,5,6,7] ?_;(iterate 3 refine qy ?_)
     refine rc rfl rfl rfl rfl rfl rfl ane (c49 ((((x.rows.getD i default).getD k default).toNat:Nat):Int) (by omega)) (CoL.refl _) rfl rfl ?_;refine m9 7 ?_;refine ra 8 true rfl rfl rfl rfl rfl rfl ?_;refine qy ?_
     refine s9 ?_;refine a6 ?_;refine ⟨by kernel_rfl, ?_⟩;refine gy ?_;(iterate 3 refine qy ?_);refine a6 ?_;refine ⟨k + 1, ?_, ?_, ?_⟩
     · show k + 1 ≤ _
       omega
     · first | omega | (dsimp only;omega)
     · exact ⟨⟨zy,c9,c9,c9,c9,c9,c9,trivial⟩,⟨u9,⟨_,rfl,(abb (fun h=>h) (by first | (intro j hj;rw [afu (by omega)];revert j;exact lt3 (CoP.refl _) (CoP.refl _) (CoP.refl _)) | (intro j hj;rw [afu (by omega),a4f (by omega)];revert j;exact lt3 (CoP.refl _) (CoP.refl _) (CoP.refl _))))⟩,u9,u9,u9,u9,trivial⟩⟩
  ·
   have h1:=of_decide_eq_false r1
   try simp only [ty] at h1
   obtain rfl:k = n:=by omega
   refine az ?_;refine kg 6 1 rfl rfl rfl rfl rfl ?_;refine gy ?_;(iterate 3 refine qy ?_);refine m9 9 ?_;refine ra 10 true rfl rfl rfl rfl rfl rfl ?_;refine qy ?_;refine s9 ?_;refine a6 ?_
   refine gy ?_;(iterate 3 refine qy ?_);refine a6 ?_;refine ⟨i + 1, ?_, ?_, ?_⟩
   · show i + 1 ≤ _
     omega
   · first | omega | (dsimp only;omega)
   · exact ⟨⟨zy,c9,c9,c9,c9,trivial⟩,⟨u9,⟨_,rfl,(abb (fun h=>h) (by intro j hj;rw [anw (by omega)];revert j;exact lt2 (CoP.refl _) (CoP.sl aga (.inl rfl) (fun h=>h) (fun _ _ _ _=>CoP.refl _))))⟩,u9,u9,trivial⟩⟩
 ·
  have h0:=of_decide_eq_false r0
  try simp only [ty] at h0
  obtain rfl:i = x.rows.length:=by omega
  refine az ?_;refine sx7 ?_;refine qy ?_;refine s9 ?_;refine a6 ?_
  exact hx8 rfl rfl rfl (⟨CoC.agg ⟨CoP.refl _,CoP.refl _,CoP.sl afd (.inl rfl) (fun h=>h) (fun _ _ _ _=>CoP.refl _),trivial⟩,trivial⟩)
theorem ajj:am Tryd.prog 4:=⟨Tryd.f4,Tryd.func4,by kernel_rfl,by kernel_rfl⟩
theorem ajq (x:gm) (n:Nat) (hx:x.rows.length ≤ 68719476736):ao Tryd.prog 4 [x.pc,pI n] (ay [(a9p x n).pc,pB (a1n x n)]):=by
 refine ak (nt:=18) ai Tryd.func4 rfl rfl l9 ?_;refine sx7 ?_;refine m9 0 ?_;refine m9 1 ?_;refine qy ?_;refine a6 ?_;refine a7 ?_;refine sx7 ?_;(iterate 5 refine qy ?_);refine a6 ?_
 refine a8 _ rfl (fun r0=>?_) (fun r0=>?_)
 ·
  have h0:=of_decide_eq_true r0
  try simp only [ty] at h0
  refine sx7 ?_;refine qy ?_;refine s9 ?_;refine qy ?_;refine a6 ?_
  exact hx8 rfl rfl rfl (⟨by rw [show a9p x n = T0 from if_pos (by omega)];exact CoC.agg ⟨CoP.refl _,CoP.sl rfl (.inr rfl) (fun _=>rfl) (fun i j hi _=>absurd hi (Nat.not_lt_zero i)),CoP.sl rfl (.inr rfl) (fun _=>rfl) (fun i j hi _=>absurd hi (Nat.not_lt_zero i)),trivial⟩,ccb (by unfold a1n;simp;omega),trivial⟩)
 ·
  have h0:=of_decide_eq_false r0
  try simp only [ty] at h0
  refine aa ?_;refine sx7 ?_;(iterate 5 refine qy ?_)
  refine rc rfl rfl rfl rfl rfl rfl aoy (c36 x (x.attrs.toNat % 6) (by omega) (by first | exact hx | omega | assumption)) (⟨CoC.refl _,cci (by omega),trivial⟩) rfl rfl ?_;refine s9 ?_;refine qy ?_;refine a6 ?_
  exact hx8 rfl rfl rfl (⟨CoC.of_eq (by rw [show a9p x n = ae x (x.attrs.toNat % 6) from if_neg (by omega)]),ccb (by unfold a1n;simp;omega),trivial⟩)
end Go.Hx
end
section
namespace Go.Hx
open Go.Proofs
set_option maxRecDepth 100000
theorem a3a {s:AS} {l:List ByteArray} {i:Nat} (h:al s (i:Int) = true):kn s l (i + 1) = kn s l i ++ [l.getD i default]:=by
 unfold kn
 rw [sd h,List.map_append]
 rfl
theorem a3m {s:AS} {l:List ByteArray} {i:Nat} (h:al s (i:Int) = false):kn s l (i + 1) = kn s l i:=by
 unfold kn
 rw [s8 h]
theorem aej {s:AS} {R:List Row} {i:Nat} (hS:jd R) (hi:i ≤ R.length) (h:qd R):qd (prR s R i) ∧ (prR s R i).length ≤ i:=by
 obtain ⟨h1,_,_,h4⟩:=qq (s:=s) hS i hi
 refine ⟨fun j hj=>?_,h4⟩
 rw [c7 _ _ hj]
 obtain ⟨k,hk,_,e⟩:=h1 _ (List.getElem_mem hj)
 have ho:=h k (by omega)
 refine ⟨?_, ?_⟩
 · rw [e];exact Nat.le_trans abf ho.1
 · rw [e];exact a34 ho.2
theorem ahv (l:List Row) (v:List Val) (hl:qd l) (hv:kz v):j2 Tryd.prog 26 [.one (.ref 1000 l.length), .one (.p (vals v))] [(1000, .arr true 2 67 l.length (lf Row.c l))] (.v (.one (.p (.raw (.bool (sb l v)))))) [(1000, .arr true 2 67 l.length (lf Row.c l))] [1000]:=by
 refine ur (nt:=19) ai Tryd.func26 rfl rfl l9 rfl ?_;refine a7 ?_
 refine abx 1000 rfl fun hlen=>?_
 refine gy ?_;refine qy ?_;refine a6 ?_;refine a7 ?_;refine sx7 ?_;refine qy ?_;refine a6 ?_;refine ah ?_
 refine b4 (ι:=Nat) ⟨[(0,some _),(1,some _)],[(1000,some _)]⟩ ⟨⟨c9,c9,trivial⟩,⟨u9,trivial⟩⟩ (fun i=>⟨[(5,some (vI i))],[]⟩) (fun i=>i ≤ l.length ∧ (∀ j,j < i → decide ((l.getD j default).vals = v) = false)) (fun i=>l.length - i) (0) (⟨Nat.zero_le _,en⟩) ⟨⟨zy,trivial⟩,trivial⟩ ?_
 rintro i ⟨hi,hIi⟩
 refine a7 ?_;refine sx7 ?_;(iterate 4 refine qy ?_);refine a6 ?_;refine a8 _ rfl (fun r0=>?_) (fun r0=>?_)
 ·
  have h0:=of_decide_eq_true r0
  try simp only [ty] at h0
  refine aa ?_;refine a7 ?_;refine ah ?_;refine sx7 ?_;(iterate 6 refine qy ?_);refine rc rfl rfl rfl rfl rfl rfl agd (c81 (l.getD i default).vals v (hl i (by omega)).2 hv) (CoL.refl _) rfl rfl ?_
  refine a6 ?_;refine a8 _ rfl (fun r1=>?_) (fun r1=>?_)
  ·
   have h1:=r1
   refine sx7 ?_;refine qy ?_;refine a6 ?_;refine fh ?_;refine ⟨.inr rfl, ?_⟩
   exact ⟨_,_,rfl,(by (repeat' apply And.intro) <;> first | trivial | exact Nat.le_of_ble_eq_true rfl),(by show CoP (.raw (.bool _)) (.raw (.bool _));exact CoP.of_eq (congrArg (fun z=>PV.raw (.bool z)) (ajc (p:=fun r:Row=>decide (r.vals = v)) (i:=i) (by omega) (by assumption)).symm)),⟨u9,trivial⟩⟩
  ·
   have h1:=r1
   refine aa ?_;refine gy ?_;(iterate 3 refine qy ?_);refine a6 ?_;refine ⟨i + 1, ?_, ?_, ?_⟩
   · exact ⟨by show i + 1 ≤ _;omega,d9 hIi (by assumption)⟩
   · first | omega | (dsimp only;omega)
   · exact ⟨⟨zy,c9,c9,trivial⟩,⟨u9,trivial⟩⟩
 ·
  have h0:=of_decide_eq_false r0
  try simp only [ty] at h0
  obtain rfl:i = l.length:=by omega
  refine az ?_;refine sx7 ?_;refine qy ?_;refine a6 ?_;refine fh ?_;refine ⟨.inr rfl, ?_⟩
  exact ⟨_,_,rfl,(by (repeat' apply And.intro) <;> first | trivial | exact Nat.le_of_ble_eq_true rfl),(by show CoP (.raw (.bool _)) (.raw (.bool _));exact CoP.of_eq (congrArg (fun z=>PV.raw (.bool z)) (ak4 (p:=fun r:Row=>decide (r.vals = v)) hIi).symm)),⟨u9,trivial⟩⟩
theorem ao6:am Tryd.prog 12:=⟨Tryd.f12,Tryd.func12,by kernel_rfl,by kernel_rfl⟩
theorem ahw (t:Tbl) (s:AS) (hT:TOk t) (hs:sub s (aq t.attrs.length)):ao Tryd.prog 12 [t.pc,pA s] (ay [(mh t s).pc,pI 0]):=by
 refine ak (nt:=81) ai Tryd.func12 rfl rfl l9 ?_
 have hok:=hT.ok
 have htz:=mb.2 hT
 have hna:=hT.na
 have hnr:=hT.nr
 have hso:=dz hT.rs
 refine sx7 ?_;refine m9 0 ?_;refine m9 1 ?_;refine qy ?_;refine a6 ?_;refine a7 ?_;refine sx7 ?_;refine qy ?_;refine rc rfl rfl rfl rfl rfl rfl ag3 (c82 t) (CoL.refl _) rfl rfl ?_;refine qy ?_;refine a6 ?_
 refine sx7 ?_;(iterate 2 refine qy ?_);refine a6 ?_;refine a8 _ rfl (fun r0=>?_) (fun r0=>?_)
 ·
  have h0:=r0
  have h0:=of_decide_eq_false (bn h0)
  try simp only [ty] at h0
  exfalso
  omega
 ·
  have h0:=r0
  have h0:=of_decide_eq_true (bm h0)
  try simp only [ty] at h0
  refine aa ?_;refine a7 ?_;refine sx7 ?_;(iterate 4 refine qy ?_);refine rc rfl rfl rfl rfl rfl rfl ya (xk t.attrs.length) (CoL.refl _) rfl rfl ?_;(iterate 2 refine qy ?_);refine a6 ?_
  refine a8 _ rfl (fun r1=>?_) (fun r1=>?_)
  ·
   have h1:=r1
   have h1:=of_decide_eq_false (bn h1)
   try simp only [ty] at h1
   exact absurd (by rw [ko,show s &&& ~~~aq (t.attrs.length:Int) = 0 from hs];rfl) h1
  ·
   have h1:=r1
   have h1:=of_decide_eq_true (bm h1)
   try simp only [ty] at h1
   refine aa ?_;refine sx7 ?_;(iterate 3 refine qy ?_);refine m9 2 ?_;refine s9 ?_;refine a6 ?_;refine a7 ?_;refine sx7 ?_;refine qy ?_;refine a6 ?_;refine ah ?_
   refine lh 2 1 100 true 1 9 (lf ahl (kn s t.attrs 0)) (by decide) rfl rfl (CoP.sl rfl (.inr rfl) (fun h=>h) (fun i j hi _=>absurd hi (Nat.not_lt_zero i))) (.inr rfl) rfl rfl ?_
   refine b4 (ι:=Nat) ⟨[(1,some _),(2,some _),(4,some _),(7,some _)],[(0,some _),(1,some _)]⟩ ⟨⟨c9,c9,c9,c9,trivial⟩,⟨u9,u9,trivial⟩⟩ (fun a=>⟨[(8,some (vI a))],[(2,some (.box [.p (.raw (.string t.name)), .ref 100 (kn s t.attrs a).length, .p (jj (.slice none 0 0))])),(100,some (.arr true 1 9 (kn s t.attrs a).length (lf ahl (kn s t.attrs a))))]⟩) (fun a=>a ≤ t.attrs.length) (fun a=>t.attrs.length - a) (0) (Nat.zero_le _) ⟨⟨zy,trivial⟩,⟨u9,u9,trivial⟩⟩ ?_
   rintro a ha
   have hlen:(kn s t.attrs a).length ≤ a:=by rw [w9];exact up
   refine a7 ?_;refine sx7 ?_;(iterate 5 refine qy ?_);refine a6 ?_;refine a8 _ rfl (fun r2=>?_) (fun r2=>?_)
   ·
    have h2:=of_decide_eq_true r2
    try simp only [ty] at h2
    refine aa ?_;refine a7 ?_;refine ah ?_;refine sx7 ?_;(iterate 2 refine qy ?_);refine rc rfl rfl rfl rfl rfl rfl ux (a4s s a) (CoL.refl _) rfl rfl ?_;refine a6 ?_
    refine a8 _ rfl (fun r3=>?_) (fun r3=>?_)
    ·
     have h3:=r3
     have hh:al s (a:Int) = true:=r3
     refine cw (E:=d6) ai bw [0,1,2,3,4,5,6,7,8,9,10] ?_;(iterate 7 refine qy ?_);refine m9 3 ?_;refine ra 4 true rfl rfl rfl rfl rfl rfl ?_;refine qy ?_;refine s9 ?_;refine a6 ?_
     refine ⟨by kernel_rfl, ?_⟩;refine gy ?_;(iterate 3 refine qy ?_);refine a6 ?_
     first | (refine ⟨a + 1, ?_, ?_, ?_⟩
              · show a + 1 ≤ _;omega
              · first | omega | (dsimp only;omega)
              · exact ⟨⟨zy,c9,c9,c9,c9,trivial⟩,⟨⟨_,rfl,⟨CoP.refl _,congrArg (HV.ref 100) (by rw [a3a hh,List.length_append];rfl),CoP.refl _,trivial⟩⟩,⟨_,rfl,(i7 (a3a hh) (CoP.refl _))⟩,u9,u9,trivial⟩⟩)
           | (refine ⟨a + 1, ?_, ?_, ?_⟩
              · show a + 1 ≤ _;omega
              · first | omega | (dsimp only;omega)
              · exact ⟨⟨zy,c9,c9,c9,c9,trivial⟩,⟨⟨_,rfl,⟨CoP.refl _,congrArg (HV.ref 100) (by rw [a3m hh]),CoP.refl _,trivial⟩⟩,⟨_,rfl,(c5 (a3m hh))⟩,u9,u9,trivial⟩⟩)
    ·
     have h3:=r3
     have hh:al s (a:Int) = false:=r3
     refine aa ?_;refine gy ?_;(iterate 3 refine qy ?_);refine a6 ?_
     first | (refine ⟨a + 1, ?_, ?_, ?_⟩
              · show a + 1 ≤ _;omega
              · first | omega | (dsimp only;omega)
              · exact ⟨⟨zy,c9,c9,c9,c9,trivial⟩,⟨⟨_,rfl,⟨CoP.refl _,congrArg (HV.ref 100) (by rw [a3a hh,List.length_append];rfl),CoP.refl _,trivial⟩⟩,⟨_,rfl,(i7 (a3a hh) (CoP.refl _))⟩,u9,u9,trivial⟩⟩)
           | (refine ⟨a + 1, ?_, ?_, ?_⟩
              · show a + 1 ≤ _;omega
              · first | omega | (dsimp only;omega)
              · exact ⟨⟨zy,c9,c9,c9,c9,trivial⟩,⟨⟨_,rfl,⟨CoP.refl _,congrArg (HV.ref 100) (by rw [a3m hh]),CoP.refl _,trivial⟩⟩,⟨_,rfl,(c5 (a3m hh))⟩,u9,u9,trivial⟩⟩)
   ·
    have h2:=of_decide_eq_false r2
    try simp only [ty] at h2
    obtain rfl:a = t.attrs.length:=by omega
    refine az ?_;(iterate 2 refine a7 ?_);refine kg 2 1 rfl rfl rfl rfl rfl ?_;refine gy ?_;refine qy ?_;refine a6 ?_;refine ah ?_
    refine lh 2 2 101 true 2 67 (lf Row.c (prR s t.rows 0)) (by decide) rfl rfl (CoP.sl rfl (.inr rfl) (fun h=>h) (fun i j hi _=>absurd hi (Nat.not_lt_zero i))) (.inr rfl) rfl rfl ?_
    refine b4 (ι:=Nat) ⟨[(1,some _),(2,some _),(4,some _),(7,some _)],[(0,some _),(1,some _)]⟩ ⟨⟨c9,c9,c9,c9,trivial⟩,⟨u9,u9,trivial⟩⟩ (fun i=>⟨[(9,some (vI i))],[(2,some (.box [.p (.raw (.string t.name)), .p (a4x (kn s t.attrs t.attrs.length)), .ref 101 (prR s t.rows i).length])),(101,some (.arr true 2 67 (prR s t.rows i).length (lf Row.c (prR s t.rows i))))]⟩) (fun i=>i ≤ t.rows.length) (fun i=>t.rows.length - i) (0) (Nat.zero_le _) ⟨⟨zy,trivial⟩,⟨u9,u9,trivial⟩⟩ ?_
    rintro i hi
    have hlen:=(aej (s:=s) hso hi hok.2.2).2
    refine a7 ?_;refine sx7 ?_;(iterate 5 refine qy ?_);refine a6 ?_;refine a8 _ rfl (fun r4=>?_) (fun r4=>?_)
    ·
     have h4:=of_decide_eq_true r4
     try simp only [ty] at h4
     refine aa ?_;refine a7 ?_;refine ah ?_;refine sx7 ?_;(iterate 6 refine qy ?_)
     refine rc rfl rfl rfl rfl rfl rfl a97 (a4r (t.rows.getD i default) s (hok.2.2 i (by omega)).1) (CoL.refl _) rfl rfl ?_;refine qy ?_;refine a6 ?_;refine sx7 ?_;(iterate 3 refine qy ?_)
     refine j3 rfl rfl rfl rfl rfl rfl amo ((ahv (prR s t.rows i) (sel (t.rows.getD i default).vals s) (aej hso (by omega) hok.2.2).1 (a34 (hok.2.2 i (by omega)).2)).swap 1000 101) (gv.refl _) ⟨u9,trivial⟩ rfl rfl ?_
     refine qy ?_;refine a6 ?_;refine a8 _ rfl (fun r5=>?_) (fun r5=>?_)
     ·
      have h5:=r5
      have h5:=bn h5
      have hq:sb (prR s t.rows i) (sel (t.rows.getD i default).vals s) = false:=by simpa using r5
      have hnx:(prR s t.rows (i + 1)) = (prR s t.rows i) ++ [⟨(t.rows.getD i default).id,(sel (t.rows.getD i default).vals s)⟩]:=ajw (by omega) hq
      refine cw (E:=d6) ai bw [0,1,2,3,4,5,6,7,8,9,10,11,12,13] ?_;(iterate 10 refine qy ?_);refine m9 5 ?_;refine ra 6 true rfl rfl rfl rfl rfl rfl ?_;refine qy ?_;refine s9 ?_
      refine a6 ?_;refine ⟨by kernel_rfl, ?_⟩;refine gy ?_;(iterate 3 refine qy ?_);refine a6 ?_
      first | (refine ⟨i + 1, ?_, ?_, ?_⟩
               · show i + 1 ≤ _;omega
               · first | omega | (dsimp only;omega)
               · exact ⟨⟨zy,c9,c9,c9,c9,trivial⟩,⟨⟨_,rfl,⟨CoP.refl _,CoP.refl _,congrArg (HV.ref 101) (by rw [hnx,List.length_append];rfl),trivial⟩⟩,⟨_,rfl,(j1 hnx (CoP.refl _) (CoP.refl _))⟩,u9,u9,trivial⟩⟩)
            | (refine ⟨i + 1, ?_, ?_, ?_⟩
               · show i + 1 ≤ _;omega
               · first | omega | (dsimp only;omega)
               · exact ⟨⟨zy,c9,c9,c9,c9,trivial⟩,⟨⟨_,rfl,⟨CoP.refl _,CoP.refl _,congrArg (HV.ref 101) (by rw [hnx]),trivial⟩⟩,⟨_,rfl,(c5 hnx)⟩,u9,u9,trivial⟩⟩)
     ·
      have h5:=r5
      have h5:=bm h5
      have hq:sb (prR s t.rows i) (sel (t.rows.getD i default).vals s) = true:=by simpa using r5
      have hnx:(prR s t.rows (i + 1)) = (prR s t.rows i):=ajv (by omega) hq
      refine aa ?_;refine gy ?_;(iterate 3 refine qy ?_);refine a6 ?_
      first | (refine ⟨i + 1, ?_, ?_, ?_⟩
               · show i + 1 ≤ _;omega
               · first | omega | (dsimp only;omega)
               · exact ⟨⟨zy,c9,c9,c9,c9,trivial⟩,⟨⟨_,rfl,⟨CoP.refl _,CoP.refl _,congrArg (HV.ref 101) (by rw [hnx,List.length_append];rfl),trivial⟩⟩,⟨_,rfl,(j1 hnx (CoP.refl _) (CoP.refl _))⟩,u9,u9,trivial⟩⟩)
            | (refine ⟨i + 1, ?_, ?_, ?_⟩
               · show i + 1 ≤ _;omega
               · first | omega | (dsimp only;omega)
               · exact ⟨⟨zy,c9,c9,c9,c9,trivial⟩,⟨⟨_,rfl,⟨CoP.refl _,CoP.refl _,congrArg (HV.ref 101) (by rw [hnx]),trivial⟩⟩,⟨_,rfl,(c5 hnx)⟩,u9,u9,trivial⟩⟩)
    ·
     have h4:=of_decide_eq_false r4
     try simp only [ty] at h4
     obtain rfl:i = t.rows.length:=by omega
     refine az ?_;refine a7 ?_;refine kg 2 2 rfl rfl rfl rfl rfl ?_;refine gy ?_;refine qy ?_;refine s9 ?_;refine qy ?_;refine a6 ?_
     exact hx8 rfl rfl rfl (⟨CoC.agg ⟨CoP.refl _,CoP.refl _,CoP.refl _,trivial⟩,CoC.refl _,trivial⟩)
end Go.Hx
end
section
namespace Go.Hx
open Go.Proofs
set_option maxRecDepth 100000
def at2 (n:Int) (ps:List AS):List AS:=if ps.length = 0 then [aq n] else ps.set (ps.length - 1) (ps.getD (ps.length - 1) default ||| (aq n &&& ~~~(orL ps)))
end Go.Hx
end
section
namespace Go.Hx
theorem aj0:∀ k,k < 9 → oh (j4.take k) = true:=by decide
theorem ako (c:UInt8):aqb (ofV c):=by
 unfold ofV
 have h:∀ k:Fin 12,db (ofI (k.val:Int)) = true ∧ -1 ≤ (ofI (k.val:Int)).num ∧ (ofI (k.val:Int)).num ≤ 7:=by decide
 have:=h ⟨c.toNat % 12,by omega⟩
 rw [show ((c.toNat % 12:Nat):Int) = (c.toNat:Int) % 12 by omega] at this
 exact ⟨this.1,by omega,by omega⟩
theorem a1f {x:gm} {n:Nat} (hn:n ≤ 8):(ae x n).attrs.length = n:=by
 show (j4.take n).length = n
 rw [List.length_take]
 have:j4.length = 8:=rfl
 omega
theorem al9 {x:gm} {n:Nat} (hn:n ≤ 8) (hx:x.rows.length ≤ 8):TOk (ae x n) where
 nm:=by show fu ⟨#[114]⟩ = true;decide
 na:=by rw [a1f hn];omega
 nr:=by show (i9 x n).length ≤ 1000;rw [afd];omega
 nms:=aj0 n (by omega)
 rs:=by
  rw [a1f hn]
  refine kf (fun w hw=>?_) ?_
  · obtain ⟨i,hi,e⟩:=List.mem_map.1 hw
    subst e
    refine ⟨?_,aga, ?_⟩
    · show (0:Int) < 1 + (i:Int) * (1 + (x.gap.toNat:Int) % 3)
      have:(0:Int) ≤ (i:Int) * (1 + (x.gap.toNat:Int) % 3):=Int.mul_nonneg (by omega) (by omega)
      omega
    · rw [List.all_eq_true]
      intro v hv
      obtain ⟨k,_,e⟩:=List.mem_map.1 hv
      rw [← e]
      exact (ako _).1
  · show jd (i9 x n)
    unfold i9
    refine List.pairwise_map.2 ((List.pairwise_lt_range (n:=x.rows.length)).imp fun {i j} hij=>?_)
    show 1 + (i:Int) * (1 + (x.gap.toNat:Int) % 3) < 1 + (j:Int) * (1 + (x.gap.toNat:Int) % 3)
    have:(i:Int) * (1 + (x.gap.toNat:Int) % 3) < (j:Int) * (1 + (x.gap.toNat:Int) % 3):=Int.mul_lt_mul_of_pos_right (by omega) (by omega)
    omega
def aq1 (n:Int) (d:Fd):Fd:=⟨d.lhs &&& aq n,d.rhs &&& aq n⟩
def aub (q:Fd → Bool) (n:Int) (l:List Fd) (i:Nat):List Fd:=((l.take i).map (aq1 n)).filter q
section
variable {q:Fd → Bool} {n:Int} {l:List Fd} {i:Nat}
end
def aux (s:AS) (l:List AS) (i:Nat):List AS:=(l.take i).map (· &&& s) ++ l.drop i
section
variable {s:AS} {l:List AS} {i:Nat}
end
end Go.Hx
end

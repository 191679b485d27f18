/- A part of the proof: W7 W8 W9. -/
import Derived.Test.YtaegkccfbmekbaaGreatNq21
import Derived.Test.YtaegkccfbmekbaaGreatNq29
set_option linter.all false
section
namespace Go.Hx
open Go.Proofs
set_option maxRecDepth 100000
set_option maxHeartbeats 1000000
theorem awb (r:Row) (h:r.vals.length ≤ 68719476736):ce Tryz.prog 127 [r.pc.toH] [] (.v (.agg [.p (.raw (.int .i64 r.id)), .ref 101 r.vals.length])) [(101, .arr true 3 81 r.vals.length (lf Val.c r.vals))] []:=by
 refine ct (nt:=10) ae Tryz.func127 rfl rfl l9 rfl ?_;refine sx7 ?_;refine m9 99 ?_;refine m9 100 ?_;refine a6 ?_;refine a7 ?_;refine ax (E:=aq) ae ak [0,1,2,3,4,5,6,7] ?_
 (iterate 2 refine qy ?_);refine m9 101 ?_;(iterate 2 refine qy ?_);refine ra 102 true rfl rfl rfl rfl rfl rfl ?_;refine qy ?_;refine s9 ?_;refine a6 ?_;refine ⟨by kernel_rfl, ?_⟩;refine aw ?_;refine ⟨.inr rfl, ?_⟩
 exact ⟨_,_,rfl,(by (repeat' apply And.intro) <;> first | trivial | exact Nat.le_of_ble_eq_true rfl),⟨CoP.refl _,congrArg (HV.ref 101) (Nat.zero_add _),trivial⟩,⟨⟨_,rfl,⟨fun h=>h,rfl,rfl,(Nat.zero_add _).symm,fun i j _ _=>CoP.of_eq (by simp [eo])⟩⟩,trivial⟩⟩
theorem aw2 (l:List Val) (h:l.length ≤ 68719476736):ce Tryz.prog 67 [.one (.p (vals l))] [] (.v (.one (.ref 101 l.length))) [(101, .arr true 3 81 l.length (lf Val.c l))] []:=(avi l h).swap 0 101
theorem av6 (r:Row) (h:r.vals.length ≤ 68719476736):ce Tryz.prog 93 [r.pc.toH] [] (.v (.agg [.p (.raw (.int .i64 r.id)), .ref 101 r.vals.length])) [(101, .arr true 3 81 r.vals.length (lf Val.c r.vals))] []:=by
 refine ct (nt:=9) ae Tryz.func93 rfl rfl l9 rfl ?_;refine sx7 ?_;refine m9 0 ?_;refine m9 1 ?_;refine a6 ?_;refine a7 ?_;refine ax (E:=aq) ae ak [0,1,2,3,4,5,6] ?_
 (iterate 4 refine qy ?_);refine ay rfl rfl rfl rfl rfl rfl a51 (aw2 r.vals h) (bs.refl _) trivial rfl rfl ?_;refine qy ?_;refine s9 ?_;refine a6 ?_;refine ⟨by kernel_rfl, ?_⟩;refine aw ?_
 refine ⟨.inr rfl, ?_⟩
 exact ⟨_,_,rfl,(by (repeat' apply And.intro) <;> first | trivial | exact Nat.le_of_ble_eq_true rfl),CoR.refl _,⟨u9,trivial⟩⟩
theorem avt (t:Tbl) (l:List Row) (ha:t.attrs.length ≤ 68719476736) (hl:l.length ≤ 68719476736) (hr:js l):ce Tryz.prog 96 [t.pc.toH, .one (.p (rows l))] [] (.v (.agg [.p (.raw (.string t.name)), .p (i7 t.attrs), .ref 100 l.length])) [(100, .arr true 2 48 l.length (lf Row.c l))] []:=by
 refine ct (nt:=31) ae Tryz.func96 rfl rfl l9 rfl ?_;refine sx7 ?_;refine m9 0 ?_;refine m9 1 ?_;refine a6 ?_;refine a7 ?_;refine ax (E:=aq) ae ak [0,1,2,3,4,5,6,7,8] ?_
 (iterate 2 refine qy ?_);refine m9 2 ?_;(iterate 2 refine qy ?_);refine ra 3 true rfl rfl rfl rfl rfl rfl ?_;refine qy ?_;refine m9 4 ?_;refine s9 ?_;refine a6 ?_;refine ⟨by kernel_rfl, ?_⟩
 refine ju 4 1 rfl rfl rfl rfl rfl ?_;refine a7 ?_;refine sx7 ?_;refine qy ?_;refine a6 ?_;refine af ?_
 refine fg 4 2 100 true 2 48 (lf Row.c l) (by decide) rfl rfl (CoP.sl rfl (.inr rfl) (fun h=>h) (fun i j hi _=>absurd hi (Nat.not_lt_zero i))) (.inr rfl) rfl rfl ?_
 refine av (ι:=Nat) ⟨[(1,some _),(4,some _),(5,some _)],[(1,some _)]⟩ ⟨⟨c9,c9,c9,trivial⟩,⟨u9,trivial⟩⟩ (fun i=>⟨[(6,some (vI i))],[(4,some (.box [.p (.raw (.string t.name)), .p (i7 t.attrs), .ref 100 i])),(100,some (.arr true 2 48 i (lf Row.c l)))]⟩) (fun i=>i ≤ l.length) (fun i=>l.length - i) (0) (Nat.zero_le _) ⟨⟨zy,trivial⟩,⟨⟨_,rfl,⟨CoH.refl _,sx,CoH.refl _,trivial⟩⟩,u9,trivial⟩⟩ ?_
 rintro i hi
 refine a7 ?_;refine sx7 ?_;(iterate 4 refine qy ?_);refine a6 ?_;refine a8 _ rfl (fun r0=>?_) (fun r0=>?_)
 ·
  have h0:=of_decide_eq_true r0
  try simp only [ty] at h0
  refine aa ?_;refine a7 ?_;refine af ?_;refine ax (E:=aq) ae ak [0,1,2,3,4,5,6,7,8,9,10] ?_;(iterate 6 refine qy ?_)
  refine rc rfl rfl rfl rfl rfl rfl sy (c85 _ (hr i (by omega)).1) (CoL.refl _) rfl rfl ?_;refine m9 5 ?_;refine ra 6 true rfl rfl rfl rfl rfl rfl ?_;refine qy ?_;refine s9 ?_;refine a6 ?_;refine ⟨by kernel_rfl, ?_⟩
  refine gy ?_;(iterate 3 refine qy ?_);refine a6 ?_;refine ⟨i + 1, ?_, ?_, ?_⟩
  · show i + 1 ≤ _
    omega
  · first | omega | (dsimp only;omega)
  · exact ⟨⟨zy,c9,c9,c9,trivial⟩,⟨u9,⟨_,rfl,(kz (fun h=>h) (lt2 (CoP.refl _) (CoP.refl _)))⟩,u9,trivial⟩⟩
 ·
  have h0:=of_decide_eq_false r0
  try simp only [ty] at h0
  obtain rfl:i = l.length:=by omega
  refine au ?_;refine sx7 ?_;refine qy ?_;refine s9 ?_;refine a6 ?_;refine aw ?_;refine ⟨.inr rfl, ?_⟩
  exact ⟨_,_,rfl,(by (repeat' apply And.intro) <;> first | trivial | exact Nat.le_of_ble_eq_true rfl),CoR.refl _,⟨u9,trivial⟩⟩
theorem auz (t:Tbl) (l:List Row) (ha:t.attrs.length ≤ 68719476736) (hl:l.length ≤ 68719476736) (hr:js l) (i0:Nat) (hi0:i0 < l.length):ce Tryz.prog 96 [t.pc.toH, .one (.p (rows l))] [] (.v (.agg [.p (.raw (.string t.name)), .p (i7 t.attrs), .ref 100 l.length])) [(100, .arrh 2 48 l.length [101] (n5 i0 (.ref 101 (l.getD i0 default).vals.length) (lf Row.c l))),(101, .arr true 3 81 (l.getD i0 default).vals.length (lf Val.c (l.getD i0 default).vals))] []:=by
 refine ct (nt:=31) ae Tryz.func96 rfl rfl l9 rfl ?_;refine sx7 ?_;refine m9 0 ?_;refine m9 1 ?_;refine a6 ?_;refine a7 ?_;refine ax (E:=aq) ae ak [0,1,2,3,4,5,6,7,8] ?_
 (iterate 2 refine qy ?_);refine m9 2 ?_;(iterate 2 refine qy ?_);refine ra 3 true rfl rfl rfl rfl rfl rfl ?_;refine qy ?_;refine m9 4 ?_;refine s9 ?_;refine a6 ?_;refine ⟨by kernel_rfl, ?_⟩
 refine ju 4 1 rfl rfl rfl rfl rfl ?_;refine a7 ?_;refine sx7 ?_;refine qy ?_;refine a6 ?_;refine af ?_
 refine fg 4 2 100 true 2 48 (lf Row.c l) (by decide) rfl rfl (CoP.sl rfl (.inr rfl) (fun h=>h) (fun i j hi _=>absurd hi (Nat.not_lt_zero i))) (.inr rfl) rfl rfl ?_
 refine av (ι:=(Nat ⊕ Nat)) ⟨[(1,some _),(4,some _),(5,some _)],[(1,some _)]⟩ ⟨⟨c9,c9,c9,trivial⟩,⟨u9,trivial⟩⟩ (fun x=>match x with | .inl i=>⟨[(6,some (vI i))],[(4,some (.box [.p (.raw (.string t.name)), .p (i7 t.attrs), .ref 100 i])),(100,some (.arr true 2 48 i (lf Row.c l)))]⟩ | .inr i=>⟨[(6,some (vI i))],[(4,some (.box [.p (.raw (.string t.name)), .p (i7 t.attrs), .ref 100 i])),(100,some (.arrh 2 48 i [101] (n5 i0 (.ref 101 (l.getD i0 default).vals.length) (lf Row.c l)))),(101,some (.arr true 3 81 (l.getD i0 default).vals.length (lf Val.c (l.getD i0 default).vals)))]⟩) (fun x=>match x with | .inl i=>i ≤ i0 | .inr i=>i0 < i ∧ i ≤ l.length) (fun x=>match x with | .inl i=>l.length - i | .inr i=>l.length - i) (.inl 0) (Nat.zero_le _) ⟨⟨zy,trivial⟩,⟨⟨_,rfl,⟨CoH.refl _,sx,CoH.refl _,trivial⟩⟩,u9,trivial⟩⟩ ?_
 rintro (i | i) hp
 rcases Nat.lt_or_ge i i0 with hlt | hge
 ·
  have hp:i ≤ i0:=hp
  refine a7 ?_;refine sx7 ?_;(iterate 4 refine qy ?_);refine a6 ?_;refine a8 _ rfl (fun r0=>?_) (fun r0=>?_)
  ·
   have h0:=of_decide_eq_true r0
   try simp only [ty] at h0
   refine aa ?_;refine a7 ?_;refine af ?_;refine ax (E:=aq) ae ak [0,1,2,3,4,5,6,7,8,9,10] ?_;(iterate 6 refine qy ?_)
   refine rc rfl rfl rfl rfl rfl rfl sy (c85 _ (hr i (by omega)).1) (CoL.refl _) rfl rfl ?_;refine m9 5 ?_;refine ra 6 true rfl rfl rfl rfl rfl rfl ?_;refine qy ?_;refine s9 ?_;refine a6 ?_
   refine ⟨by kernel_rfl, ?_⟩;refine gy ?_;(iterate 3 refine qy ?_);refine a6 ?_;refine ⟨.inl (i + 1), ?_, ?_, ?_⟩
   · show i + 1 ≤ i0
     omega
   · first | omega | (dsimp only;omega) | (show l.length - (i + 1) < l.length - i;omega)
   · exact ⟨⟨zy,c9,c9,c9,trivial⟩,⟨u9,⟨_,rfl,(kz (fun h=>h) (lt2 (CoP.refl _) (CoP.refl _)))⟩,u9,trivial⟩⟩
  ·
   have h0:=of_decide_eq_false r0
   try simp only [ty] at h0
   exfalso
   omega
 ·
  have hp:i ≤ i0:=hp
  obtain rfl:i = i0:=by omega
  refine am8 100 (.arrh 2 48 i [] fun a b=>.p (lf Row.c l a b)) rfl ⟨.inl rfl,rfl,rfl,rfl,fun _ _ _ _=>CoH.refl _⟩ ?_;refine a7 ?_;refine sx7 ?_;(iterate 4 refine qy ?_);refine a6 ?_
  refine a8 _ rfl (fun r1=>?_) (fun r1=>?_)
  ·
   have h1:=of_decide_eq_true r1
   try simp only [ty] at h1
   refine aa ?_;refine a7 ?_;refine af ?_;refine ax (E:=aq) ae ak [0,1,2,3,4,5,6,7,8,9,10] ?_;(iterate 6 refine qy ?_)
   refine ay rfl rfl rfl rfl rfl rfl sy (awb (l.getD i default) (hr i (by omega)).1) (bs.refl _) trivial rfl rfl ?_;refine m9 7 ?_;refine ra 8 true rfl rfl rfl rfl rfl rfl ?_;refine qy ?_;refine s9 ?_
   refine a6 ?_;refine ⟨by kernel_rfl, ?_⟩;refine gy ?_;(iterate 3 refine qy ?_);refine a6 ?_;refine ⟨.inr (i + 1), ?_, ?_, ?_⟩
   · show i < i + 1 ∧ i + 1 ≤ l.length
     omega
   · first | omega | (dsimp only;omega) | (show l.length - (i + 1) < l.length - i;omega)
   · exact ⟨⟨zy,c9,c9,c9,trivial⟩,⟨u9,⟨_,rfl,(a58 (CoP.refl _) (CoH.refl _) (fun _ h=>h))⟩,u9,u9,trivial⟩⟩
  ·
   have h1:=of_decide_eq_false r1
   try simp only [ty] at h1
   exfalso
   omega
 ·
  have hp:i0 < i ∧ i ≤ l.length:=hp
  obtain ⟨hp1,hp2⟩:=hp
  refine a7 ?_;refine sx7 ?_;(iterate 4 refine qy ?_);refine a6 ?_;refine a8 _ rfl (fun r2=>?_) (fun r2=>?_)
  ·
   have h2:=of_decide_eq_true r2
   try simp only [ty] at h2
   refine aa ?_;refine a7 ?_;refine af ?_;refine ax (E:=aq) ae ak [0,1,2,3,4,5,6,7,8,9,10] ?_;(iterate 6 refine qy ?_)
   refine rc rfl rfl rfl rfl rfl rfl sy (c85 _ (hr i (by omega)).1) (CoL.refl _) rfl rfl ?_;refine m9 9 ?_;refine ra 10 true rfl rfl rfl rfl rfl rfl ?_;refine qy ?_;refine s9 ?_;refine a6 ?_
   refine ⟨by kernel_rfl, ?_⟩;refine gy ?_;(iterate 3 refine qy ?_);refine a6 ?_;refine ⟨.inr (i + 1), ?_, ?_, ?_⟩
   · show i0 < i + 1 ∧ i + 1 ≤ l.length
     omega
   · first | omega | (dsimp only;omega) | (show l.length - (i + 1) < l.length - i;omega)
   · exact ⟨⟨zy,c9,c9,c9,trivial⟩,⟨u9,⟨_,rfl,(a86 hp1 (lt2 (CoP.refl _) (CoP.refl _)) (fun _ h=>h))⟩,u9,u9,trivial⟩⟩
  ·
   have h2:=of_decide_eq_false r2
   try simp only [ty] at h2
   obtain rfl:i = l.length:=by omega
   refine au ?_;refine sx7 ?_;refine qy ?_;refine s9 ?_;refine a6 ?_;refine aw ?_;refine ⟨.inr rfl, ?_⟩
   exact ⟨_,_,rfl,(by (repeat' apply And.intro) <;> first | trivial | exact Nat.le_of_ble_eq_true rfl),CoR.refl _,⟨u9,u9,trivial⟩⟩
theorem avv (t:Tbl) (l:List Row) (ha:t.attrs.length ≤ 68719476736) (hl:l.length ≤ 68719476736) (hr:js l):ce Tryz.prog 89 [t.pc.toH, .one (.p (rows l))] [] (.v (.agg [.p (.raw (.string t.name)), .p (i7 t.attrs), .ref 100 l.length])) [(100, .arr true 2 48 l.length (lf Row.c l))] []:=by
 refine ct (nt:=29) ae Tryz.func89 rfl rfl l9 rfl ?_;refine sx7 ?_;refine m9 0 ?_;refine m9 1 ?_;refine a6 ?_;refine a7 ?_;refine ax (E:=aq) ae ak [0,1,2,3,4,5,6,7] ?_
 (iterate 4 refine qy ?_);refine rc rfl rfl rfl rfl rfl rfl vz (c77 _ ha) (CoL.refl _) rfl rfl ?_;refine qy ?_;refine m9 2 ?_;refine s9 ?_;refine a6 ?_;refine ⟨by kernel_rfl, ?_⟩;refine a7 ?_;refine sx7 ?_
 (iterate 3 refine qy ?_);refine a6 ?_;refine af ?_
 refine fg 2 2 100 true 2 48 (lf Row.c l) (by decide) rfl rfl (CoP.sl rfl (.inr rfl) (fun h=>h) (fun i j hi _=>absurd hi (Nat.not_lt_zero i))) (.inr rfl) rfl rfl ?_
 refine av (ι:=Nat) ⟨[(4,some _),(5,some _),(14,some _),(15,some _)],[(1,some _)]⟩ ⟨⟨c9,c9,c9,c9,trivial⟩,⟨u9,trivial⟩⟩ (fun i=>⟨[(16,some (vI i))],[(2,some (.box [.p (.raw (.string t.name)), .p (i7 t.attrs), .ref 100 i])),(100,some (.arr true 2 48 i (lf Row.c l)))]⟩) (fun i=>i ≤ l.length) (fun i=>l.length - i) (0) (Nat.zero_le _) ⟨⟨zy,trivial⟩,⟨u9,u9,trivial⟩⟩ ?_
 rintro i hi
 refine sx7 ?_;refine qy ?_;refine a6 ?_;refine a7 ?_;refine a8 _ rfl (fun r0=>?_) (fun r0=>?_)
 ·
  have h0:=of_decide_eq_true r0
  try simp only [ty] at h0
  refine aa ?_;refine a7 ?_;refine af ?_;refine sx7 ?_;(iterate 2 refine qy ?_);refine m9 3 ?_;refine s9 ?_;refine a6 ?_;refine ax (E:=aq) ae ak [0,1,2,3,4,5,6,7] ?_
  (iterate 3 refine qy ?_);refine rc rfl rfl rfl rfl rfl rfl xl (c98 _ (hr i (by omega)).1) (CoL.refl _) rfl rfl ?_;refine m9 4 ?_;refine ra 5 true rfl rfl rfl rfl rfl rfl ?_;refine qy ?_;refine s9 ?_;refine a6 ?_
  refine ⟨by kernel_rfl, ?_⟩;refine gy ?_;(iterate 2 refine qy ?_);refine a6 ?_;refine ⟨i + 1, ?_, ?_, ?_⟩
  · show i + 1 ≤ _
    omega
  · first | omega | (dsimp only;omega)
  · exact ⟨⟨zy,c9,c9,c9,c9,trivial⟩,⟨u9,⟨_,rfl,(kz (fun h=>h) (lt2 (CoP.refl _) (CoP.refl _)))⟩,u9,trivial⟩⟩
 ·
  have h0:=of_decide_eq_false r0
  try simp only [ty] at h0
  obtain rfl:i = l.length:=by omega
  refine au ?_;refine sx7 ?_;refine qy ?_;refine s9 ?_;refine a6 ?_;refine aw ?_;refine ⟨.inr rfl, ?_⟩
  exact ⟨_,_,rfl,(by (repeat' apply And.intro) <;> first | trivial | exact Nat.le_of_ble_eq_true rfl),CoR.refl _,⟨u9,trivial⟩⟩
theorem avh (t:Tbl) (l:List Row) (ha:t.attrs.length ≤ 68719476736) (hl:l.length ≤ 68719476736) (hr:js l) (i0:Nat) (hi0:i0 < l.length):ce Tryz.prog 89 [t.pc.toH, .one (.p (rows l))] [] (.v (.agg [.p (.raw (.string t.name)), .p (i7 t.attrs), .ref 100 l.length])) [(100, .arrh 2 48 l.length [101] (n5 i0 (.ref 101 (l.getD i0 default).vals.length) (lf Row.c l))),(101, .arr true 3 81 (l.getD i0 default).vals.length (lf Val.c (l.getD i0 default).vals))] []:=by
 refine ct (nt:=29) ae Tryz.func89 rfl rfl l9 rfl ?_;refine sx7 ?_;refine m9 0 ?_;refine m9 1 ?_;refine a6 ?_;refine a7 ?_;refine ax (E:=aq) ae ak [0,1,2,3,4,5,6,7] ?_
 (iterate 4 refine qy ?_);refine rc rfl rfl rfl rfl rfl rfl vz (c77 _ ha) (CoL.refl _) rfl rfl ?_;refine qy ?_;refine m9 2 ?_;refine s9 ?_;refine a6 ?_;refine ⟨by kernel_rfl, ?_⟩;refine a7 ?_;refine sx7 ?_
 (iterate 3 refine qy ?_);refine a6 ?_;refine af ?_
 refine fg 2 2 100 true 2 48 (lf Row.c l) (by decide) rfl rfl (CoP.sl rfl (.inr rfl) (fun h=>h) (fun i j hi _=>absurd hi (Nat.not_lt_zero i))) (.inr rfl) rfl rfl ?_
 refine av (ι:=(Nat ⊕ Nat)) ⟨[(4,some _),(5,some _),(14,some _),(15,some _)],[(1,some _)]⟩ ⟨⟨c9,c9,c9,c9,trivial⟩,⟨u9,trivial⟩⟩ (fun x=>match x with | .inl i=>⟨[(16,some (vI i))],[(2,some (.box [.p (.raw (.string t.name)), .p (i7 t.attrs), .ref 100 i])),(100,some (.arr true 2 48 i (lf Row.c l)))]⟩ | .inr i=>⟨[(16,some (vI i))],[(2,some (.box [.p (.raw (.string t.name)), .p (i7 t.attrs), .ref 100 i])),(100,some (.arrh 2 48 i [101] (n5 i0 (.ref 101 (l.getD i0 default).vals.length) (lf Row.c l)))),(101,some (.arr true 3 81 (l.getD i0 default).vals.length (lf Val.c (l.getD i0 default).vals)))]⟩) (fun x=>match x with | .inl i=>i ≤ i0 | .inr i=>i0 < i ∧ i ≤ l.length) (fun x=>match x with | .inl i=>l.length - i | .inr i=>l.length - i) (.inl 0) (Nat.zero_le _) ⟨⟨zy,trivial⟩,⟨u9,u9,trivial⟩⟩ ?_
 rintro (i | i) hp
 rcases Nat.lt_or_ge i i0 with hlt | hge
 ·
  have hp:i ≤ i0:=hp
  refine sx7 ?_;refine qy ?_;refine a6 ?_;refine a7 ?_;refine a8 _ rfl (fun r0=>?_) (fun r0=>?_)
  ·
   have h0:=of_decide_eq_true r0
   try simp only [ty] at h0
   refine aa ?_;refine a7 ?_;refine af ?_;refine sx7 ?_;(iterate 2 refine qy ?_);refine m9 3 ?_;refine s9 ?_;refine a6 ?_;refine ax (E:=aq) ae ak [0,1,2,3,4,5,6,7] ?_
   (iterate 3 refine qy ?_);refine rc rfl rfl rfl rfl rfl rfl xl (c98 _ (hr i (by omega)).1) (CoL.refl _) rfl rfl ?_;refine m9 4 ?_;refine ra 5 true rfl rfl rfl rfl rfl rfl ?_;refine qy ?_;refine s9 ?_;refine a6 ?_
   refine ⟨by kernel_rfl, ?_⟩;refine gy ?_;(iterate 2 refine qy ?_);refine a6 ?_;refine ⟨.inl (i + 1), ?_, ?_, ?_⟩
   · show i + 1 ≤ i0
     omega
   · first | omega | (dsimp only;omega) | (show l.length - (i + 1) < l.length - i;omega)
   · exact ⟨⟨zy,c9,c9,c9,c9,trivial⟩,⟨u9,⟨_,rfl,(kz (fun h=>h) (lt2 (CoP.refl _) (CoP.refl _)))⟩,u9,trivial⟩⟩
  ·
   have h0:=of_decide_eq_false r0
   try simp only [ty] at h0
   exfalso
   omega
 ·
  have hp:i ≤ i0:=hp
  obtain rfl:i = i0:=by omega
  refine am8 100 (.arrh 2 48 i [] fun a b=>.p (lf Row.c l a b)) rfl ⟨.inl rfl,rfl,rfl,rfl,fun _ _ _ _=>CoH.refl _⟩ ?_;refine sx7 ?_;refine qy ?_;refine a6 ?_;refine a7 ?_
  refine a8 _ rfl (fun r1=>?_) (fun r1=>?_)
  ·
   have h1:=of_decide_eq_true r1
   try simp only [ty] at h1
   refine aa ?_;refine a7 ?_;refine af ?_;refine sx7 ?_;(iterate 2 refine qy ?_);refine m9 6 ?_;refine s9 ?_;refine a6 ?_;refine ax (E:=aq) ae ak [0,1,2,3,4,5,6,7] ?_
   (iterate 3 refine qy ?_);refine ay rfl rfl rfl rfl rfl rfl xl (av6 (l.getD i default) (hr i (by omega)).1) (bs.refl _) trivial rfl rfl ?_;refine m9 7 ?_;refine ra 8 true rfl rfl rfl rfl rfl rfl ?_
   refine qy ?_;refine s9 ?_;refine a6 ?_;refine ⟨by kernel_rfl, ?_⟩;refine gy ?_;(iterate 2 refine qy ?_);refine a6 ?_;refine ⟨.inr (i + 1), ?_, ?_, ?_⟩
   · show i < i + 1 ∧ i + 1 ≤ l.length
     omega
   · first | omega | (dsimp only;omega) | (show l.length - (i + 1) < l.length - i;omega)
   · exact ⟨⟨zy,c9,c9,c9,c9,trivial⟩,⟨u9,⟨_,rfl,(a58 (CoP.refl _) (CoH.refl _) (fun _ h=>h))⟩,u9,u9,trivial⟩⟩
  ·
   have h1:=of_decide_eq_false r1
   try simp only [ty] at h1
   exfalso
   omega
 ·
  have hp:i0 < i ∧ i ≤ l.length:=hp
  obtain ⟨hp1,hp2⟩:=hp
  refine sx7 ?_;refine qy ?_;refine a6 ?_;refine a7 ?_;refine a8 _ rfl (fun r2=>?_) (fun r2=>?_)
  ·
   have h2:=of_decide_eq_true r2
   try simp only [ty] at h2
   refine aa ?_;refine a7 ?_;refine af ?_;refine sx7 ?_;(iterate 2 refine qy ?_);refine m9 9 ?_;refine s9 ?_;refine a6 ?_;refine ax (E:=aq) ae ak [0,1,2,3,4,5,6,7] ?_
   (iterate 3 refine qy ?_);refine rc rfl rfl rfl rfl rfl rfl xl (c98 _ (hr i (by omega)).1) (CoL.refl _) rfl rfl ?_;refine m9 10 ?_;refine ra 11 true rfl rfl rfl rfl rfl rfl ?_;refine qy ?_;refine s9 ?_
   refine a6 ?_;refine ⟨by kernel_rfl, ?_⟩;refine gy ?_;(iterate 2 refine qy ?_);refine a6 ?_;refine ⟨.inr (i + 1), ?_, ?_, ?_⟩
   · show i0 < i + 1 ∧ i + 1 ≤ l.length
     omega
   · first | omega | (dsimp only;omega) | (show l.length - (i + 1) < l.length - i;omega)
   · exact ⟨⟨zy,c9,c9,c9,c9,trivial⟩,⟨u9,⟨_,rfl,(a86 hp1 (lt2 (CoP.refl _) (CoP.refl _)) (fun _ h=>h))⟩,u9,u9,trivial⟩⟩
  ·
   have h2:=of_decide_eq_false r2
   try simp only [ty] at h2
   obtain rfl:i = l.length:=by omega
   refine au ?_;refine sx7 ?_;refine qy ?_;refine s9 ?_;refine a6 ?_;refine aw ?_;refine ⟨.inr rfl, ?_⟩
   exact ⟨_,_,rfl,(by (repeat' apply And.intro) <;> first | trivial | exact Nat.le_of_ble_eq_true rfl),CoR.refl _,⟨u9,u9,trivial⟩⟩
end Go.Hx
end
section
namespace Go.Hx
open Go.Proofs
set_option maxRecDepth 100000
set_option maxHeartbeats 1000000
theorem ata:aj Tryz.prog 98:=⟨Tryz.f98,Tryz.func98,by kernel_rfl,by kernel_rfl⟩
theorem c61 (t:Tbl) (r:Row):ap Tryz.prog 98 [t.pc,r.pc] (b4 [(gj t r).pc,pI (c4 t r)]):=by
 refine ah (nt:=105) ae Tryz.func98 rfl rfl l9 ?_;refine sx7 ?_;refine m9 0 ?_;refine m9 1 ?_;refine m9 2 ?_;refine qy ?_;refine a6 ?_;refine a7 ?_;refine sx7 ?_;refine qy ?_
 refine rc rfl rfl rfl rfl rfl rfl x7 (c82 _) (CoL.refl _) rfl rfl ?_;refine qy ?_;refine a6 ?_;refine sx7 ?_;(iterate 2 refine qy ?_);refine a6 ?_;refine a8 _ rfl (fun r0=>?_) (fun r0=>?_)
 ·
  have h0:=r0
  have h0:=of_decide_eq_false (be h0)
  try simp only [ty] at h0
  refine sx7 ?_;(iterate 2 refine qy ?_);refine s9 ?_;refine qy ?_;refine a6 ?_;refine aw ?_;refine ⟨.inr rfl, ?_⟩
  have he:c4 t r = c6 t:=by unfold c4;rw [if_pos (by assumption)]
  rw [gz he (by first | assumption | omega | decide)]
  exact f9 rfl rfl (⟨CoC.agg ⟨CoP.refl _,bd,bd,trivial⟩,cci he.symm,trivial⟩)
 ·
  have h0:=r0
  have h0:=of_decide_eq_true (bf h0)
  try simp only [ty] at h0
  have hT:=ek.1 h0
  have hok:=hT.ok
  refine aa ?_;refine a7 ?_;refine sx7 ?_;(iterate 7 refine qy ?_);refine a6 ?_;refine a8 _ rfl (fun r1=>?_) (fun r1=>?_)
  ·
   have h1:=r1
   have h1:=of_decide_eq_false (be h1)
   try simp only [ty] at h1
   refine sx7 ?_;refine qy ?_;refine s9 ?_;refine qy ?_;refine a6 ?_;refine aw ?_;refine ⟨.inr rfl, ?_⟩
   have he:c4 t r = 6:=by unfold c4;rw [if_neg (by omega),if_pos (by omega)]
   rw [gz he (by first | assumption | omega | decide)]
   exact f9 rfl rfl (⟨CoC.agg ⟨CoP.refl _,bd,bd,trivial⟩,cci he.symm,trivial⟩)
  ·
   have h1:=r1
   have h1:=of_decide_eq_true (bf h1)
   try simp only [ty] at h1
   refine aa ?_;refine a7 ?_;refine sx7 ?_;(iterate 4 refine qy ?_);refine b5 rfl rfl (fun r2=>?_) (fun r2=>?_)
   ·
    have h2:=of_decide_eq_true r2
    try simp only [ty] at h2
    (iterate 4 refine k9 (gtf r2) ?_);refine rq rfl rfl rfl rfl rfl ?_ (hp:=r2);refine a6 ?_;refine a8 _ rfl (fun _=>?_) (fun e=>by cases e);refine sx7 ?_;refine qy ?_;refine s9 ?_;refine qy ?_
    refine a6 ?_;refine aw ?_;refine ⟨.inr rfl, ?_⟩
    have he:c4 t r = 1:=by unfold c4;rw [if_neg (by omega),if_neg (by omega),if_pos (by first | exact .inl (by omega) | exact .inr (by assumption))]
    rw [gz he (by first | assumption | omega | decide)]
    exact f9 rfl rfl (⟨CoC.agg ⟨CoP.refl _,bd,bd,trivial⟩,cci he.symm,trivial⟩)
   ·
    have h2:=of_decide_eq_false r2
    try simp only [ty] at h2
    (iterate 2 refine qy ?_ (hg:=(gff r2)));refine rc rfl rfl rfl rfl rfl rfl ag6 (c83 _) (CoL.refl _) rfl (gff r2) ?_;refine qy ?_ (hg:=(gff r2));refine qy ?_;refine a6 ?_
    refine a8 _ rfl (fun r3=>?_) (fun r3=>?_)
    ·
     have h3:=r3
     have h3:=bv r2 h3
     have h3:=be h3
     refine sx7 ?_;refine qy ?_;refine s9 ?_;refine qy ?_;refine a6 ?_;refine aw ?_;refine ⟨.inr rfl, ?_⟩
     have he:c4 t r = 1:=by unfold c4;rw [if_neg (by omega),if_neg (by omega),if_pos (by first | exact .inl (by omega) | exact .inr (by assumption))]
     rw [gz he (by first | assumption | omega | decide)]
     exact f9 rfl rfl (⟨CoC.agg ⟨CoP.refl _,bd,bd,trivial⟩,cci he.symm,trivial⟩)
    ·
     have h3:=r3
     have h3:=bv r2 h3
     have h3:=bf h3
     refine aa ?_;refine a7 ?_;refine sx7 ?_;(iterate 3 refine qy ?_);refine rc rfl rfl rfl rfl rfl rfl acb (c62 _ _) (CoL.refl _) rfl rfl ?_;(iterate 5 refine qy ?_);refine a6 ?_;refine sx7 ?_
     refine qy ?_;refine a6 ?_;refine a8 _ rfl (fun r4=>?_) (fun r4=>?_)
     ·
      have h4:=r4
      have h42:=of_decide_eq_true h4
      refine sx7 ?_;refine qy ?_;refine s9 ?_;refine qy ?_;refine a6 ?_;refine aw ?_;refine ⟨.inr rfl, ?_⟩
      have he:c4 t r = 5:=by unfold c4;rw [if_neg (by omega),if_neg (by omega),if_neg (by rintro (h | h) <;> first | omega | simp_all),if_pos (by assumption)]
      rw [gz he (by first | assumption | omega | decide)]
      exact f9 rfl rfl (⟨CoC.agg ⟨CoP.refl _,bd,bd,trivial⟩,cci he.symm,trivial⟩)
     ·
      have h4:=r4
      have h42:=of_decide_eq_false h4
      refine aa ?_;refine a7 ?_;refine sx7 ?_;(iterate 4 refine qy ?_);refine a6 ?_;refine a8 _ rfl (fun r5=>?_) (fun r5=>?_)
      ·
       have h5:=of_decide_eq_true r5
       try simp only [ty] at h5
       refine sx7 ?_;refine qy ?_;refine s9 ?_;refine qy ?_;refine a6 ?_;refine aw ?_;refine ⟨.inr rfl, ?_⟩
       have he:c4 t r = 3:=by unfold c4;rw [if_neg (by omega),if_neg (by omega),if_neg (by rintro (h | h) <;> first | omega | simp_all),if_neg (by omega),if_pos (by omega)]
       rw [gz he (by first | assumption | omega | decide)]
       exact f9 rfl rfl (⟨CoC.agg ⟨CoP.refl _,bd,bd,trivial⟩,cci he.symm,trivial⟩)
      ·
       have h5:=of_decide_eq_false r5
       try simp only [ty] at h5
       refine aa ?_;refine a7 ?_
       have hie:c4 t r = 0:=by unfold c4;rw [if_neg (by omega),if_neg (by omega),if_neg (by rintro (h | h) <;> first | omega | simp_all),if_neg (by omega),if_neg (by omega)]
       refine gy ?_;(iterate 3 refine qy ?_);refine ay rfl rfl rfl rfl rfl rfl aa9 (avt t t.rows hok.1 hok.2.1 hok.2.2) (bs.refl _) trivial rfl rfl ?_;refine m9 3 ?_;refine s9 ?_;refine a6 ?_
       refine a7 ?_;refine ax (E:=aq) ae ak [0,1,2,3,4,5,6,7] ?_;(iterate 3 refine qy ?_);refine rc rfl rfl rfl rfl rfl rfl sy (c85 r (by have:=hT.na;omega)) (CoL.refl _) rfl rfl ?_
       refine m9 4 ?_;refine ra 5 true rfl rfl rfl rfl rfl rfl ?_;refine qy ?_;refine s9 ?_;refine a6 ?_;refine ⟨by kernel_rfl, ?_⟩;refine a7 ?_;refine sx7 ?_;(iterate 5 refine qy ?_);refine a6 ?_
       refine af ?_
       refine av (ι:=Nat) ⟨[(4,some _),(9,some _)],[(2,some _)]⟩ ⟨⟨c9,c9,trivial⟩,⟨u9,trivial⟩⟩ (fun k=>⟨[(10,some (vI k))],[(3,some (.box [.p (.raw (.string t.name)), .p (i7 t.attrs), .ref 100 (t.rows.length + 1)])),(100,some (.arr true 2 48 (t.rows.length + 1) (lf Row.c (dy t.rows k r))))]⟩) (fun k=>k ≤ t.rows.length ∧ ∀ j,k ≤ j → j < t.rows.length → r.id < (t.rows.getD j default).id) (fun k=>k) (t.rows.length) (⟨Nat.le_refl _,fun j h1 h2=>by omega⟩) ⟨⟨zy,trivial⟩,⟨u9,⟨_,rfl,(ap4 (lt2 (CoP.refl _) (CoP.refl _)))⟩,trivial⟩⟩ ?_
       rintro k ⟨hk,hK⟩
       (iterate 2 refine a7 ?_);refine ax (E:=aq) ae ak [0,1,2,3,4,5,6,7,8,9,10,11,12,13,14,15,16,17] ?_;(iterate 3 refine qy ?_)
       refine b5 rfl rfl (fun r6=>?_) (fun r6=>?_)
       ·
        have h6:=of_decide_eq_true r6
        try simp only [ty] at h6
        (iterate 14 refine qy ?_ (hg:=(gtt r6)));refine qy ?_;refine a6 ?_;refine ⟨by kernel_rfl, ?_⟩;refine a8 _ rfl (fun r7=>?_) (fun r7=>?_)
        ·
         have h7:=r7
         have h7:=d4 r6 h7
         have h7:=of_decide_eq_true h7
         try simp only [ty] at h7
         have hlt:=ake (by omega) hk h7 (by omega) (by omega)
         refine aa ?_;refine a7 ?_;refine af ?_;refine ax (E:=aq) ae ak [0,1,2,3,4,5,6,7,8,9,10,11,12,13,14,15,16,17,18,19,20,21] ?_;(iterate 19 refine qy ?_)
         refine s9 ?_;refine qy ?_;refine s9 ?_;refine a6 ?_;refine ⟨by kernel_rfl, ?_⟩;refine gy ?_;(iterate 3 refine qy ?_);refine a6 ?_;refine ⟨k - 1, ?_, ?_, ?_⟩
         · refine ⟨by omega,fun j h1 h2=>?_⟩
           by_cases hj:j = k - 1
           · rw [hj];exact hlt
           · exact hK j (by omega) h2
         · show k - 1 < k
           omega
         · exact ⟨⟨zy,c9,c9,trivial⟩,⟨u9,⟨_,rfl,(ak8 (by omega) hk (by omega) (by omega) rfl)⟩,u9,trivial⟩⟩
        ·
         have h7:=r7
         have h7:=d4 r6 h7
         have h7:=of_decide_eq_false h7
         try simp only [ty] at h7
         have hlt:=ajl (by omega) hk h7 (by omega) (by omega)
         refine au ?_;refine sx7 ?_;refine qy ?_;refine s9 ?_;refine qy ?_;refine a6 ?_;refine aw ?_;refine ⟨.inr rfl, ?_⟩
         rw [l6 hie,← sk (fu hT.rs) hk hK (by first | exact .inl (by omega) | exact .inr hlt)]
         exact f9 rfl rfl (⟨CoC.agg ⟨CoP.refl _,CoP.refl _,CoP.sl (lw hk) (.inl rfl) (fun h=>h) (fun _ _ _ _=>CoP.refl _),trivial⟩,cci hie.symm,trivial⟩)
       ·
        have h6:=of_decide_eq_false r6
        try simp only [ty] at h6
        (iterate 14 refine k9 (gft r6) ?_);refine rq rfl rfl rfl rfl rfl ?_ (hp:=r6);refine a6 ?_;refine ⟨by kernel_rfl, ?_⟩;refine a8 _ rfl (fun e=>by cases e) (fun _=>?_);refine au ?_
        refine sx7 ?_;refine qy ?_;refine s9 ?_;refine qy ?_;refine a6 ?_;refine aw ?_;refine ⟨.inr rfl, ?_⟩
        rw [l6 hie,← sk (fu hT.rs) hk hK (by first | exact .inl (by omega) | exact .inr hlt)]
        exact f9 rfl rfl (⟨CoC.agg ⟨CoP.refl _,CoP.refl _,CoP.sl (lw hk) (.inl rfl) (fun h=>h) (fun _ _ _ _=>CoP.refl _),trivial⟩,cci hie.symm,trivial⟩)
end Go.Hx
end
section
namespace Go.Hx
open Go.Proofs
set_option maxRecDepth 100000
set_option maxHeartbeats 1000000
theorem asf:aj Tryz.prog 54:=⟨Tryz.f54,Tryz.func54,by kernel_rfl,by kernel_rfl⟩
theorem c74 (t:Tbl) (id:Int):ap Tryz.prog 54 [t.pc,pI id] (b4 [(ml t id).pc,pI (dq t id)]):=by
 refine ah (nt:=38) ae Tryz.func54 rfl rfl l9 ?_;refine sx7 ?_;refine m9 0 ?_;refine m9 1 ?_;refine qy ?_;refine a6 ?_;refine a7 ?_;refine sx7 ?_;refine qy ?_
 refine rc rfl rfl rfl rfl rfl rfl x7 (c82 _) (CoL.refl _) rfl rfl ?_;refine qy ?_;refine a6 ?_;refine sx7 ?_;(iterate 2 refine qy ?_);refine a6 ?_;refine a8 _ rfl (fun r0=>?_) (fun r0=>?_)
 ·
  have h0:=r0
  have h0:=of_decide_eq_false (be h0)
  try simp only [ty] at h0
  refine sx7 ?_;(iterate 2 refine qy ?_);refine s9 ?_;refine qy ?_;refine a6 ?_;refine aw ?_;refine ⟨.inr rfl, ?_⟩
  have he:dq t id = c6 t:=by unfold dq;rw [if_pos (by assumption)]
  rw [yo he (by first | assumption | omega | decide)]
  exact f9 rfl rfl (⟨CoC.agg ⟨CoP.refl _,bd,bd,trivial⟩,cci he.symm,trivial⟩)
 ·
  have h0:=r0
  have h0:=of_decide_eq_true (bf h0)
  try simp only [ty] at h0
  have hT:=ek.1 h0
  have hok:=hT.ok
  refine aa ?_;refine sx7 ?_;(iterate 2 refine qy ?_);refine rc rfl rfl rfl rfl rfl rfl acb (c62 _ _) (CoL.refl _) rfl rfl ?_;(iterate 5 refine qy ?_);refine a6 ?_;refine a7 ?_;refine sx7 ?_
  (iterate 2 refine qy ?_);refine a6 ?_;refine a8 _ rfl (fun r1=>?_) (fun r1=>?_)
  ·
   have h1:=r1
   have h1:=be h1
   have hfd:=of_decide_eq_false h1
   refine sx7 ?_;refine qy ?_;refine s9 ?_;refine qy ?_;refine a6 ?_;refine aw ?_;refine ⟨.inr rfl, ?_⟩
   have he:dq t id = 4:=by unfold dq;rw [if_neg (by omega),if_neg (by omega)]
   rw [yo he (by first | assumption | omega | decide)]
   exact f9 rfl rfl (⟨CoC.agg ⟨CoP.refl _,bd,bd,trivial⟩,cci he.symm,trivial⟩)
  ·
   have h1:=r1
   have h1:=bf h1
   have hfd:=of_decide_eq_true h1
   have hix:=zf hfd
   refine aa ?_;refine a7 ?_
   have he:dq t id = 0:=by unfold dq;rw [if_neg (by omega),if_pos (by assumption)]
   have hnr:=hT.nr
   refine ax (E:=aq) ae ak [0,1,2,3,4,5,6,7,8,9,10,11,12,13,14,15] ?_;refine qy ?_;refine m9 2 ?_;(iterate 4 refine qy ?_);refine ra 3 true rfl rfl rfl rfl rfl rfl ?_
   (iterate 5 refine qy ?_);refine ra 4 true rfl rfl rfl rfl rfl rfl ?_
   refine ay rfl rfl rfl rfl rfl rfl aa9 (ap.eat (hcs:=[t.pc.toH, .one (.ref 2 (t.rows.take (max (az t.rows id) 0).toNat ++ t.rows.drop (max (az t.rows id) 0 + 1).toNat).length)]) (o1:=[(2, .arr true 2 48 (t.rows.take (max (az t.rows id) 0).toNat ++ t.rows.drop (max (az t.rows id) 0 + 1).toNat).length (lf Row.c (t.rows.take (max (az t.rows id) 0).toNat ++ t.rows.drop (max (az t.rows id) 0 + 1).toNat)))]) (c84 t (t.rows.take (max (az t.rows id) 0).toNat ++ t.rows.drop (max (az t.rows id) 0 + 1).toNat) hok.1 (by simp;omega) (fun j hj=>(hok.2.2:js t.rows).sub (fun x hx=>(List.mem_append.1 hx).elim (fun h=>List.mem_of_mem_take h) (fun h=>List.mem_of_mem_drop h)) j hj)) rfl (by (repeat' apply And.intro) <;> first | trivial | rfl) (CoL.refl _)) (⟨pn.refl _,congrArg (HV.ref 2) (by show 0 + (max (az t.rows id) 0).toNat + (t.rows.length - (max (az t.rows id) 0 + 1).toNat) = _;simp;omega),trivial⟩) ⟨⟨_,rfl,asw (l:=t.rows) (a:=(max (az t.rows id) 0).toNat) (b:=(max (az t.rows id) 0 + 1).toNat) (by omega)⟩,trivial⟩ rfl rfl ?_
   refine s9 ?_;refine qy ?_;refine a6 ?_;refine ⟨by kernel_rfl, ?_⟩;refine aw ?_;refine ⟨.inr rfl, ?_⟩
   have hL:(t.rows.take (max (az t.rows id) 0).toNat ++ t.rows.drop (max (az t.rows id) 0 + 1).toNat) = t.rows.eraseIdx (az t.rows id).toNat:=by rw [← abw,show (max (az t.rows id) 0).toNat = (az t.rows id).toNat from by omega,show (max (az t.rows id) 0 + 1).toNat = (az t.rows id).toNat + 1 from by omega]
   rw [nu he,← hL]
   exact f9 rfl rfl (⟨CoC.refl _,cci he.symm,trivial⟩)
theorem aq6:aj Tryz.prog 55:=⟨Tryz.f55,Tryz.func55,by kernel_rfl,by kernel_rfl⟩
theorem c63 (t:Tbl) (id attr:Int) (v:Val):ap Tryz.prog 55 [t.pc, .agg [.raw (.int .i64 id), .raw (.int .i64 attr)],v.pc] (b4 [(chT t id attr v).pc,pI (cz t id attr v)]):=by
 refine ah (nt:=59) ae Tryz.func55 rfl rfl l9 ?_;refine sx7 ?_;refine m9 0 ?_;refine m9 1 ?_;refine m9 2 ?_;refine m9 3 ?_;refine qy ?_;refine a6 ?_;refine a7 ?_;refine sx7 ?_;refine qy ?_
 refine rc rfl rfl rfl rfl rfl rfl x7 (c82 _) (CoL.refl _) rfl rfl ?_;refine qy ?_;refine a6 ?_;refine sx7 ?_;(iterate 2 refine qy ?_);refine a6 ?_;refine a8 _ rfl (fun r0=>?_) (fun r0=>?_)
 ·
  have h0:=r0
  have h0:=of_decide_eq_false (be h0)
  try simp only [ty] at h0
  refine sx7 ?_;(iterate 2 refine qy ?_);refine s9 ?_;refine qy ?_;refine a6 ?_;refine aw ?_;refine ⟨.inr rfl, ?_⟩
  have he:cz t id attr v = c6 t:=by unfold cz;rw [if_pos (by assumption)]
  rw [ks he (by first | assumption | omega | decide)]
  exact f9 rfl rfl (⟨CoC.agg ⟨CoP.refl _,bd,bd,trivial⟩,cci he.symm,trivial⟩)
 ·
  have h0:=r0
  have h0:=of_decide_eq_true (bf h0)
  try simp only [ty] at h0
  have hT:=ek.1 h0
  have hok:=hT.ok
  refine aa ?_;refine sx7 ?_;(iterate 3 refine qy ?_);refine rc rfl rfl rfl rfl rfl rfl acb (c62 _ _) (CoL.refl _) rfl rfl ?_;(iterate 5 refine qy ?_);refine a6 ?_;refine a7 ?_;refine sx7 ?_
  (iterate 2 refine qy ?_);refine a6 ?_;refine a8 _ rfl (fun r1=>?_) (fun r1=>?_)
  ·
   have h1:=r1
   have h1:=be h1
   have hfd:=of_decide_eq_false h1
   refine sx7 ?_;refine qy ?_;refine s9 ?_;refine qy ?_;refine a6 ?_;refine aw ?_;refine ⟨.inr rfl, ?_⟩
   have he:cz t id attr v = 4:=by unfold cz;rw [if_neg (by omega),if_pos (by assumption)]
   rw [ks he (by first | assumption | omega | decide)]
   exact f9 rfl rfl (⟨CoC.agg ⟨CoP.refl _,bd,bd,trivial⟩,cci he.symm,trivial⟩)
  ·
   have h1:=r1
   have h1:=bf h1
   have hfd:=of_decide_eq_true h1
   have hix:=zf hfd
   refine aa ?_;refine a7 ?_;refine sx7 ?_;(iterate 4 refine qy ?_);refine b5 rfl rfl (fun r2=>?_) (fun r2=>?_)
   ·
    have h2:=of_decide_eq_true r2
    try simp only [ty] at h2
    (iterate 6 refine k9 (gtf r2) ?_);refine rq rfl rfl rfl rfl rfl ?_ (hp:=r2);refine a6 ?_;refine a8 _ rfl (fun _=>?_) (fun e=>by cases e);refine sx7 ?_;refine qy ?_;refine s9 ?_;refine qy ?_
    refine a6 ?_;refine aw ?_;refine ⟨.inr rfl, ?_⟩
    have he:cz t id attr v = 6:=by unfold cz;rw [if_neg (by omega),if_neg (by simpa using hfd),if_pos (by first | exact .inl (by assumption) | exact .inr (by assumption))]
    rw [ks he (by first | assumption | omega | decide)]
    exact f9 rfl rfl (⟨CoC.agg ⟨CoP.refl _,bd,bd,trivial⟩,cci he.symm,trivial⟩)
   ·
    have h2:=of_decide_eq_false r2
    try simp only [ty] at h2
    (iterate 6 refine qy ?_ (hg:=(gff r2)));refine qy ?_;refine a6 ?_;refine a8 _ rfl (fun r3=>?_) (fun r3=>?_)
    ·
     have h3:=r3
     have h3:=bv r2 h3
     have h3:=of_decide_eq_true h3
     try simp only [ty] at h3
     refine sx7 ?_;refine qy ?_;refine s9 ?_;refine qy ?_;refine a6 ?_;refine aw ?_;refine ⟨.inr rfl, ?_⟩
     have he:cz t id attr v = 6:=by unfold cz;rw [if_neg (by omega),if_neg (by simpa using hfd),if_pos (by first | exact .inl (by assumption) | exact .inr (by assumption))]
     rw [ks he (by first | assumption | omega | decide)]
     exact f9 rfl rfl (⟨CoC.agg ⟨CoP.refl _,bd,bd,trivial⟩,cci he.symm,trivial⟩)
    ·
     have h3:=r3
     have h3:=bv r2 h3
     have h3:=of_decide_eq_false h3
     try simp only [ty] at h3
     refine aa ?_;refine a7 ?_;refine sx7 ?_;refine qy ?_;refine rc rfl rfl rfl rfl rfl rfl agv (c86 _) (CoL.refl _) rfl rfl ?_;refine qy ?_;refine a6 ?_;refine a8 _ rfl (fun r4=>?_) (fun r4=>?_)
     ·
      have h4:=r4
      have h4:=be h4
      refine sx7 ?_;refine qy ?_;refine s9 ?_;refine qy ?_;refine a6 ?_;refine aw ?_;refine ⟨.inr rfl, ?_⟩
      have he:cz t id attr v = 1:=by unfold cz;rw [if_neg (by omega),if_neg (by simpa using hfd),if_neg (by rintro (h | h) <;> omega),if_pos (by assumption)]
      rw [ks he (by first | assumption | omega | decide)]
      exact f9 rfl rfl (⟨CoC.agg ⟨CoP.refl _,bd,bd,trivial⟩,cci he.symm,trivial⟩)
     ·
      have h4:=r4
      have h4:=bf h4
      refine aa ?_;refine a7 ?_
      have hw:=hT.width hix
      have he:cz t id attr v = 0:=by unfold cz;rw [if_neg (by omega),if_neg (by simpa using hfd),if_neg (by rintro (h | h) <;> omega),if_neg (by simp_all)]
      refine gy ?_;(iterate 3 refine qy ?_);refine ay rfl rfl rfl rfl rfl rfl aa9 (auz t t.rows hok.1 hok.2.1 hok.2.2 (max (az t.rows id) 0).toNat hix) (bs.refl _) trivial rfl rfl ?_;refine m9 4 ?_
      refine s9 ?_;refine a6 ?_;refine a7 ?_;refine ax (E:=aq) ae ak [0,1,2,3,4,5,6,7,8,9,10] ?_;(iterate 5 refine qy ?_)
      refine rq (out:=⟨_, .v (.one (.ref 101 (t.rows.getD (max (az t.rows id) 0).toNat default).vals.length))⟩) rfl rfl rfl (congrArg (fun h=>some (Out.mk _ (HR.v (HC.one h)))) (if_pos ⟨rfl,rfl⟩)) rfl ?_
      (iterate 4 refine qy ?_);refine s9 ?_;refine a6 ?_;refine ⟨by kernel_rfl, ?_⟩;refine wv 100 (id:=101) (lf Row.c (ll t.rows (max (az t.rows id) 0).toNat attr.toNat v)) rfl rfl rfl ?_ ?_
      · exact a7o hix rfl (by omega) rfl rfl (lt3 (CoP.refl _) (CoP.refl _) (CoP.refl _))
      refine sx7 ?_;refine qy ?_;refine s9 ?_;refine qy ?_;refine a6 ?_;refine aw ?_;refine ⟨.inr rfl, ?_⟩
      rw [qt he,show (az t.rows id).toNat = (max (az t.rows id) 0).toNat from by omega]
      exact f9 rfl rfl (⟨CoC.agg ⟨CoP.refl _,CoP.refl _,CoP.sl ye (.inl rfl) (fun h=>h) (fun _ _ _ _=>CoP.refl _),trivial⟩,cci he.symm,trivial⟩)
theorem arh:aj Tryz.prog 66:=⟨Tryz.f66,Tryz.func66,by kernel_rfl,by kernel_rfl⟩
theorem c72 (t:Tbl) (id attr:Int) (v:Val):ap Tryz.prog 66 [t.pc, .agg [.raw (.int .i64 id), .raw (.int .i64 attr)],v.pc] (b4 [(chT t id attr v).pc,pI (cz t id attr v)]):=by
 refine ah (nt:=62) ae Tryz.func66 rfl rfl l9 ?_;refine sx7 ?_;refine m9 0 ?_;refine m9 1 ?_;refine m9 2 ?_;refine m9 3 ?_;refine qy ?_;refine a6 ?_;refine a7 ?_;refine sx7 ?_;refine qy ?_
 refine rc rfl rfl rfl rfl rfl rfl a44 (c88 _) (CoL.refl _) rfl rfl ?_;refine qy ?_;refine a6 ?_;refine sx7 ?_;(iterate 2 refine qy ?_);refine a6 ?_;refine a8 _ rfl (fun r0=>?_) (fun r0=>?_)
 ·
  have h0:=r0
  have h0:=of_decide_eq_false (be h0)
  try simp only [ty] at h0
  refine sx7 ?_;(iterate 2 refine qy ?_);refine s9 ?_;refine qy ?_;refine a6 ?_;refine aw ?_;refine ⟨.inr rfl, ?_⟩
  have he:cz t id attr v = c6 t:=by unfold cz;rw [if_pos (by assumption)]
  rw [ks he (by first | assumption | omega | decide)]
  exact f9 rfl rfl (⟨CoC.agg ⟨CoP.refl _,bd,bd,trivial⟩,cci he.symm,trivial⟩)
 ·
  have h0:=r0
  have h0:=of_decide_eq_true (bf h0)
  try simp only [ty] at h0
  have hT:=ek.1 h0
  have hok:=hT.ok
  refine aa ?_;refine sx7 ?_;(iterate 3 refine qy ?_);refine rc rfl rfl rfl rfl rfl rfl zu (c68 _ _) (CoL.refl _) rfl rfl ?_;(iterate 5 refine qy ?_);refine a6 ?_;refine a7 ?_;refine af ?_
  refine sx7 ?_;(iterate 3 refine qy ?_);refine a6 ?_;refine a8 _ rfl (fun r1=>?_) (fun r1=>?_)
  ·
   have h1:=r1
   have h1:=be h1
   have hfd:=of_decide_eq_false h1
   refine sx7 ?_;refine qy ?_;refine s9 ?_;refine qy ?_;refine a6 ?_;refine aw ?_;refine ⟨.inr rfl, ?_⟩
   have he:cz t id attr v = 4:=by unfold cz;rw [if_neg (by omega),if_pos (by assumption)]
   rw [ks he (by first | assumption | omega | decide)]
   exact f9 rfl rfl (⟨CoC.agg ⟨CoP.refl _,bd,bd,trivial⟩,cci he.symm,trivial⟩)
  ·
   have h1:=r1
   have h1:=bf h1
   have hfd:=of_decide_eq_true h1
   have hix:=zf hfd
   refine sx7 ?_;(iterate 4 refine qy ?_);refine b5 rfl rfl (fun r2=>?_) (fun r2=>?_)
   ·
    have h2:=of_decide_eq_true r2
    try simp only [ty] at h2
    (iterate 6 refine k9 (gtf r2) ?_);refine rq rfl rfl rfl rfl rfl ?_ (hp:=r2);refine qy ?_;refine a6 ?_;refine a8 _ rfl (fun _=>?_) (fun e=>by cases e);refine sx7 ?_;refine qy ?_;refine s9 ?_
    refine qy ?_;refine a6 ?_;refine aw ?_;refine ⟨.inr rfl, ?_⟩
    have he:cz t id attr v = 6:=by unfold cz;rw [if_neg (by omega),if_neg (by simpa using hfd),if_pos (by first | exact .inl (by assumption) | exact .inr (by assumption))]
    rw [ks he (by first | assumption | omega | decide)]
    exact f9 rfl rfl (⟨CoC.agg ⟨CoP.refl _,bd,bd,trivial⟩,cci he.symm,trivial⟩)
   ·
    have h2:=of_decide_eq_false r2
    try simp only [ty] at h2
    (iterate 6 refine qy ?_ (hg:=(gff r2)));(iterate 2 refine qy ?_);refine a6 ?_;refine a8 _ rfl (fun r3=>?_) (fun r3=>?_)
    ·
     have h3:=r3
     have h3:=bv r2 h3
     have h3:=of_decide_eq_true h3
     try simp only [ty] at h3
     refine sx7 ?_;refine qy ?_;refine s9 ?_;refine qy ?_;refine a6 ?_;refine aw ?_;refine ⟨.inr rfl, ?_⟩
     have he:cz t id attr v = 6:=by unfold cz;rw [if_neg (by omega),if_neg (by simpa using hfd),if_pos (by first | exact .inl (by assumption) | exact .inr (by assumption))]
     rw [ks he (by first | assumption | omega | decide)]
     exact f9 rfl rfl (⟨CoC.agg ⟨CoP.refl _,bd,bd,trivial⟩,cci he.symm,trivial⟩)
    ·
     have h3:=r3
     have h3:=bv r2 h3
     have h3:=of_decide_eq_false h3
     try simp only [ty] at h3
     refine sx7 ?_;refine qy ?_;refine rc rfl rfl rfl rfl rfl rfl aed (c76 _) (CoL.refl _) rfl rfl ?_;(iterate 2 refine qy ?_);refine a6 ?_;refine a8 _ rfl (fun r4=>?_) (fun r4=>?_)
     ·
      have h4:=r4
      have h4:=be h4
      refine sx7 ?_;refine qy ?_;refine s9 ?_;refine qy ?_;refine a6 ?_;refine aw ?_;refine ⟨.inr rfl, ?_⟩
      have he:cz t id attr v = 1:=by unfold cz;rw [if_neg (by omega),if_neg (by simpa using hfd),if_neg (by rintro (h | h) <;> omega),if_pos (by assumption)]
      rw [ks he (by first | assumption | omega | decide)]
      exact f9 rfl rfl (⟨CoC.agg ⟨CoP.refl _,bd,bd,trivial⟩,cci he.symm,trivial⟩)
     ·
      have h4:=r4
      have h4:=bf h4
      refine aa ?_;refine a7 ?_
      have hw:=hT.width hix
      have he:cz t id attr v = 0:=by unfold cz;rw [if_neg (by omega),if_neg (by simpa using hfd),if_neg (by rintro (h | h) <;> omega),if_neg (by simp_all)]
      refine gy ?_;(iterate 3 refine qy ?_);refine ay rfl rfl rfl rfl rfl rfl a9x (avh t t.rows hok.1 hok.2.1 hok.2.2 (max (az t.rows id) 0).toNat hix) (bs.refl _) trivial rfl rfl ?_;refine m9 4 ?_
      refine s9 ?_;refine a6 ?_;refine a7 ?_;refine ax (E:=aq) ae ak [0,1,2,3,4,5,6,7,8,9,10] ?_;(iterate 5 refine qy ?_)
      refine rq (out:=⟨_, .v (.one (.ref 101 (t.rows.getD (max (az t.rows id) 0).toNat default).vals.length))⟩) rfl rfl rfl (congrArg (fun h=>some (Out.mk _ (HR.v (HC.one h)))) (if_pos ⟨rfl,rfl⟩)) rfl ?_
      (iterate 4 refine qy ?_);refine s9 ?_;refine a6 ?_;refine ⟨by kernel_rfl, ?_⟩;refine wv 100 (id:=101) (lf Row.c (ll t.rows (max (az t.rows id) 0).toNat attr.toNat v)) rfl rfl rfl ?_ ?_
      · exact a7o hix rfl (by omega) rfl rfl (lt3 (CoP.refl _) (CoP.refl _) (CoP.refl _))
      refine sx7 ?_;refine qy ?_;refine s9 ?_;refine qy ?_;refine a6 ?_;refine aw ?_;refine ⟨.inr rfl, ?_⟩
      rw [qt he,show (az t.rows id).toNat = (max (az t.rows id) 0).toNat from by omega]
      exact f9 rfl rfl (⟨CoC.agg ⟨CoP.refl _,CoP.refl _,CoP.sl ye (.inl rfl) (fun h=>h) (fun _ _ _ _=>CoP.refl _),trivial⟩,cci he.symm,trivial⟩)
end Go.Hx
end

/- A part of the proof: Y7 Bz7 Y8 Bz8 Y9 Bz9 Bz10. -/
import Derived.Test.YtidophngianjiaaGreatDoorBx14
import Derived.Test.YtidophngianjiaaGreatDoorBx35
set_option linter.all false
section
namespace Go.Hx
open Go.Proofs
set_option maxRecDepth 100000
set_option maxHeartbeats 1000000
theorem ahp:goodFn Tryz.prog 187:=⟨Tryz.f187,Tryz.func187,by kernel_rfl,by kernel_rfl⟩
theorem b3p (T:List AS) (d:Fd) (s:AS) (hq:fdT d T = some s) (hT:T.length ≤ 8589934592):dg Tryz.prog 187 [.one (.ptr 1000 0),d.pc.toH] [(1000, .box [.ref 901 T.length]),(901, .arr true 1 38 T.length (lf sC T))] (.v (.one (.p (.raw (.bool true))))) [(1000, .box [.ref 901 (ir T s).length]),(901, .arr true 1 38 (ir T s).length (lf sC (ir T s)))] [1000]:=by
 refine eq (nt:=59) ae Tryz.func187 rfl rfl l9 rfl ?_;refine sx7 ?_;refine m9 0 ?_;refine qy ?_;refine a6 ?_;refine a7 ?_;refine sx7 ?_;refine qy ?_;refine a6 ?_;refine ab ?_
 refine aj (ι:=Nat) ⟨[(0,some _),(3,some _)],[(1000,some _),(901,some _),(0,some _)]⟩ ⟨⟨c9,c9,trivial⟩,⟨u9,u9,u9,trivial⟩⟩ (fun i=>⟨[(5,some (vI i))],[]⟩) (fun i=>i ≤ T.length ∧ (T.take i).findSome? (fdQ d T) = none) (fun i=>T.length - i) (0) (⟨Nat.zero_le _,rfl⟩) ⟨⟨⟨_,rfl,(CoR.refl _)⟩,trivial⟩,trivial⟩ ?_
 rintro i ⟨hi,hI⟩
 refine a7 ?_;refine sx7 ?_;(iterate 7 refine qy ?_);refine a6 ?_;refine a8 _ rfl (fun r0=>?_) (fun r0=>?_)
 ·
  have h0:=of_decide_eq_true r0
  try simp only [ty] at h0
  have hil:i < T.length:=by omega
  refine aa ?_;refine a7 ?_;refine ab ?_;refine sx7 ?_;refine qy ?_;refine a6 ?_;refine ab ?_
  refine aj (ι:=Nat) ⟨[(0,some _),(3,some _),(5,some _)],[(1000,some _),(901,some _),(0,some _)]⟩ ⟨⟨c9,c9,c9,trivial⟩,⟨u9,u9,u9,trivial⟩⟩ (fun k=>⟨[(6,some (vI k))],[]⟩) (fun k=>k ≤ T.length ∧ (T.take k).findSome? (fdP d (T.getD i default)) = none) (fun k=>T.length - k) (0) (⟨Nat.zero_le _,rfl⟩) ⟨⟨⟨_,rfl,(CoR.refl _)⟩,trivial⟩,trivial⟩ ?_
  rintro k ⟨hk,hK⟩
  refine a7 ?_;refine sx7 ?_;(iterate 7 refine qy ?_);refine a6 ?_;refine a8 _ rfl (fun r1=>?_) (fun r1=>?_)
  ·
   have h1:=of_decide_eq_true r1
   try simp only [ty] at h1
   have hkl:k < T.length:=by omega
   refine aa ?_;refine a7 ?_;refine ab ?_;refine a7 ?_;refine ax (E:=bf) ae ar [0,1,2,3,4,5,6,7,8,9,10,11,12,13,14,15] ?_;(iterate 14 refine qy ?_)
   refine rq (out:=⟨_, .v (.one (.p (asC ((T.getD i default) ^^^ (T.getD k default)))))⟩) rfl rfl rfl (congrArg (fun z=>some (Out.mk _ (HR.v (HC.one (HV.p (.raw (.int .u32 z))))))) (aif _ _)) rfl ?_;refine qy ?_
   refine a6 ?_;refine ⟨by kernel_rfl, ?_⟩;refine sx7 ?_;(iterate 6 refine qy ?_);refine b4 rfl rfl (fun r2=>?_) (fun r2=>?_)
   ·
    have h2:=of_decide_eq_true r2
    try simp only [ty] at h2
    have g1:((T.getD i default) ^^^ (T.getD k default)) &&& d.lhs = 0:=p7 h2
    (iterate 5 refine qy ?_ (hg:=(gtt r2)));refine qy ?_;refine a6 ?_;refine a8 _ rfl (fun r3=>?_) (fun r3=>?_)
    ·
     have h3:=r3
     have h3:=df r2 h3
     have h3:=of_decide_eq_false (av h3)
     try simp only [ty] at h3
     have g2:¬ ((T.getD i default) ^^^ (T.getD k default)) &&& d.rhs = 0:=md h3
     have hq2:fdT d T = some (((T.getD i default) ^^^ (T.getD k default)) &&& d.rhs):=oo hil hI (show fdQ d T (T.getD i default) = _ from oo hkl hK (asz g1 g2))
     rw [hq] at hq2
     obtain rfl:=Option.some.inj hq2
     refine a7 ?_;refine uy ⟨[(0,some _),(3,some _),(7,some _)],[(1000,some _),(901,some _),(0,some _)]⟩ (by exact ⟨⟨c9,c9,c9,trivial⟩,⟨u9,u9,u9,trivial⟩⟩) ?_;refine gy ?_;(iterate 5 refine qy ?_)
     refine cn rfl rfl rfl rfl rfl rfl awm (b3d T (((T.getD i default) ^^^ (T.getD k default)) &&& d.rhs) hT) (⟨sh.refl _,(CoP.of_eq (congrArg (fun z=>PV.raw (.int .u32 z)) (i6 _ _))),trivial⟩) ⟨u9,u9,trivial⟩ rfl rfl ?_
     refine a6 ?_;refine sx7 ?_;refine qy ?_;refine a6 ?_;refine ap ?_;refine ⟨.inr rfl, ?_⟩
     exact ⟨_,_,rfl,(by (repeat' apply And.intro) <;> first | trivial | exact Nat.le_of_ble_eq_true rfl),CoR.refl _,⟨u9,u9,trivial⟩⟩
    ·
     have h3:=r3
     have h3:=df r2 h3
     have h3:=of_decide_eq_true (aw h3)
     try simp only [ty] at h3
     have g2:((T.getD i default) ^^^ (T.getD k default)) &&& d.rhs = 0:=p7 h3
     refine aa ?_;refine gy ?_;(iterate 3 refine qy ?_);refine a6 ?_;refine ⟨k + 1, ?_, ?_, ?_⟩
     · exact ⟨by omega,(gz hkl hK).trans (by first | exact aat g1 | exact aak g1 g2)⟩
     · first | omega | (dsimp only;omega)
     · exact ⟨⟨⟨_,rfl,(CoR.refl _)⟩,c9,c9,c9,trivial⟩,⟨u9,u9,u9,trivial⟩⟩
   ·
    have h2:=of_decide_eq_false r2
    try simp only [ty] at h2
    have g1:¬ ((T.getD i default) ^^^ (T.getD k default)) &&& d.lhs = 0:=md h2
    (iterate 5 refine k9 (gft r2) ?_);refine rq rfl rfl rfl rfl rfl ?_ (hp:=r2);refine a6 ?_;refine a8 _ rfl (fun e=>by cases e) (fun _=>?_);refine aa ?_;refine gy ?_;(iterate 3 refine qy ?_)
    refine a6 ?_;refine ⟨k + 1, ?_, ?_, ?_⟩
    · exact ⟨by omega,(gz hkl hK).trans (by first | exact aat g1 | exact aak g1 g2)⟩
    · first | omega | (dsimp only;omega)
    · exact ⟨⟨⟨_,rfl,(CoR.refl _)⟩,c9,c9,c9,trivial⟩,⟨u9,u9,u9,trivial⟩⟩
  ·
   have h1:=of_decide_eq_false r1
   try simp only [ty] at h1
   obtain rfl:k = T.length:=by omega
   rw [show T.take T.length = T from List.take_length] at hK
   refine ak ?_;refine gy ?_;(iterate 3 refine qy ?_);refine a6 ?_;refine ⟨i + 1, ?_, ?_, ?_⟩
   · exact ⟨by omega,(gz hil hI).trans hK⟩
   · first | omega | (dsimp only;omega)
   · exact ⟨⟨⟨_,rfl,(CoR.refl _)⟩,c9,c9,trivial⟩,⟨u9,u9,u9,trivial⟩⟩
 ·
  have h0:=of_decide_eq_false r0
  try simp only [ty] at h0
  obtain rfl:i = T.length:=by omega
  rw [show T.take T.length = T from List.take_length] at hI
  refine ak ?_;refine sx7 ?_;refine qy ?_;refine a6 ?_;refine ap ?_;refine ⟨.inr rfl, ?_⟩
  exact absurd (hq.symm.trans (show fdT d T = none from hI)) (fun e=>by cases e)
theorem b38 (T:List AS) (d:Fd) (hq:fdT d T = none) (hT:T.length ≤ 8589934592):dg Tryz.prog 187 [.one (.ptr 1000 0),d.pc.toH] [(1000, .box [.ref 901 T.length]),(901, .arr true 1 38 T.length (lf sC T))] (.v (.one (.p (.raw (.bool false))))) [(1000, .box [.ref 901 T.length]),(901, .arr true 1 38 T.length (lf sC T))] [1000]:=by
 refine eq (nt:=59) ae Tryz.func187 rfl rfl l9 rfl ?_;refine sx7 ?_;refine m9 0 ?_;refine qy ?_;refine a6 ?_;refine a7 ?_;refine sx7 ?_;refine qy ?_;refine a6 ?_;refine ab ?_
 refine aj (ι:=Nat) ⟨[(0,some _),(3,some _)],[(1000,some _),(901,some _),(0,some _)]⟩ ⟨⟨c9,c9,trivial⟩,⟨u9,u9,u9,trivial⟩⟩ (fun i=>⟨[(5,some (vI i))],[]⟩) (fun i=>i ≤ T.length ∧ (T.take i).findSome? (fdQ d T) = none) (fun i=>T.length - i) (0) (⟨Nat.zero_le _,rfl⟩) ⟨⟨⟨_,rfl,(CoR.refl _)⟩,trivial⟩,trivial⟩ ?_
 rintro i ⟨hi,hI⟩
 refine a7 ?_;refine sx7 ?_;(iterate 7 refine qy ?_);refine a6 ?_;refine a8 _ rfl (fun r0=>?_) (fun r0=>?_)
 ·
  have h0:=of_decide_eq_true r0
  try simp only [ty] at h0
  have hil:i < T.length:=by omega
  refine aa ?_;refine a7 ?_;refine ab ?_;refine sx7 ?_;refine qy ?_;refine a6 ?_;refine ab ?_
  refine aj (ι:=Nat) ⟨[(0,some _),(3,some _),(5,some _)],[(1000,some _),(901,some _),(0,some _)]⟩ ⟨⟨c9,c9,c9,trivial⟩,⟨u9,u9,u9,trivial⟩⟩ (fun k=>⟨[(6,some (vI k))],[]⟩) (fun k=>k ≤ T.length ∧ (T.take k).findSome? (fdP d (T.getD i default)) = none) (fun k=>T.length - k) (0) (⟨Nat.zero_le _,rfl⟩) ⟨⟨⟨_,rfl,(CoR.refl _)⟩,trivial⟩,trivial⟩ ?_
  rintro k ⟨hk,hK⟩
  refine a7 ?_;refine sx7 ?_;(iterate 7 refine qy ?_);refine a6 ?_;refine a8 _ rfl (fun r1=>?_) (fun r1=>?_)
  ·
   have h1:=of_decide_eq_true r1
   try simp only [ty] at h1
   have hkl:k < T.length:=by omega
   refine aa ?_;refine a7 ?_;refine ab ?_;refine a7 ?_;refine ax (E:=bf) ae ar [0,1,2,3,4,5,6,7,8,9,10,11,12,13,14,15] ?_;(iterate 14 refine qy ?_)
   refine rq (out:=⟨_, .v (.one (.p (asC ((T.getD i default) ^^^ (T.getD k default)))))⟩) rfl rfl rfl (congrArg (fun z=>some (Out.mk _ (HR.v (HC.one (HV.p (.raw (.int .u32 z))))))) (aif _ _)) rfl ?_;refine qy ?_
   refine a6 ?_;refine ⟨by kernel_rfl, ?_⟩;refine sx7 ?_;(iterate 6 refine qy ?_);refine b4 rfl rfl (fun r2=>?_) (fun r2=>?_)
   ·
    have h2:=of_decide_eq_true r2
    try simp only [ty] at h2
    have g1:((T.getD i default) ^^^ (T.getD k default)) &&& d.lhs = 0:=p7 h2
    (iterate 5 refine qy ?_ (hg:=(gtt r2)));refine qy ?_;refine a6 ?_;refine a8 _ rfl (fun r3=>?_) (fun r3=>?_)
    ·
     have h3:=r3
     have h3:=df r2 h3
     have h3:=of_decide_eq_false (av h3)
     try simp only [ty] at h3
     have g2:¬ ((T.getD i default) ^^^ (T.getD k default)) &&& d.rhs = 0:=md h3
     have hq2:fdT d T = some (((T.getD i default) ^^^ (T.getD k default)) &&& d.rhs):=oo hil hI (show fdQ d T (T.getD i default) = _ from oo hkl hK (asz g1 g2))
     exact absurd (hq.symm.trans hq2) (fun e=>by cases e)
    ·
     have h3:=r3
     have h3:=df r2 h3
     have h3:=of_decide_eq_true (aw h3)
     try simp only [ty] at h3
     have g2:((T.getD i default) ^^^ (T.getD k default)) &&& d.rhs = 0:=p7 h3
     refine aa ?_;refine gy ?_;(iterate 3 refine qy ?_);refine a6 ?_;refine ⟨k + 1, ?_, ?_, ?_⟩
     · exact ⟨by omega,(gz hkl hK).trans (by first | exact aat g1 | exact aak g1 g2)⟩
     · first | omega | (dsimp only;omega)
     · exact ⟨⟨⟨_,rfl,(CoR.refl _)⟩,c9,c9,c9,trivial⟩,⟨u9,u9,u9,trivial⟩⟩
   ·
    have h2:=of_decide_eq_false r2
    try simp only [ty] at h2
    have g1:¬ ((T.getD i default) ^^^ (T.getD k default)) &&& d.lhs = 0:=md h2
    (iterate 5 refine k9 (gft r2) ?_);refine rq rfl rfl rfl rfl rfl ?_ (hp:=r2);refine a6 ?_;refine a8 _ rfl (fun e=>by cases e) (fun _=>?_);refine aa ?_;refine gy ?_;(iterate 3 refine qy ?_)
    refine a6 ?_;refine ⟨k + 1, ?_, ?_, ?_⟩
    · exact ⟨by omega,(gz hkl hK).trans (by first | exact aat g1 | exact aak g1 g2)⟩
    · first | omega | (dsimp only;omega)
    · exact ⟨⟨⟨_,rfl,(CoR.refl _)⟩,c9,c9,c9,trivial⟩,⟨u9,u9,u9,trivial⟩⟩
  ·
   have h1:=of_decide_eq_false r1
   try simp only [ty] at h1
   obtain rfl:k = T.length:=by omega
   rw [show T.take T.length = T from List.take_length] at hK
   refine ak ?_;refine gy ?_;(iterate 3 refine qy ?_);refine a6 ?_;refine ⟨i + 1, ?_, ?_, ?_⟩
   · exact ⟨by omega,(gz hil hI).trans hK⟩
   · first | omega | (dsimp only;omega)
   · exact ⟨⟨⟨_,rfl,(CoR.refl _)⟩,c9,c9,trivial⟩,⟨u9,u9,u9,trivial⟩⟩
 ·
  have h0:=of_decide_eq_false r0
  try simp only [ty] at h0
  obtain rfl:i = T.length:=by omega
  rw [show T.take T.length = T from List.take_length] at hI
  refine ak ?_;refine sx7 ?_;refine qy ?_;refine a6 ?_;refine ap ?_;refine ⟨.inr rfl, ?_⟩
  exact ⟨_,_,rfl,(by (repeat' apply And.intro) <;> first | trivial | exact Nat.le_of_ble_eq_true rfl),CoR.refl _,⟨u9,u9,trivial⟩⟩
end Go.Hx
end
section
namespace Go.Hx
structure MvO (d:Fd) (T0:List AS) (x:Nat × List AS × Nat):Prop where
 nd:x.2.1.Nodup
 pre:T0 <+: x.2.1
 res:mvO d x.1 x.2.1 x.2.2 = mvO d FU2 T0 0
 le:x.2.2 ≤ x.2.1.length
 fuel:4294967296 < x.1 + x.2.2
structure MvI (d:Fd) (T:List AS) (i:Nat) (x:Nat × List AS × Nat):Prop where
 nd:x.2.1.Nodup
 pre:T <+: x.2.1
 res:mvI d x.1 x.2.1 i x.2.2 = mvI d 8589934592 T i 0
 le:x.2.2 ≤ x.2.1.length
 fuel:4294967296 < x.1 + x.2.2
section
variable {d:Fd} {T0 T:List AS} {i f k:Nat}
theorem MvO.start (h:T.Nodup):MvO d T (FU2,T,0):=⟨h,List.prefix_refl _,rfl,Nat.zero_le _,by show 4294967296 < 8589934592 + 0;omega⟩
theorem MvI.start (h:T.Nodup):MvI d T i (8589934592,T,0):=⟨h,List.prefix_refl _,rfl,Nat.zero_le _,by show 4294967296 < 8589934592 + 0;omega⟩
theorem MvO.pos (h:MvO d T0 (f,T,i)):0 < f ∧ T.length ≤ 4294967296:=by
 have h1:=s5 h.nd
 have h2:=h.le
 have h3:=h.fuel
 dsimp only at h1 h2 h3
 omega
theorem MvI.pos {U:List AS} (h:MvI d T i (f,U,k)):0 < f ∧ U.length ≤ 4294967296:=by
 have h1:=s5 h.nd
 have h2:=h.le
 have h3:=h.fuel
 dsimp only at h1 h2 h3
 omega
theorem MvO.done (h:MvO d T0 (f,T,i)) (hi:¬ i < T.length):T = mvO d FU2 T0 0:=by
 have hp:=h.pos.1
 have hr:mvO d f T i = mvO d FU2 T0 0:=h.res
 obtain ⟨g,rfl⟩:∃ g,f = g + 1:=⟨f - 1,by omega⟩
 unfold mvO at hr
 rw [if_neg hi] at hr
 exact hr
theorem MvI.done {U:List AS} (h:MvI d T i (f,U,k)) (hk:¬ k < U.length):U = mvI d 8589934592 T i 0:=by
 have hp:=h.pos.1
 have hr:mvI d f U i k = mvI d 8589934592 T i 0:=h.res
 obtain ⟨g,rfl⟩:∃ g,f = g + 1:=⟨f - 1,by omega⟩
 unfold mvI at hr
 rw [if_neg hk] at hr
 exact hr
theorem MvI.next {U:List AS} (h:MvI d T i (f,U,k)) (hk:k < U.length):MvI d T i (f - 1,mvS d U i k,k + 1):=by
 have hp:=h.pos.1
 have hr:mvI d f U i k = mvI d 8589934592 T i 0:=h.res
 obtain ⟨g,rfl⟩:∃ g,f = g + 1:=⟨f - 1,by omega⟩
 unfold mvI at hr
 rw [if_pos hk] at hr
 have hf:4294967296 < g + 1 + k:=h.fuel
 exact ⟨alg h.nd,h.pre.trans (y5 d U i k),hr,Nat.le_trans hk (y5 d U i k).length_le,by show 4294967296 < g + (k + 1);omega⟩
theorem MvO.next (h:MvO d T0 (f,T,i)) (hi:i < T.length) {U:List AS} (hU:U = mvI d 8589934592 T i 0):MvO d T0 (f - 1,U,i + 1):=by
 subst hU
 have hp:=h.pos.1
 have hr:mvO d f T i = mvO d FU2 T0 0:=h.res
 obtain ⟨g,rfl⟩:∃ g,f = g + 1:=⟨f - 1,by omega⟩
 unfold mvO at hr
 rw [if_pos hi] at hr
 have hf:4294967296 < g + 1 + i:=h.fuel
 exact ⟨ae2 h.nd,h.pre.trans (tf d _ T i 0),hr,Nat.le_trans hi (tf d _ T i 0).length_le,by show 4294967296 < g + (i + 1);omega⟩
theorem oz {U:List AS} (h:agB d (U.getD i default) (U.getD k default) = false):mvS d U i k = U:=by unfold mvS;rw [if_neg (by rw [h];decide)]
theorem jf {U:List AS} (h:agB d (U.getD i default) (U.getD k default) = true):mvS d U i k = f8 U (j3 d (U.getD i default) (U.getD k default)):=by unfold mvS;rw [if_pos h]
theorem ab0 {T U:List AS} {q:AS} (hp:T <+: U) (h:¬ q ∈ U):true = decide (T.length < (f8 U q).length):=by
 have h1:=hp.length_le
 rw [acy h]
 exact (decide_eq_true (by omega)).symm
theorem ac6 {T U:List AS} {q:AS} (h:q ∈ U):decide (T.length < U.length) = decide (T.length < (f8 U q).length):=by rw [show f8 U q = U from if_pos h]
theorem b1h (r k l h:AS):d4 .or .u32 (d4 .and .u32 (asI r) (d4 .or .u32 (asI l) (asI h))) (d4 .andNot .u32 (asI k) (d4 .or .u32 (asI l) (asI h))) = asI (j3 ⟨l,h⟩ r k):=by
 rw [bOr,i6,i7,bOr]
 rfl
theorem b3y {r k:AS} (h:d4 .and .u32 (d4 .xor .u32 (asI r) (asI k)) (asI d.lhs) = 0):agB d r k = true:=by
 rw [aif,i6] at h
 exact decide_eq_true (ep.1 h)
theorem b3o {r k:AS} (h:¬ d4 .and .u32 (d4 .xor .u32 (asI r) (asI k)) (asI d.lhs) = 0):agB d r k = false:=by
 rw [aif,i6] at h
 exact decide_eq_false fun e=>h (congrArg asI e)
end
end Go.Hx
end
section
namespace Go.Hx
open Go.Proofs
set_option maxRecDepth 100000
theorem aws:goodFn Tryz.prog 188:=⟨Tryz.f188,Tryz.func188,by kernel_rfl,by kernel_rfl⟩
theorem b3k (T:List AS) (d:Fd) (hn:T.Nodup):dg Tryz.prog 188 [.one (.ptr 1000 0),d.pc.toH] [(1000, .box [.ref 1001 T.length]),(1001, .arr true 1 38 T.length (lf sC T))] (.v (.one (.p (.raw (.bool (decide (T.length < (mvO d FU2 T 0).length))))))) [(1000, .box [.ref 1001 (mvO d FU2 T 0).length]),(1001, .arr true 1 38 (mvO d FU2 T 0).length (lf sC (mvO d FU2 T 0)))] [1000,1001]:=by
 refine eq (nt:=77) ae Tryz.func188 rfl rfl l9 rfl ?_;refine sx7 ?_;refine m9 0 ?_;refine qy ?_;refine a6 ?_;refine sx7 ?_;refine qy ?_;refine a6 ?_;refine a7 ?_;refine sx7 ?_;refine qy ?_
 refine a6 ?_;refine ab ?_
 refine aj (ι:=(Nat × List AS × Nat)) ⟨[(0,some _),(3,some _)],[(0,some _)]⟩ ⟨⟨c9,c9,trivial⟩,⟨u9,trivial⟩⟩ (fun x=>⟨[(5,some (vB (decide (T.length < x.2.1.length)))),(6,some (vI x.2.2))],[(1000,some (.box [.ref 1001 x.2.1.length])),(1001,some (.arr true 1 38 x.2.1.length (lf sC x.2.1)))]⟩) (fun x=>MvO d T x) (fun x=>x.1) ((FU2,T,0)) (MvO.start hn) ⟨⟨⟨_,rfl,(cob (by simp))⟩,⟨_,rfl,(CoR.refl _)⟩,trivial⟩,⟨u9,u9,trivial⟩⟩ ?_
 rintro ⟨f,T1,i⟩ hO
 have hOl:=hO.pos.2
 refine a7 ?_;refine sx7 ?_;(iterate 7 refine qy ?_);refine a6 ?_;refine a8 _ rfl (fun r0=>?_) (fun r0=>?_)
 ·
  have h0:=of_decide_eq_true r0
  try simp only [ty] at h0
  have hil:i < T1.length:=by omega
  have hfI:=hO.pos.1
  refine aa ?_;refine a7 ?_;refine ab ?_;refine sx7 ?_;refine qy ?_;refine a6 ?_;refine ab ?_
  refine aj (ι:=(Nat × List AS × Nat)) ⟨[(0,some _),(3,some _),(6,some _)],[(0,some _)]⟩ ⟨⟨c9,c9,c9,trivial⟩,⟨u9,trivial⟩⟩ (fun y=>⟨[(5,some (vB (decide (T.length < y.2.1.length)))),(7,some (vI y.2.2))],[(1000,some (.box [.ref 1001 y.2.1.length])),(1001,some (.arr true 1 38 y.2.1.length (lf sC y.2.1)))]⟩) (fun y=>MvI d T1 i y) (fun y=>y.1) ((8589934592,T1,0)) (MvI.start hO.nd) ⟨⟨⟨_,rfl,(CoR.refl _)⟩,⟨_,rfl,(CoR.refl _)⟩,trivial⟩,⟨u9,u9,trivial⟩⟩ ?_
  rintro ⟨g,U,k⟩ hI
  have hIl:=hI.pos.2
  refine a7 ?_;refine sx7 ?_;(iterate 7 refine qy ?_);refine a6 ?_;refine a8 _ rfl (fun r1=>?_) (fun r1=>?_)
  ·
   have h1:=of_decide_eq_true r1
   try simp only [ty] at h1
   have hkl:k < U.length:=by omega
   have hil2:i < U.length:=Nat.lt_of_lt_of_le hil hI.pre.length_le
   have hUl:=hI.pos.2
   have hpre:T <+: U:=hO.pre.trans hI.pre
   have hg0:=hI.pos.1
   refine aa ?_;refine a7 ?_;refine ab ?_;refine a7 ?_
   refine ax (E:=bf) ae ar [0,1,2,3,4,5,6,7,8,9,10,11,12,13,14,15,16,17,18,19,20,21,22,23,24,25,26,27,28,29,30,31,32,33,34,35,36,37,38,39,40,41,42,43,44,45,46,47,48,49] ?_
   (iterate 20 refine qy ?_);refine b4 rfl rfl (fun r2=>?_) (fun r2=>?_)
   ·
    have h2:=of_decide_eq_true r2
    try simp only [ty] at h2
    have ha:agB d (U.getD i default) (U.getD k default) = true:=b3y h2
    (iterate 28 refine qy ?_ (hg:=(gtt r2)))
    refine cn rfl rfl rfl rfl rfl rfl a79 (aq6 U (j3 d (U.getD i default) (U.getD k default)) (by omega)) (⟨sh.refl _,(CoP.of_eq (congrArg (fun z=>PV.raw (.int .u32 z)) (b1h _ _ _ _))),trivial⟩) ⟨u9,u9,trivial⟩ rfl (gtt r2) ?_
    refine qy ?_;refine a6 ?_;refine ⟨by kernel_rfl, ?_⟩;refine a8 _ rfl (fun r3=>?_) (fun r3=>?_)
    ·
     have h3:=r3
     have h3:=df r2 h3
     have hin:¬ (j3 d (U.getD i default) (U.getD k default)) ∈ U:=of_decide_eq_false (by simpa using h3)
     refine gy ?_;refine qy ?_;refine a6 ?_;refine gy ?_;(iterate 3 refine qy ?_);refine a6 ?_;refine ⟨(g - 1,mvS d U i k,k + 1), ?_, ?_, ?_⟩
     · exact hI.next hkl
     · dsimp only;omega
     · exact ⟨⟨⟨_,rfl,(by first | (rw [oz ha];exact CoR.refl _) | (rw [jf ha];exact cob (ab0 hpre hin)) | (rw [jf ha];exact cob (ac6 hin)))⟩,⟨_,rfl,(CoR.refl _)⟩,c9,c9,c9,trivial⟩,⟨⟨_,rfl,(by first | (rw [oz ha];exact CoO.refl _) | (rw [jf ha];exact CoO.refl _))⟩,⟨_,rfl,(by first | (rw [oz ha];exact CoO.refl _) | (rw [jf ha];exact CoO.refl _))⟩,u9,trivial⟩⟩
    ·
     have h3:=r3
     have h3:=df r2 h3
     have hin:(j3 d (U.getD i default) (U.getD k default)) ∈ U:=of_decide_eq_true (by simpa using h3)
     refine aa ?_;refine gy ?_;(iterate 3 refine qy ?_);refine a6 ?_;refine ⟨(g - 1,mvS d U i k,k + 1), ?_, ?_, ?_⟩
     · exact hI.next hkl
     · dsimp only;omega
     · exact ⟨⟨⟨_,rfl,(by first | (rw [oz ha];exact CoR.refl _) | (rw [jf ha];exact cob (ab0 hpre hin)) | (rw [jf ha];exact cob (ac6 hin)))⟩,⟨_,rfl,(CoR.refl _)⟩,c9,c9,c9,trivial⟩,⟨⟨_,rfl,(by first | (rw [oz ha];exact CoO.refl _) | (rw [jf ha];exact CoO.refl _))⟩,⟨_,rfl,(by first | (rw [oz ha];exact CoO.refl _) | (rw [jf ha];exact CoO.refl _))⟩,u9,trivial⟩⟩
   ·
    have h2:=of_decide_eq_false r2
    try simp only [ty] at h2
    have ha:agB d (U.getD i default) (U.getD k default) = false:=b3o h2
    (iterate 29 refine k9 (gft r2) ?_);refine rq rfl rfl rfl rfl rfl ?_ (hp:=r2);refine a6 ?_;refine ⟨by kernel_rfl, ?_⟩;refine a8 _ rfl (fun e=>by cases e) (fun _=>?_);refine aa ?_;refine gy ?_
    (iterate 3 refine qy ?_);refine a6 ?_;refine ⟨(g - 1,mvS d U i k,k + 1), ?_, ?_, ?_⟩
    · exact hI.next hkl
    · dsimp only;omega
    · exact ⟨⟨⟨_,rfl,(by first | (rw [oz ha];exact CoR.refl _) | (rw [jf ha];exact cob (ab0 hpre hin)) | (rw [jf ha];exact cob (ac6 hin)))⟩,⟨_,rfl,(CoR.refl _)⟩,c9,c9,c9,trivial⟩,⟨⟨_,rfl,(by first | (rw [oz ha];exact CoO.refl _) | (rw [jf ha];exact CoO.refl _))⟩,⟨_,rfl,(by first | (rw [oz ha];exact CoO.refl _) | (rw [jf ha];exact CoO.refl _))⟩,u9,trivial⟩⟩
  ·
   have h1:=of_decide_eq_false r1
   try simp only [ty] at h1
   have hU:=hI.done (by omega)
   have hT1l:=hO.pos.2
   refine ak ?_;refine gy ?_;(iterate 3 refine qy ?_);refine a6 ?_;refine ⟨(f - 1,U,i + 1), ?_, ?_, ?_⟩
   · exact hO.next hil hU
   · dsimp only;omega
   · exact ⟨⟨⟨_,rfl,(CoR.refl _)⟩,⟨_,rfl,(CoR.refl _)⟩,c9,c9,trivial⟩,⟨u9,u9,u9,trivial⟩⟩
 ·
  have h0:=of_decide_eq_false r0
  try simp only [ty] at h0
  have hT:T1 = mvO d FU2 T 0:=hO.done (by omega)
  subst hT
  refine ak ?_;refine sx7 ?_;(iterate 2 refine qy ?_);refine a6 ?_;refine ap ?_;refine ⟨.inr rfl, ?_⟩
  exact ⟨_,_,rfl,(by (repeat' apply And.intro) <;> first | trivial | exact Nat.le_of_ble_eq_true rfl),CoR.refl _,⟨u9,u9,trivial⟩⟩
end Go.Hx
end
section
namespace Go.Hx
structure ChI (l m:List Fd) (R:List AS) (x:Nat × List AS × Bool):Prop where
 nd:x.2.1.Nodup
 t:x.2.2 = true → chF l m x.1 x.2.1 = R ∧ muT x.2.1 < x.1
 f:x.2.2 = false → x.2.1 = R
def aja (x:Nat × List AS × Bool):Nat:=x.1 + (bif x.2.2 then 1 else 0)
theorem avj {f:Nat} {T U:List AS} {c:Bool} (h:0 < f):aja (f - 1,U,c) < aja (f,T,true):=by
 cases c <;> simp only [aja,cond_true,cond_false] <;> omega
theorem ChI.start (l m:List Fd) (rest:AS):ChI l m (chT l m rest) (MU,a4v rest,true):=⟨at9 rest,fun _=>⟨rfl,alq _⟩,fun h=>by cases h⟩
theorem ChI.next {l m:List Fd} {R T:List AS} {f:Nat} (h:ChI l m R (f,T,true)):ChI l m R (f - 1,(ku l m T).1,(ku l m T).2) ∧ 0 < f:=by
 obtain ⟨h1,h2⟩:=h.t rfl
 have h2:muT T < f:=h2
 have h1:chF l m f T = R:=h1
 have hn:T.Nodup:=h.nd
 obtain ⟨g,rfl⟩:∃ g,f = g + 1:=⟨f - 1,by omega⟩
 unfold chF at h1
 refine ⟨⟨a1q aau ajo hn,fun hc=>?_,fun hc=>?_⟩,by omega⟩
 · have hc:(ku l m T).2 = true:=hc
   rw [if_pos hc] at h1
   have:=aol hn hc
   exact ⟨h1,by show muT (ku l m T).1 < g;omega⟩
 · have hc:(ku l m T).2 = false:=hc
   rw [if_neg (by rw [hc];decide)] at h1
   exact h1
def j6 (l:List Fd) (T:List AS) (i:Nat):TC:=(l.take i).foldl fdR (T,false)
theorem a9b {l:List Fd} {T:List AS} {i:Nat} (h:i < l.length):j6 l T (i + 1) = fdR (j6 l T i) (l.getD i default):=by
 unfold j6
 rw [be h,List.foldl_append]
 rfl
theorem ag8 {l:List Fd} {T:List AS} {i:Nat} (h:T.Nodup):(j6 l T i).1.Nodup:=a1z (fs:=l) aau (l.take i) (T,false) (fun _ h=>List.mem_of_mem_take h) h
def mvX (m:List Fd) (x:TC) (i:Nat):TC:=(m.take i).foldl mvR x
theorem qr {m:List Fd} {x:TC} {i:Nat} (h:i < m.length):mvX m x (i + 1) = mvR (mvX m x i) (m.getD i default):=by
 unfold mvX
 rw [be h,List.foldl_append]
 rfl
theorem ay5 {m:List Fd} {x:TC} {i:Nat} (h:x.1.Nodup):(mvX m x i).1.Nodup:=a71 (ms:=m) ajo (m.take i) x (fun _ h=>List.mem_of_mem_take h) h
theorem b2n (l m:List Fd) (T:List AS):mvX m (j6 l T l.length) m.length = ku l m T:=by
 unfold mvX j6 ku
 rw [List.take_length,List.take_length]
structure FdI (d:Fd) (U0:List AS) (x:Nat × List AS × Bool):Prop where
 nd:x.2.1.Nodup
 res:ne d x.1 x.2.1 = ne d FU2 U0
 fuel:(orL x.2.1).toNat < x.1
 f:x.2.2 = false → x.2.1 = U0
 t:x.2.2 = true → (fdT d U0).isSome = true
section
variable {d:Fd} {U0 U:List AS} {g:Nat} {b c:Bool} {s:AS}
theorem FdI.start (h:U0.Nodup):FdI d U0 (FU2,U0,false):=⟨h,rfl,Nat.lt_of_lt_of_le (orL U0).isLt (show 2 ^ 32 ≤ FU2 by decide),fun _=>rfl,fun h=>by cases h⟩
theorem FdI.len (h:FdI d U0 (g,U,b)):U.length ≤ 8589934592:=Nat.le_trans (s5 (show U.Nodup from h.nd)) (by decide)
theorem FdI.next (h:FdI d U0 (g,U,b)) (hq:fdT d U = some s):FdI d U0 (g - 1,ir U s,true) ∧ 0 < g:=by
 have h3:(orL U).toNat < g:=h.fuel
 have h2:ne d g U = ne d FU2 U0:=h.res
 obtain ⟨k,rfl⟩:∃ k,g = k + 1:=⟨g - 1,by omega⟩
 rw [vc hq] at h2
 have h4:=a87 hq
 refine ⟨⟨a5j U s,h2,(by show (orL (ir U s)).toNat < k;omega),(fun hc=>by cases hc),fun _=>?_⟩,by omega⟩
 cases hb:b with
 | true=>exact h.t hb
 | false =>
  have e:U = U0:=h.f hb
  rw [← e,hq]
  rfl
theorem FdI.done (h:FdI d U0 (g,U,b)) (hq:fdT d U = none):(U,c || b) = fdR (U0,c) d:=by
 have h2:ne d g U = ne d FU2 U0:=h.res
 rw [v8 hq] at h2
 unfold fdR
 rw [← h2]
 cases hb:b with
 | true=>rw [h.t hb]
 | false =>
  have e:U = U0:=h.f hb
  rw [← e,hq]
  rfl
end
theorem a2p {x:TC} {d:Fd}:mvR x d = (mvO d FU2 x.1 0,x.2 || decide (x.1.length < (mvO d FU2 x.1 0).length)):=rfl
end Go.Hx
end
section
namespace Go.Hx
open Go.Proofs
set_option maxRecDepth 100000
theorem aga:goodFn Tryz.prog 155:=⟨Tryz.f155,Tryz.func155,by kernel_rfl,by kernel_rfl⟩
theorem anw (n:Int) (l m:List Fd) (x:AS):ai Tryz.prog 155 [pI n,pP (fdl l),pP (fdl m),pA x] (ao [.agg [asl (chT l m (af n &&& ~~~x))]]):=by
 refine ah (nt:=44) ae Tryz.func155 rfl rfl l9 ?_
 refine d9 1 rfl fun hbl=>?_
 refine d9 2 rfl fun hbm=>?_
 refine sx7 ?_;refine m9 900 ?_;refine a6 ?_;refine sx7 ?_;refine m9 901 ?_;refine qy ?_;refine m9 902 ?_;refine s9 ?_;refine a6 ?_;refine sx7 ?_;refine qy ?_
 refine rc rfl rfl rfl rfl rfl rfl kx (l6 n) (CoL.refl _) rfl rfl ?_;(iterate 2 refine qy ?_)
 refine cn rfl rfl rfl rfl rfl rfl a79 (((aq6 [0] (af n &&& ~~~x) (by decide)).swap 1000 902).swap 1001 901) (⟨sh.refl _,(CoP.of_eq (congrArg (fun z=>PV.raw (.int .u32 z)) (i7 _ _))),trivial⟩) ⟨u9,⟨_,rfl,(zz (CoP.refl _))⟩,trivial⟩ rfl rfl ?_
 refine a6 ?_;refine a7 ?_;refine sx7 ?_;refine qy ?_;refine a6 ?_;refine ab ?_
 refine aj (ι:=(Nat × List AS × Bool)) ⟨[(1,some _),(2,some _),(8,some _),(9,some _)],[(900,some _)]⟩ ⟨⟨c9,c9,c9,c9,trivial⟩,⟨u9,trivial⟩⟩ (fun y=>⟨[(10,some (vB y.2.2))],[(902,some (.box [.ref 901 y.2.1.length])),(901,some (.arr true 1 38 y.2.1.length (lf sC y.2.1)))]⟩) (fun y=>ChI l m (chT l m (af n &&& ~~~x)) y) (fun y=>aja y) ((MU,a4v (af n &&& ~~~x),true)) (ChI.start l m (af n &&& ~~~x)) ⟨⟨⟨_,rfl,(CoR.refl _)⟩,trivial⟩,⟨u9,u9,trivial⟩⟩ ?_
 rintro ⟨f,T,ag⟩ hC
 refine a7 ?_;refine sx7 ?_;refine qy ?_;refine a6 ?_;refine a8 _ rfl (fun r0=>?_) (fun r0=>?_)
 ·
  have h0:=r0
  obtain rfl:ag = true:=r0
  obtain ⟨hC2,hf⟩:=hC.next
  have hT:T.Nodup:=hC.nd
  refine aa ?_;refine ab ?_;refine sx7 ?_;refine qy ?_;refine a6 ?_;refine a7 ?_;refine sx7 ?_;refine qy ?_;refine a6 ?_;refine ab ?_
  refine aj (ι:=Nat) ⟨[(1,some _),(2,some _),(8,some _),(9,some _)],[(900,some _)]⟩ ⟨⟨c9,c9,c9,c9,trivial⟩,⟨u9,trivial⟩⟩ (fun i=>⟨[(10,some (vB (j6 l T i).2)),(11,some (vI i))],[(902,some (.box [.ref 901 (j6 l T i).1.length])),(901,some (.arr true 1 38 (j6 l T i).1.length (lf sC (j6 l T i).1)))]⟩) (fun i=>i ≤ l.length) (fun i=>l.length - i) (0) (Nat.zero_le _) ⟨⟨⟨_,rfl,(CoR.refl _)⟩,⟨_,rfl,(CoR.refl _)⟩,trivial⟩,⟨u9,u9,trivial⟩⟩ ?_
  rintro i hi
  refine a7 ?_;refine sx7 ?_;(iterate 4 refine qy ?_);refine a6 ?_;refine a8 _ rfl (fun r1=>?_) (fun r1=>?_)
  ·
   have h1:=of_decide_eq_true r1
   try simp only [ty] at h1
   have hil:i < l.length:=by omega
   refine aa ?_;refine a7 ?_;(iterate 2 refine ab ?_)
   refine aj (ι:=(Nat × List AS × Bool)) ⟨[(1,some _),(2,some _),(8,some _),(9,some _),(11,some _)],[(900,some _)]⟩ ⟨⟨c9,c9,c9,c9,c9,trivial⟩,⟨u9,trivial⟩⟩ (fun y=>⟨[(10,some (vB ((j6 l T i).2 || y.2.2)))],[(902,some (.box [.ref 901 y.2.1.length])),(901,some (.arr true 1 38 y.2.1.length (lf sC y.2.1)))]⟩) (fun y=>FdI (l.getD i default) (j6 l T i).1 y) (fun y=>y.1) ((FU2,(j6 l T i).1,false)) (FdI.start (ag8 hT)) ⟨⟨⟨_,rfl,(cob (by simp))⟩,trivial⟩,⟨u9,u9,trivial⟩⟩ ?_
   rintro ⟨g,U,b⟩ hF
   (iterate 2 refine a7 ?_)
   rcases hq:fdT (l.getD i default) U with _ | s
   ·
    refine gy ?_;(iterate 4 refine qy ?_);refine cn rfl rfl rfl rfl rfl rfl ahp ((b38 U (l.getD i default) hq hF.len).swap 1000 902) (fe.refl _) ⟨u9,u9,trivial⟩ rfl rfl ?_;refine a6 ?_
    refine a8 _ rfl (fun r2=>?_) (fun r2=>?_)
    ·
     have h2:=r2
     cases r2
    ·
     have h2:=r2
     have hd:=hF.done (c:=(j6 l T i).2) hq
     have hd1:U = (j6 l T (i + 1)).1:=by rw [a9b hil];exact congrArg Prod.fst hd
     have hd2:((j6 l T i).2 || b) = (j6 l T (i + 1)).2:=by rw [a9b hil];exact congrArg Prod.snd hd
     refine ak ?_;refine gy ?_;(iterate 3 refine qy ?_);refine a6 ?_;refine ⟨i + 1, ?_, ?_, ?_⟩
     · show i + 1 ≤ _;omega
     · first | omega | (dsimp only;omega)
     · exact ⟨⟨⟨_,rfl,(by rw [← hd2];exact CoR.refl _)⟩,⟨_,rfl,(CoR.refl _)⟩,c9,c9,c9,c9,trivial⟩,⟨⟨_,rfl,(by rw [← hd1];exact CoO.refl _)⟩,⟨_,rfl,(by rw [← hd1];exact CoO.refl _)⟩,u9,trivial⟩⟩
   ·
    refine gy ?_;(iterate 4 refine qy ?_);refine cn rfl rfl rfl rfl rfl rfl ahp ((b3p U (l.getD i default) s hq hF.len).swap 1000 902) (fe.refl _) ⟨u9,u9,trivial⟩ rfl rfl ?_;refine a6 ?_
    refine a8 _ rfl (fun r3=>?_) (fun r3=>?_)
    ·
     have h3:=r3
     obtain ⟨hF2,hg0⟩:=hF.next hq
     refine aa ?_;refine ab ?_;refine gy ?_;refine qy ?_;refine a6 ?_;refine ⟨(g - 1,ir U s,true), ?_, ?_, ?_⟩
     · exact hF2
     · dsimp only;omega
     · exact ⟨⟨⟨_,rfl,(cob (by simp))⟩,c9,c9,c9,c9,c9,trivial⟩,⟨u9,u9,u9,trivial⟩⟩
    ·
     have h3:=r3
     cases r3
  ·
   have h1:=of_decide_eq_false r1
   try simp only [ty] at h1
   obtain rfl:i = l.length:=by omega
   refine ak ?_;refine sx7 ?_;refine qy ?_;refine a6 ?_;refine ab ?_
   refine aj (ι:=Nat) ⟨[(1,some _),(2,some _),(8,some _),(9,some _)],[(900,some _)]⟩ ⟨⟨c9,c9,c9,c9,trivial⟩,⟨u9,trivial⟩⟩ (fun i=>⟨[(10,some (vB (mvX m (j6 l T l.length) i).2)),(12,some (vI i))],[(902,some (.box [.ref 901 (mvX m (j6 l T l.length) i).1.length])),(901,some (.arr true 1 38 (mvX m (j6 l T l.length) i).1.length (lf sC (mvX m (j6 l T l.length) i).1)))]⟩) (fun i=>i ≤ m.length) (fun i=>m.length - i) (0) (Nat.zero_le _) ⟨⟨⟨_,rfl,(CoR.refl _)⟩,⟨_,rfl,(CoR.refl _)⟩,trivial⟩,⟨u9,u9,trivial⟩⟩ ?_
   rintro i hi
   refine a7 ?_;refine sx7 ?_;(iterate 4 refine qy ?_);refine a6 ?_;refine a8 _ rfl (fun r4=>?_) (fun r4=>?_)
   ·
    have h4:=of_decide_eq_true r4
    try simp only [ty] at h4
    have hil:i < m.length:=by omega
    refine aa ?_;refine a7 ?_;refine ab ?_;refine sx7 ?_;(iterate 4 refine qy ?_)
    refine cn rfl rfl rfl rfl rfl rfl aws (((b3k (mvX m (j6 l T l.length) i).1 (m.getD i default) (ay5 (ag8 hT))).swap 1000 902).swap 1001 901) (fe.refl _) ⟨u9,u9,trivial⟩ rfl rfl ?_;refine a6 ?_
    refine a8 _ rfl (fun r5=>?_) (fun r5=>?_)
    ·
     have h5:=r5
     have hch:=of_decide_eq_true r5
     refine gy ?_;refine qy ?_;refine a6 ?_;refine gy ?_;(iterate 3 refine qy ?_);refine a6 ?_;refine ⟨i + 1, ?_, ?_, ?_⟩
     · show i + 1 ≤ _;omega
     · first | omega | (dsimp only;omega)
     · exact ⟨⟨⟨_,rfl,(by rw [qr hil,a2p];first | exact cob (by rw [decide_eq_true hch];simp) | exact cob (by rw [decide_eq_false hch];simp))⟩,⟨_,rfl,(CoR.refl _)⟩,c9,c9,c9,c9,trivial⟩,⟨⟨_,rfl,(by rw [qr hil,a2p];exact CoO.refl _)⟩,⟨_,rfl,(by rw [qr hil,a2p];exact CoO.refl _)⟩,u9,trivial⟩⟩
    ·
     have h5:=r5
     have hch:=of_decide_eq_false r5
     refine aa ?_;refine gy ?_;(iterate 3 refine qy ?_);refine a6 ?_;refine ⟨i + 1, ?_, ?_, ?_⟩
     · show i + 1 ≤ _;omega
     · first | omega | (dsimp only;omega)
     · exact ⟨⟨⟨_,rfl,(by rw [qr hil,a2p];first | exact cob (by rw [decide_eq_true hch];simp) | exact cob (by rw [decide_eq_false hch];simp))⟩,⟨_,rfl,(CoR.refl _)⟩,c9,c9,c9,c9,trivial⟩,⟨⟨_,rfl,(by rw [qr hil,a2p];exact CoO.refl _)⟩,⟨_,rfl,(by rw [qr hil,a2p];exact CoO.refl _)⟩,u9,trivial⟩⟩
   ·
    have h4:=of_decide_eq_false r4
    try simp only [ty] at h4
    obtain rfl:i = m.length:=by omega
    have hron:=b2n l m T
    refine ak ?_;refine ⟨(f - 1,(ku l m T).1,(ku l m T).2), ?_, ?_, ?_⟩
    · exact hC2
    · exact avj hf
    · exact ⟨⟨⟨_,rfl,(by rw [← hron];exact CoR.refl _)⟩,c9,c9,c9,c9,trivial⟩,⟨⟨_,rfl,(by rw [← hron];exact CoO.refl _)⟩,⟨_,rfl,(by rw [← hron];exact CoO.refl _)⟩,u9,trivial⟩⟩
 ·
  have h0:=r0
  obtain rfl:ag = false:=r0
  have hl:T = (chT l m (af n &&& ~~~x)):=hC.f rfl
  subst hl
  refine ak ?_;refine sx7 ?_;refine qy ?_;refine s9 ?_;refine a6 ?_;refine a8i 900 0 rfl rfl rfl rfl rfl ?_
  exact hx8 rfl rfl rfl (⟨CoC.refl _,trivial⟩)
theorem agm:goodFn Tryz.prog 156:=⟨Tryz.f156,Tryz.func156,by kernel_rfl,by kernel_rfl⟩
theorem atc (T:List AS):ai Tryz.prog 156 [.agg [asl T]] (ao [pA (orL T)]):=by
 refine ah (nt:=20) ae Tryz.func156 rfl rfl l9 ?_;refine sx7 ?_;refine m9 0 ?_;refine qy ?_;refine a6 ?_;refine sx7 ?_;refine qy ?_;refine a6 ?_;(iterate 2 refine a7 ?_)
 refine atb 0 0 rfl rfl fun hb=>?_
 refine gy ?_;refine qy ?_;refine a6 ?_;refine ab ?_
 refine aj (ι:=Nat) ⟨[(1,some _)],[(0,some _)]⟩ ⟨⟨c9,trivial⟩,⟨u9,trivial⟩⟩ (fun i=>⟨[(3,some (vA (orL (T.take i)))),(4,some (vI i))],[]⟩) (fun i=>i ≤ T.length) (fun i=>T.length - i) (0) (Nat.zero_le _) ⟨⟨⟨_,rfl,(CoR.refl _)⟩,⟨_,rfl,(CoR.refl _)⟩,trivial⟩,trivial⟩ ?_
 rintro i hi
 refine a7 ?_;refine sx7 ?_;(iterate 5 refine qy ?_);refine a6 ?_;refine a8 _ rfl (fun r0=>?_) (fun r0=>?_)
 ·
  have h0:=of_decide_eq_true r0
  try simp only [ty] at h0
  refine aa ?_;refine a7 ?_;refine ab ?_;refine gy ?_;(iterate 8 refine qy ?_);refine a6 ?_;refine gy ?_;(iterate 3 refine qy ?_);refine a6 ?_;refine ⟨i + 1, ?_, ?_, ?_⟩
  · show i + 1 ≤ _;omega
  · first | omega | (dsimp only;omega)
  · exact ⟨⟨⟨_,rfl,(fg ((bOr _ _).trans (congrArg asI (zd (by omega)).symm)))⟩,⟨_,rfl,(CoR.refl _)⟩,c9,trivial⟩,⟨u9,trivial⟩⟩
 ·
  have h0:=of_decide_eq_false r0
  try simp only [ty] at h0
  obtain rfl:i = T.length:=by omega
  rw [show T.take T.length = T from List.take_length]
  refine ak ?_;refine sx7 ?_;(iterate 2 refine qy ?_);refine a6 ?_
  exact hx8 rfl rfl rfl (CoL.refl _)
theorem axp:goodFn Tryz.prog 102:=⟨Tryz.f102,Tryz.func102,by kernel_rfl,by kernel_rfl⟩
theorem alb (n:Int) (l m:List Fd) (x:AS):ai Tryz.prog 102 [pI n,pP (fdl l),pP (fdl m),pA x] (ao [pA (af n &&& ~~~(orL (chT l m (af n &&& ~~~x))))]):=by
 refine ah (nt:=18) ae Tryz.func102 rfl rfl l9 ?_;refine sx7 ?_;refine qy ?_;refine a6 ?_;refine sx7 ?_;refine qy ?_;refine rc rfl rfl rfl rfl rfl rfl kx (l6 n) (CoL.refl _) rfl rfl ?_
 (iterate 4 refine qy ?_);refine rc rfl rfl rfl rfl rfl rfl aga (anw n l m x) (CoL.refl _) rfl rfl ?_;refine rc rfl rfl rfl rfl rfl rfl agm (atc (chT l m (af n &&& ~~~x))) (CoL.refl _) rfl rfl ?_
 (iterate 2 refine qy ?_);refine a6 ?_
 exact hx8 rfl rfl rfl (⟨cci (i7 _ _),trivial⟩)
end Go.Hx
end
section
namespace Go.Hx
def aci (a b:AS):Bool:=kr b a
def a3v (l:List AS):List AS:=qz aci l
def okM (l:List AS) (i k:Nat):Bool:=(List.range k).all fun j=>decide (j = i) || !kr (l.getD j default) (l.getD i default)
theorem apd (l:List AS) (i k:Nat):okM l i (k + 1) = (okM l i k && (decide (k = i) || !kr (l.getD k default) (l.getD i default))):=by
 unfold okM
 rw [List.range_succ,List.all_append]
 simp
theorem okM_succ' (l:List AS) (i k:Nat):okM l i (k + 1) = (okM l i k && (decide ((k:Int) = i) || !kr (l.getD k default) (l.getD i default))):=by
 rw [apd,decide_eq_decide.2 (show (k:Int) = i ↔ k = i by omega)]
theorem ag4 {l:List AS} {i:Nat} (hn:l.Nodup) (hi:i < l.length):okM l i l.length = !mf aci l (l.getD i default):=by
 rw [Bool.eq_iff_iff]
 unfold okM mf aci
 rw [List.all_eq_true,Bool.not_eq_true',List.any_eq_false]
 constructor
 · intro h b hb hc
   obtain ⟨j,hj,rfl⟩:=List.getElem_of_mem hb
   have:=h j (List.mem_range.2 hj)
   simp only [Bool.and_eq_true,decide_eq_true_eq,Bool.or_eq_true,Bool.not_eq_true',List.getD_eq_getElem?_getD,List.getElem?_eq_getElem hj,List.getElem?_eq_getElem hi,Option.getD_some] at this hc
   rcases this with h1 | h1
   · subst h1;exact hc.1 rfl
   · rw [hc.2] at h1;cases h1
 · intro h j hj
   have hj:=List.mem_range.1 hj
   have:=h l[j] (List.getElem_mem hj)
   simp only [List.getD_eq_getElem?_getD,List.getElem?_eq_getElem hj,List.getElem?_eq_getElem hi,Option.getD_some,Bool.or_eq_true,decide_eq_true_eq,Bool.not_eq_true',Bool.and_eq_true] at this ⊢
   by_cases e:j = i
   · exact .inl e
   · right
     rw [Bool.eq_false_iff]
     intro hs
     refine this ⟨fun he=>e ?_,hs⟩
     exact ((List.getElem_inj hn).1 he).symm
def n4 (l:List AS) (i:Nat):List AS:=((ord l).take i).filter fun x=>!mf aci (ord l) x
theorem a2s {l:List AS} {i:Nat} (hi:i < (ord l).length) (h:okM (ord l) i (ord l).length = true):n4 l (i + 1) = n4 l i ++ [(ord l).getD i default]:=by
 rw [ag4 (oc l) hi] at h
 unfold n4
 rw [be hi,List.filter_append]
 simp only [List.filter_cons,h,if_true,List.filter_nil]
theorem a20 {l:List AS} {i:Nat} (hi:i < (ord l).length) (h:okM (ord l) i (ord l).length = false):n4 l (i + 1) = n4 l i:=by
 rw [ag4 (oc l) hi] at h
 unfold n4
 rw [be hi,List.filter_append]
 simp only [List.filter_cons,h,Bool.false_eq_true,if_false,List.filter_nil,List.append_nil]
theorem akz (l:List AS) (i:Nat):(n4 l i).length ≤ i:=by
 unfold n4
 exact Nat.le_trans (List.length_filter_le _ _) (by rw [List.length_take];omega)
theorem anf (l:List AS):n4 l (ord l).length = a3v l:=by
 unfold n4 a3v qz
 rw [List.take_length]
theorem ap7 {l:List AS} {z:AS}:z ∈ a3v l ↔ z ∈ l ∧ ∀ b ∈ l,sub b z → b = z:=by
 unfold a3v qz
 rw [List.mem_filter,gh,Bool.not_eq_true',Bool.eq_false_iff]
 refine and_congr Iff.rfl ?_
 unfold mf aci kr
 rw [Ne,List.any_eq_true]
 constructor
 · intro h b hb hs
   apply Classical.byContradiction
   intro hne
   exact h ⟨b,gh.2 hb,by rw [Bool.and_eq_true,decide_eq_true_eq,decide_eq_true_eq];exact ⟨fun e=>hne e.symm,hs⟩⟩
 · rintro h ⟨b,hb,hc⟩
   rw [Bool.and_eq_true,decide_eq_true_eq,decide_eq_true_eq] at hc
   exact hc.1 (h b (gh.1 hb) hc.2).symm
theorem as8 (l:List AS):nb (a3v l):=List.Pairwise.filter _ (gd l)
def yq (rest L x:AS) (T:List AS) (y:AS):Bool:=!decide (y = 0) && (decide (y &&& ~~~rest = 0) && decide ((L &&& ~~~(x ||| y)) ∈ T))
def yL (rest L x:AS) (T:List AS) (k:Nat):List AS:=((List.range k).map (BitVec.ofNat 32)).filter (yq rest L x T)
section
variable {rest L x:AS} {T:List AS} {k:Nat}
theorem akx:yL rest L x T 1 = []:=by
 unfold yL
 rw [show List.range 1 = [0] from rfl]
 simp only [List.map_cons,List.map_nil,List.filter_cons,List.filter_nil]
 rw [if_neg]
 unfold yq
 rw [decide_eq_true (show BitVec.ofNat 32 0 = 0 from rfl)]
 intro h
 cases h
theorem a8w (h:yq rest L x T (BitVec.ofNat 32 k) = true):yL rest L x T (k + 1) = yL rest L x T k ++ [BitVec.ofNat 32 k]:=by
 unfold yL
 rw [List.range_succ,List.map_append,List.filter_append]
 simp only [List.map_cons,List.map_nil,List.filter_cons,List.filter_nil,h,if_true]
theorem a82 (h:yq rest L x T (BitVec.ofNat 32 k) = false):yL rest L x T (k + 1) = yL rest L x T k:=by
 unfold yL
 rw [List.range_succ,List.map_append,List.filter_append]
 simp only [List.map_cons,List.map_nil,List.filter_cons,List.filter_nil,h,Bool.false_eq_true,if_false,List.append_nil]
theorem als:(yL rest L x T k).length ≤ k:=by
 unfold yL
 exact Nat.le_trans (List.length_filter_le _ _) (by rw [List.length_map,List.length_range];exact Nat.le_refl _)
theorem b0l {z:AS}:z ∈ yL rest L x T (rest.toNat + 1) ↔ qB T L x rest z:=by
 unfold yL yq qB
 rw [List.mem_filter,List.mem_map,Bool.and_eq_true,Bool.and_eq_true,Bool.not_eq_true',decide_eq_false_iff_not,decide_eq_true_eq,decide_eq_true_eq]
 constructor
 · rintro ⟨_,h1,h2,h3⟩
   exact ⟨h1,h2,h3⟩
 · rintro ⟨h1,h2,h3⟩
   exact ⟨⟨z.toNat,List.mem_range.2 (by have:=a6e h2;omega),by simp⟩,h1,h2,h3⟩
end
theorem aut (n:Int) (x:AS):(af n &&& ~~~x) &&& x = 0:=gr.2 fun i hi h=>by
 rw [bw hi,Bool.and_eq_true] at h
 simpa using h.2
theorem ai6 (n:Int) (l m:List Fd) (x:AS):a3v (yL (af n &&& ~~~x) (orL (chT l m (af n &&& ~~~x))) x (chT l m (af n &&& ~~~x)) ((af n &&& ~~~x).toNat + 1)) = cr n l m x:=by
 obtain ⟨h1,h2⟩:=ac7 (fs:=l) (ms:=m) (rest:=af n &&& ~~~x)
 refine adl (as8 _) fun z=>?_
 rw [ap7,amw acg (x6 (fq l m) (af n &&& ~~~x)).1 h1 h2 (aut n x) z]
 simp only [b0l]
theorem aum {b:AS} {a:Nat} (h:bsz b = 1) (ha:b.getLsbD a = true):b = fu a:=by
 rw [oe] at h
 have h1:a ∈ az b:=jh.2 ⟨u0 ha,ha⟩
 cases hm:az b with
 | nil=>rw [hm] at h1;cases h1
 | cons c r =>
  rw [hm] at h h1
  have hr:r = []:=List.length_eq_zero_iff.1 (by simpa using h)
  subst hr
  have e:a = c:=by simpa using h1
  subst e
  apply gt
  intro i hi
  rw [du (u0 ha) hi]
  cases hb:b.getLsbD i with
  | true =>
   have:i ∈ az b:=jh.2 ⟨hi,hb⟩
   rw [hm] at this
   simpa using this
  | false =>
   symm
   rw [decide_eq_false_iff_not]
   rintro rfl
   rw [ha] at hb
   cases hb
theorem aop {a:Nat} (ha:a < 32):bsz (fu a) = 1:=by
 unfold bsz
 have e:(List.range 32).countP (fun i=>(fu a).getLsbD i) = (List.range 32).countP fun i=>decide (i = a):=by
  apply List.countP_congr
  intro i hi
  rw [List.mem_range] at hi
  rw [du ha hi]
 rw [e]
 have h2:∀ k,(List.range k).countP (fun i=>decide (i = a)) = if a < k then 1 else 0:=by
  intro k
  induction k with
  | zero=>simp
  | succ k ih =>
   rw [List.range_succ,List.countP_append,ih]
   simp only [List.countP_cons,List.countP_nil]
   by_cases h:k = a
   · subst h
     simp
   · have hd:¬ decide (k = a) = true:=fun q=>h (of_decide_eq_true q)
     rw [if_neg hd]
     by_cases h3:a < k
     · rw [if_pos h3,if_pos (show a < k + 1 by omega)]
     · rw [if_neg h3,if_neg (show ¬ a < k + 1 by omega)]
 rw [h2,if_pos ha]
theorem adq {l:List Fd} {a:Nat}:∀ {bs:List AS} {o:AS},(p9 l o bs).getLsbD a = true ↔ o.getLsbD a = true ∨ ∃ b ∈ bs,bsz b = 1 ∧ l.any (ug b) = true ∧ b.getLsbD a = true
 | [],o=>by simp [p9]
 | b :: bs,o=>by
  show (p9 l (qw l o b) bs).getLsbD a = true ↔ _
  rw [adq]
  unfold qw
  constructor
  · rintro (h | ⟨c,hc,h⟩)
    · split at h
      · split at h
        · rw [BitVec.getLsbD_or,Bool.or_eq_true] at h
          rcases h with h | h
          · exact .inl h
          · exact .inr ⟨b,by simp,by assumption,by assumption,h⟩
        · exact .inl h
      · exact .inl h
    · exact .inr ⟨c,by simp [hc],h⟩
  · rintro (h | ⟨c,hc,h1,h2,h3⟩)
    · left
      split
      · split
        · rw [BitVec.getLsbD_or,h];rfl
        · exact h
      · exact h
    · rcases List.mem_cons.1 hc with rfl | hc
      · left
        rw [if_pos h1,if_pos h2,BitVec.getLsbD_or,h3,Bool.or_true]
      · exact .inr ⟨c,hc,h1,h2,h3⟩
theorem a9z {f:Fd} {a:Nat} (ha:a < 32):ug (fu a) f = true ↔ f.rhs.getLsbD a = true ∧ f.lhs.getLsbD a = false:=by
 unfold ug
 rw [Bool.not_eq_true',decide_eq_false_iff_not]
 constructor
 · intro h
   obtain ⟨i,hi,h1,h2⟩:=s8 h
   rw [du ha hi] at h2
   have e:i = a:=by simpa using h2
   subst e
   rw [bw hi,Bool.and_eq_true] at h1
   exact ⟨h1.1,by simpa using h1.2⟩
 · rintro ⟨h1,h2⟩ h
   have:=gr.1 h a ha (by rw [bw ha,h1,h2];rfl)
   rw [du ha ha] at this
   simp at this
theorem avt {n:Int} {l m:List Fd} {x:AS} {a:Nat} (ha:a < 32):(mc n l m x).getLsbD a = true ↔ x.getLsbD a = true ∨ a6n l (blks (fq l m) (af n &&& ~~~x)) a:=by
 unfold mc
 rw [adq]
 refine or_congr Iff.rfl ?_
 unfold cr a6n
 constructor
 · rintro ⟨b,hb,h1,h2,h3⟩
   have e:=aum h1 h3
   subst e
   obtain ⟨f,hf,hc⟩:=List.any_eq_true.1 h2
   exact ⟨gh.1 hb,f,hf,(a9z ha).1 hc⟩
 · rintro ⟨h1,f,hf,h2⟩
   exact ⟨fu a,gh.2 h1,aop ha,List.any_eq_true.2 ⟨f,hf,(a9z ha).2 h2⟩,by rw [du ha ha];simp⟩
theorem ase {n:Int} {l m:List Fd} {x:AS} (hx:sub x (af n)):af n &&& ~~~(orL (chT l m (af n &&& ~~~x))) = mc n l m x:=by
 obtain ⟨h1,h2⟩:=ac7 (fs:=l) (ms:=m) (rest:=af n &&& ~~~x)
 have hf:=acg (fs:=l) (ms:=m) (rest:=af n &&& ~~~x)
 obtain ⟨hb,hs⟩:=x6 (fq l m) (af n &&& ~~~x)
 have hr:=(hf.j.r _ h1).1
 obtain ⟨L,q1,q2,q3⟩:=hf.j.top
 have eL:orL (chT l m (af n &&& ~~~x)) = L:=fh (q2 _ h1) (h2 _ q1)
 apply gt
 intro a ha
 rw [bw ha,Bool.eq_iff_iff,Bool.and_eq_true,Bool.not_eq_true',avt ha]
 constructor
 · rintro ⟨p1,p2⟩
   cases hxa:x.getLsbD a with
   | true=>exact .inl rfl
   | false =>
    right
    rw [eL] at p2
    exact q3 a ha (by rw [bw ha,p1,hxa];rfl) p2
 · rintro (p | p)
   · refine ⟨b5.1 hx a ha p, ?_⟩
     cases hl:(orL (chT l m (af n &&& ~~~x))).getLsbD a with
     | false=>rfl
     | true =>
      have:=b5.1 hr a ha hl
      rw [bw ha,p] at this
      simp at this
   · have p0:=p
     obtain ⟨p1,_⟩:=p
     have:=b5.1 (hb.sub p1) a ha (by rw [du ha ha];simp)
     rw [bw ha,Bool.and_eq_true] at this
     exact ⟨this.1,arp hf hb h1 h2 ha p0⟩
end Go.Hx
end
section
namespace Go.Hx
theorem aj6 {n:Int} (h0:n ≤ 16):(af n).toNat < 65536:=by
 have h:=a4x h0
 have h1:=congrArg BitVec.toNat h
 rw [BitVec.toNat_ushiftRight,Nat.shiftRight_eq_div_pow] at h1
 have h2:(af n).toNat / 2 ^ n.toNat = 0:=by simpa using h1
 have h3:(af n).toNat < 2 ^ n.toNat:=by
  rcases Nat.lt_or_ge (af n).toNat (2 ^ n.toNat) with h | h
  · exact h
  · have:=Nat.div_pos h (Nat.pow_pos (by omega))
    omega
 have h4:2 ^ n.toNat ≤ 2 ^ 16:=Nat.pow_le_pow_right (by omega) (by omega)
 omega
theorem ai0 {n:Int} {x:AS} (h0:n ≤ 16):(af n &&& ~~~x).toNat < 65536:=Nat.lt_of_le_of_lt (a6e o8) (aj6 h0)
theorem gk {k:Nat} (h:k < 4294967296):asI (BitVec.ofNat 32 k) = (k:Int):=by
 unfold asI
 rw [BitVec.toNat_ofNat,Nat.mod_eq_of_lt h]
theorem b2h {k:Nat} (h1:1 ≤ k) (h:k < 4294967296):¬ BitVec.ofNat 32 k = 0:=fun e=>by
 have:=congrArg asI e
 rw [gk h] at this
 have h2:(k:Int) = 0:=this
 omega
theorem ayt {rest L x y:AS} {T:List AS} (h:¬ y &&& ~~~rest = 0):yq rest L x T y = false:=by unfold yq;rw [decide_eq_false h];simp
theorem b3s {rest L x y:AS} {T:List AS} (h:¬ L &&& ~~~(x ||| y) ∈ T):yq rest L x T y = false:=by unfold yq;rw [decide_eq_false h];simp
theorem b2x {rest L x y:AS} {T:List AS} (h0:¬ y = 0) (h:y &&& ~~~rest = 0) (h2:L &&& ~~~(x ||| y) ∈ T):yq rest L x T y = true:=by
 unfold yq
 rw [decide_eq_false h0,decide_eq_true h,decide_eq_true h2]
 rfl
section
variable {V:AS → Option Fd}
theorem a61 {k:Nat} {s:AS} (h:vBo V s = true):lvG V (k + 1) s = lvG V k (i9 V s) ++ lvG V k (gl V s):=if_pos h
theorem a57 {k:Nat} {s:AS} (h:vBo V s = false):lvG V k s = [s]:=by
 cases k with
 | zero=>rfl
 | succ k=>exact if_neg (by rw [h];decide)
theorem aee (hV:w5 V) {k:Nat} (hk:k ≤ 9) (s:AS):(lvG V k s).length ≤ 512:=Nat.le_trans (a8x hV k s) (Nat.le_trans (Nat.pow_le_pow_right (by omega) hk) (by decide))
end
theorem aoq {n:Int} {l m:List Fd} {ps:List AS} (h:lsB n ps l m = true) {p:AS} (hp:p ∈ ps):sub p (af n):=by
 unfold lsB at h
 rw [Bool.and_eq_true,decide_eq_true_eq] at h
 obtain ⟨_,_,_,_,ho⟩:=l8 (uq h.1).1
 have hs:=qu hp
 rwa [ho] at hs
theorem a8h {n:Int} {l m:List Fd} {ps:List AS} (hz:ck4 n l m 0 = 0):pz n l m ps = (lsB n ps l m && ps.all (fun p=>!vBo (bc n l m) p)):=by
 unfold pz
 rw [if_pos hz]
 by_cases h:lsC n ps l m = 0
 · rw [if_pos h]
 · rw [if_neg h,show lsB n ps l m = false by unfold lsB;rw [decide_eq_false h];rfl]
   rfl
theorem abi {n:Int} {l m:List Fd} {ps:List AS} {i:Nat} (hz:ck4 n l m 0 = 0) (h:¬ i < ps.length):(lsB n ps l m && (ps.take i).all (fun p=>!vBo (bc n l m) p)) = pz n l m ps:=by
 rw [a8h hz,List.take_of_length_le (by omega)]
theorem abf {n:Int} {l m:List Fd} {ps:List AS} {i:Nat} (hz:ck4 n l m 0 = 0) (h:(lsB n ps l m && (ps.take i).all (fun p=>!vBo (bc n l m) p)) = false):(lsB n ps l m && (ps.take i).all (fun p=>!vBo (bc n l m) p)) = pz n l m ps:=by
 rw [a8h hz,h]
 rw [Bool.and_eq_false_iff] at h
 rcases h with h | h
 · rw [h];rfl
 · have:ps.all (fun p=>!vBo (bc n l m) p) = false:=by
    rw [← List.take_append_drop i ps,List.all_append,h]
    rfl
   rw [this,Bool.and_false]
theorem alw {n:Int} {l m:List Fd} (h8:n ≤ 8):ip (lvG (bc n l m) 9 (af n)) = ip (a4t n l m):=by
 have hb:=yi (n:=n) (m:=8) h8 (by omega)
 have hmem:∀ z,z ∈ a4t n l m ↔ z ∈ lvG (bc n l m) 9 (af n):=fun z=>by
  unfold a4t
  rw [a4z (gm n l m) _ _ _ (a9x (V:=bc n l m) h8).2.1,u5 (gm n l m) 9 33 _ (by omega) (by omega)]
  simp
 unfold ip qz
 rw [adl (k:=ord (a4t n l m)) (l:=lvG (bc n l m) 9 (af n)) (gd _) fun z=>by rw [gh,hmem]]
end Go.Hx
end

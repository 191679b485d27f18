/- A part of the proof: Mw7 Mw8 Mw9 Mw10. -/
import Derived.Test.YtaegkccfbmekbaaGreatNq26
import Derived.Test.YtaegkccfbmekbaaGreatNq35
set_option linter.all false
section
namespace Go.Hx
open Go.Proofs
set_option maxRecDepth 100000
theorem aax:aj Tryz.prog 52:=⟨Tryz.f52,Tryz.func52,by kernel_rfl,by kernel_rfl⟩
theorem a9i (t:Tbl) (fds add rem:List Fd) (hna:t.attrs.length ≤ 8) (hf:fds.length ≤ 68719476736):ce Tryz.prog 52 [.one (.ptr 1000 0)] (mst t fds add rem).objs (.tup []) (oo t fds).objs [1000]:=by
 refine ct (nt:=30) ae Tryz.func52 rfl rfl l9 rfl ?_
 have hfl:=jd hna
 refine sx7 ?_;(iterate 5 refine qy ?_);refine a6 ?_;refine sx7 ?_;(iterate 2 refine qy ?_);refine ay rfl rfl rfl rfl rfl rfl aga (aa6 t fds add rem hna) (bs.refl _) ⟨u9,u9,trivial⟩ rfl rfl ?_
 (iterate 2 refine qy ?_);refine s9 ?_;refine a6 ?_;refine ax (E:=aq) ae ak [0,1,2,3,4,5,6,7,8,9,10,11,12,13,14,15,16,17,18,19] ?_;(iterate 7 refine qy ?_)
 refine rc rfl rfl rfl rfl rfl rfl ahd (a9y (bg t) fds hfl hf) (CoL.refl _) rfl rfl ?_;(iterate 5 refine qy ?_);refine rc rfl rfl rfl rfl rfl rfl ahd (a9y fds (bg t) hf hfl) (CoL.refl _) rfl rfl ?_
 (iterate 2 refine qy ?_);refine s9 ?_;(iterate 2 refine qy ?_);refine s9 ?_;refine a6 ?_;refine ⟨by kernel_rfl, ?_⟩;refine ⟨.inl rfl, ?_⟩
 exact ⟨_,_,rfl,(by (repeat' apply And.intro) <;> first | trivial | exact Nat.le_of_ble_eq_true rfl),CoR.refl _,⟨u9,u9,trivial⟩⟩
theorem aa4:aj Tryz.prog 18:=⟨Tryz.f18,Tryz.func18,by kernel_rfl,by kernel_rfl⟩
theorem af7 (t:Tbl) (fds add rem:List Fd) (ht:TOk t) (hna:t.attrs.length ≤ 8) (hf:fds.length ≤ 68719476736) (r:Row):ce Tryz.prog 18 [.one (.ptr 1000 0),r.pc.toH] (mst t fds add rem).objs (.v (.one (.p (.raw (.int .i64 (f3 t r)))))) (yt (mst t fds add rem) r).objs [1000]:=by
 refine ct (nt:=35) ae Tryz.func18 rfl rfl l9 rfl ?_
 have hnr:=ht.nr
 refine sx7 ?_;refine m9 0 ?_;refine qy ?_;refine a6 ?_;refine a7 ?_;refine ax (E:=aq) ae ak [0,1,2,3,4,5,6,7,8,9,10,11] ?_;(iterate 5 refine qy ?_)
 refine rc rfl rfl rfl rfl rfl rfl arj (c70 t r) (CoL.refl _) rfl rfl ?_;(iterate 3 refine qy ?_);refine m9 1 ?_;refine s9 ?_;refine qy ?_;refine a6 ?_;refine ⟨by kernel_rfl, ?_⟩;refine a7 ?_;refine sx7 ?_
 (iterate 2 refine qy ?_);refine a6 ?_;refine a8 _ rfl (fun r0=>?_) (fun r0=>?_)
 ·
  have h0:=r0
  have h0:=of_decide_eq_false (be h0)
  try simp only [ty] at h0
  refine sx7 ?_;(iterate 2 refine qy ?_);refine a6 ?_;refine aw ?_;refine ⟨.inr rfl, ?_⟩
  have hh:=aqi (x:=(mst t fds add rem)) (r:=r) rfl (by omega)
  rw [hh.1,hh.2]
  exact ⟨_,_,rfl,(by (repeat' apply And.intro) <;> first | trivial | exact Nat.le_of_ble_eq_true rfl),CoR.refl _,⟨u9,u9,trivial⟩⟩
 ·
  have h0:=r0
  have h0:=of_decide_eq_true (bf h0)
  try simp only [ty] at h0
  have h0e:c4 t r = 0:=by omega
  have hV:=a4y h0e
  have hna2:(gj t r).attrs.length ≤ 8:=by rw [l6 h0e];exact hna
  have hr2:r.vals.length = (gj t r).attrs.length:=by rw [l6 h0e];exact (a2r h0e).2.1
  refine aa ?_;refine a7 ?_;refine sx7 ?_;(iterate 7 refine qy ?_);refine a6 ?_;refine a8 _ rfl (fun r1=>?_) (fun r1=>?_)
  ·
   have h1:=of_decide_eq_true r1
   try simp only [ty] at h1
   refine sx7 ?_;refine qy ?_;refine a6 ?_;refine aw ?_;refine ⟨.inr rfl, ?_⟩
   have hh:=atp (x:=(mst t fds add rem)) (r:=r) h0e (by show 200 ≤ t.rows.length;omega)
   rw [hh.1,hh.2]
   exact ⟨_,_,rfl,(by (repeat' apply And.intro) <;> first | trivial | exact Nat.le_of_ble_eq_true rfl),CoR.refl _,⟨u9,u9,trivial⟩⟩
  ·
   have h1:=of_decide_eq_false r1
   try simp only [ty] at h1
   refine aa ?_;refine sx7 ?_;(iterate 4 refine qy ?_);refine s9 ?_;refine a6 ?_;refine sx7 ?_;(iterate 2 refine qy ?_)
   refine ay rfl rfl rfl rfl rfl rfl a48 (a4l ⟨gj t r,cw t.rows,fds,add,rem⟩ r (1) (.inl rfl) hV hr2 (a1j (by omega))) (bs.refl _) ⟨u9,u9,trivial⟩ rfl rfl ?_;refine a6 ?_
   rw [show (⟨gj t r,f5 (gj t r).rows r 1 (cw t.rows),fds,add,rem⟩:MSt) = mst (gj t r) fds add rem from congrArg (fun c=>MSt.mk (gj t r) c fds add rem) (ap5 h0e)]
   refine sx7 ?_;refine qy ?_;refine ay rfl rfl rfl rfl rfl rfl aax (a9i (gj t r) fds add rem hna2 hf) (bs.refl _) ⟨u9,u9,trivial⟩ rfl rfl ?_;refine a6 ?_;refine sx7 ?_;refine qy ?_;refine a6 ?_
   refine aw ?_;refine ⟨.inr rfl, ?_⟩
   have hh:=asm (x:=(mst t fds add rem)) (r:=r) h0e (by show ¬ 200 ≤ t.rows.length;omega)
   rw [hh.1,hh.2]
   exact ⟨_,_,rfl,(by (repeat' apply And.intro) <;> first | trivial | exact Nat.le_of_ble_eq_true rfl),CoR.refl _,⟨u9,u9,trivial⟩⟩
end Go.Hx
end
section
namespace Go.Hx
open Go.Proofs
set_option maxRecDepth 100000
theorem ar2:aj Tryz.prog 33:=⟨Tryz.f33,Tryz.func33,by kernel_rfl,by kernel_rfl⟩
theorem ats (t:Tbl) (fds add rem:List Fd) (ht:TOk t) (hna:t.attrs.length ≤ 8) (hf:fds.length ≤ 68719476736) (id:Int):ce Tryz.prog 33 [.one (.ptr 1000 0), .one (.p (.raw (.int .i64 (id))))] (mst t fds add rem).objs (.v (.one (.p (.raw (.int .i64 (dq t id)))))) (aao (mst t fds add rem) id).objs [1000]:=by
 refine ct (nt:=46) ae Tryz.func33 rfl rfl l9 rfl ?_
 have hnr:=ht.nr
 refine sx7 ?_;refine qy ?_;refine a6 ?_;refine sx7 ?_;(iterate 5 refine qy ?_);refine rc rfl rfl rfl rfl rfl rfl aq9 (c71 t id) (CoL.refl _) rfl rfl ?_;(iterate 3 refine qy ?_);refine m9 0 ?_;refine s9 ?_
 refine qy ?_;refine a6 ?_;refine a7 ?_;refine sx7 ?_;(iterate 2 refine qy ?_);refine a6 ?_;refine a8 _ rfl (fun r0=>?_) (fun r0=>?_)
 ·
  have h0:=r0
  have h0:=of_decide_eq_false (be h0)
  try simp only [ty] at h0
  refine sx7 ?_;(iterate 2 refine qy ?_);refine a6 ?_;refine aw ?_;refine ⟨.inr rfl, ?_⟩
  rw [show aao (mst t fds add rem) id = (mst t fds add rem) from if_neg (by assumption)]
  exact ⟨_,_,rfl,(by (repeat' apply And.intro) <;> first | trivial | exact Nat.le_of_ble_eq_true rfl),CoR.refl _,⟨u9,u9,trivial⟩⟩
 ·
  have h0:=r0
  have h0:=of_decide_eq_true (bf h0)
  try simp only [ty] at h0
  have h0e:dq t id = 0:=by omega
  have hV:=aaw h0e
  have hna2:(ml t id).attrs.length ≤ 8:=by rw [nu h0e];exact hna
  have hix:=a5g (a38 h0e).2
  have hmx:(max (az t.rows id) 0).toNat < t.rows.length:=by rw [hix.1];exact hix.2
  have hr2:(t.rows.getD (max (az t.rows id) 0).toNat default).vals.length = t.attrs.length:=ht.width hmx
  refine aa ?_;refine sx7 ?_;(iterate 5 refine qy ?_);refine rc rfl rfl rfl rfl rfl rfl zu (c68 t id) (CoL.refl _) rfl rfl ?_;(iterate 5 refine qy ?_);refine a6 ?_;refine sx7 ?_;(iterate 9 refine qy ?_)
  refine ay rfl rfl rfl rfl rfl rfl a48 (a4l (mst t fds add rem) (t.rows.getD (max (az t.rows id) 0).toNat default) (-1) (.inr rfl) ht hr2 (a1j (by show t.rows.length ≤ 1000;omega))) (bs.refl _) ⟨u9,u9,trivial⟩ rfl rfl ?_
  refine a6 ?_
  rw [show (⟨t,f5 t.rows (t.rows.getD (max (az t.rows id) 0).toNat default) (-1) (cw t.rows),fds,add,rem⟩:MSt) = ⟨t,cw (ml t id).rows,fds,add,rem⟩ from congrArg (fun c=>MSt.mk t c fds add rem) (by rw [hix.1];exact an4 h0e)]
  refine sx7 ?_;(iterate 4 refine qy ?_);refine s9 ?_;refine a6 ?_;refine sx7 ?_;refine qy ?_
  refine ay rfl rfl rfl rfl rfl rfl aax (a9i (ml t id) fds add rem hna2 hf) (bs.refl _) ⟨u9,u9,trivial⟩ rfl rfl ?_;refine a6 ?_;refine sx7 ?_;refine qy ?_;refine a6 ?_;refine aw ?_
  refine ⟨.inr rfl, ?_⟩
  rw [show aao (mst t fds add rem) id = oo (ml t id) fds from if_pos h0e,h0e]
  exact ⟨_,_,rfl,(by (repeat' apply And.intro) <;> first | trivial | exact Nat.le_of_ble_eq_true rfl),CoR.refl _,⟨u9,u9,trivial⟩⟩
theorem aqa:aj Tryz.prog 36:=⟨Tryz.f36,Tryz.func36,by kernel_rfl,by kernel_rfl⟩
theorem avg (t:Tbl) (fds add rem:List Fd) (ht:TOk t) (hna:t.attrs.length ≤ 8) (hf:fds.length ≤ 68719476736) (id a:Int) (v:Val):ce Tryz.prog 36 [.one (.ptr 1000 0), .agg [.p (.raw (.int .i64 id)), .p (.raw (.int .i64 a))],v.pc.toH] (mst t fds add rem).objs (.v (.one (.p (.raw (.int .i64 (cz t id a v)))))) (mCh (mst t fds add rem) id a v).objs [1000]:=by
 refine ct (nt:=60) ae Tryz.func36 rfl rfl l9 rfl ?_
 have hnr:=ht.nr
 refine sx7 ?_;refine m9 0 ?_;refine m9 1 ?_;refine qy ?_;refine a6 ?_;refine a7 ?_;refine ax (E:=aq) ae ak [0,1,2,3,4,5,6,7,8,9,10,11,12] ?_;(iterate 6 refine qy ?_)
 refine rc rfl rfl rfl rfl rfl rfl arh (c72 t id a v) (CoL.refl _) rfl rfl ?_;(iterate 3 refine qy ?_);refine m9 2 ?_;refine s9 ?_;refine qy ?_;refine a6 ?_;refine ⟨by kernel_rfl, ?_⟩;refine a7 ?_;refine sx7 ?_
 (iterate 2 refine qy ?_);refine a6 ?_;refine a8 _ rfl (fun r0=>?_) (fun r0=>?_)
 ·
  have h0:=r0
  have h0:=of_decide_eq_false (be h0)
  try simp only [ty] at h0
  refine sx7 ?_;(iterate 2 refine qy ?_);refine a6 ?_;refine aw ?_;refine ⟨.inr rfl, ?_⟩
  rw [show mCh (mst t fds add rem) id a v = (mst t fds add rem) from if_neg (by assumption)]
  exact ⟨_,_,rfl,(by (repeat' apply And.intro) <;> first | trivial | exact Nat.le_of_ble_eq_true rfl),CoR.refl _,⟨u9,u9,trivial⟩⟩
 ·
  have h0:=r0
  have h0:=of_decide_eq_true (bf h0)
  try simp only [ty] at h0
  have h0e:cz t id a v = 0:=by omega
  have hV:=a90 h0e
  have hna2:(chT t id a v).attrs.length ≤ 8:=by rw [qt h0e];exact hna
  have hix:=a5g (a1o h0e).2.1
  have hlc:=ab7 h0e
  have hmx:(max (az t.rows id) 0).toNat < t.rows.length:=by rw [hix.1];exact hix.2
  have hmx2:(max (az t.rows id) 0).toNat < (chT t id a v).rows.length:=by rw [hlc];exact hmx
  have hr2:(t.rows.getD (max (az t.rows id) 0).toNat default).vals.length = t.attrs.length:=ht.width hmx
  have hr3:((chT t id a v).rows.getD (max (az t.rows id) 0).toNat default).vals.length = (chT t id a v).attrs.length:=hV.width hmx2
  refine aa ?_;refine a7 ?_;refine ax (E:=aq) ae ak [0,1,2,3,4,5,6,7,8,9,10,11] ?_;(iterate 6 refine qy ?_);refine rc rfl rfl rfl rfl rfl rfl zu (c68 t id) (CoL.refl _) rfl rfl ?_
  (iterate 5 refine qy ?_);refine a6 ?_;refine ⟨by kernel_rfl, ?_⟩;refine sx7 ?_;(iterate 9 refine qy ?_)
  refine ay rfl rfl rfl rfl rfl rfl a48 (a4l (mst t fds add rem) (t.rows.getD (max (az t.rows id) 0).toNat default) (-1) (.inr rfl) ht hr2 (a1j (by show t.rows.length ≤ 1000;omega))) (bs.refl _) ⟨u9,u9,trivial⟩ rfl rfl ?_
  refine a6 ?_
  rw [show (⟨t,f5 t.rows (t.rows.getD (max (az t.rows id) 0).toNat default) (-1) (cw t.rows),fds,add,rem⟩:MSt) = ⟨t,cw (t.rows.eraseIdx (az t.rows id).toNat),fds,add,rem⟩ from congrArg (fun c=>MSt.mk t c fds add rem) (by rw [hix.1];exact ap8 h0e)]
  refine sx7 ?_;(iterate 4 refine qy ?_);refine s9 ?_;refine a6 ?_;refine sx7 ?_;(iterate 9 refine qy ?_)
  refine ay rfl rfl rfl rfl rfl rfl a48 (a4l ⟨(chT t id a v),cw (t.rows.eraseIdx (az t.rows id).toNat),fds,add,rem⟩ ((chT t id a v).rows.getD (max (az t.rows id) 0).toNat default) (1) (.inl rfl) hV hr3 (a1j (by have:=(List.eraseIdx_sublist t.rows (az t.rows id).toNat).length_le;omega))) (bs.refl _) ⟨u9,u9,trivial⟩ rfl rfl ?_
  refine a6 ?_
  rw [show (⟨(chT t id a v),f5 (chT t id a v).rows ((chT t id a v).rows.getD (max (az t.rows id) 0).toNat default) 1 (cw (t.rows.eraseIdx (az t.rows id).toNat)),fds,add,rem⟩:MSt) = mst (chT t id a v) fds add rem from congrArg (fun c=>MSt.mk (chT t id a v) c fds add rem) (by rw [hix.1];exact an0 h0e)]
  refine sx7 ?_;refine qy ?_;refine ay rfl rfl rfl rfl rfl rfl aax (a9i (chT t id a v) fds add rem hna2 hf) (bs.refl _) ⟨u9,u9,trivial⟩ rfl rfl ?_;refine a6 ?_;refine sx7 ?_;refine qy ?_;refine a6 ?_
  refine aw ?_;refine ⟨.inr rfl, ?_⟩
  rw [show mCh (mst t fds add rem) id a v = oo (chT t id a v) fds from if_pos h0e,h0e]
  exact ⟨_,_,rfl,(by (repeat' apply And.intro) <;> first | trivial | exact Nat.le_of_ble_eq_true rfl),CoR.refl _,⟨u9,u9,trivial⟩⟩
end Go.Hx
end
section
namespace Go.Hx
open Go.Proofs
set_option maxRecDepth 100000
theorem a3w:aj Tryz.prog 26:=⟨Tryz.f26,Tryz.func26,by kernel_rfl,by kernel_rfl⟩
theorem af8 (t:Tbl) (fds add rem:List Fd) (hf:fds.length ≤ 68719476736) (hA:add.length ≤ 68719476736) (hR:rem.length ≤ 68719476736):ce Tryz.prog 26 [.one (.ptr 1000 0)] (mst t fds add rem).objs (.v (.one (.p (fdl fds)))) (mst t fds add rem).objs [1000]:=by
 refine ct (nt:=8) ae Tryz.func26 rfl rfl l9 rfl ?_;refine sx7 ?_;refine qy ?_;refine a6 ?_;refine sx7 ?_;(iterate 4 refine qy ?_)
 refine rc rfl rfl rfl rfl rfl rfl xg (a2u fds.length false (lf Fd.c fds) (by omega)) (CoL.refl _) rfl rfl ?_;refine qy ?_;refine a6 ?_;refine aw ?_;refine ⟨.inr rfl, ?_⟩
 exact ⟨_,_,rfl,(by (repeat' apply And.intro) <;> first | trivial | exact Nat.le_of_ble_eq_true rfl),CoR.refl _,⟨u9,u9,trivial⟩⟩
theorem age:aj Tryz.prog 14:=⟨Tryz.f14,Tryz.func14,by kernel_rfl,by kernel_rfl⟩
theorem atz (t:Tbl) (fds add rem:List Fd) (hf:fds.length ≤ 68719476736) (hA:add.length ≤ 68719476736) (hR:rem.length ≤ 68719476736):ce Tryz.prog 14 [.one (.ptr 1000 0)] (mst t fds add rem).objs (.tup [.one (.p (fdl add)), .one (.p (fdl rem))]) (mst t fds add rem).objs [1000]:=by
 refine ct (nt:=14) ae Tryz.func14 rfl rfl l9 rfl ?_;refine sx7 ?_;(iterate 2 refine qy ?_);refine a6 ?_;refine a7 ?_;refine ax (E:=aq) ae ak [0,1,2,3,4,5,6,7,8,9,10,11] ?_
 (iterate 4 refine qy ?_);refine rc rfl rfl rfl rfl rfl rfl xg (a2u add.length false (lf Fd.c add) (by omega)) (CoL.refl _) rfl rfl ?_;(iterate 4 refine qy ?_)
 refine rc rfl rfl rfl rfl rfl rfl xg (a2u rem.length false (lf Fd.c rem) (by omega)) (CoL.refl _) rfl rfl ?_;(iterate 2 refine qy ?_);refine a6 ?_;refine ⟨by kernel_rfl, ?_⟩;refine aw ?_;refine ⟨.inr rfl, ?_⟩
 exact ⟨_,_,rfl,(by (repeat' apply And.intro) <;> first | trivial | exact Nat.le_of_ble_eq_true rfl),CoR.refl _,⟨u9,u9,trivial⟩⟩
theorem aiu:aj Tryz.prog 37:=⟨Tryz.f37,Tryz.func37,by kernel_rfl,by kernel_rfl⟩
theorem aut (t:Tbl) (fds add rem:List Fd) (ht:TOk t):ce Tryz.prog 37 [.one (.ptr 1000 0)] (mst t fds add rem).objs (.v t.pc.toH) (mst t fds add rem).objs [1000]:=by
 refine ct (nt:=41) ae Tryz.func37 rfl rfl l9 rfl ?_
 have hnr:=ht.nr
 have hna:=ht.na
 have hw:=fun i (h:i < t.rows.length)=>ht.width h
 refine sx7 ?_;refine m9 0 ?_;refine a6 ?_;refine a7 ?_;refine ax (E:=aq) ae ak [0,1,2,3,4,5,6,7,8,9,10,11,12,13] ?_;(iterate 10 refine qy ?_)
 refine rc rfl rfl rfl rfl rfl rfl vz (a2z t.attrs.length false (lf a0v t.attrs) (by omega)) (CoL.refl _) rfl rfl ?_;refine qy ?_;refine m9 1 ?_;refine s9 ?_;refine a6 ?_;refine ⟨by kernel_rfl, ?_⟩
 refine a7 ?_;refine sx7 ?_;(iterate 7 refine qy ?_);refine a6 ?_;refine af ?_
 refine fg 1 2 905 true 2 48 (lf Row.c t.rows) (by decide) rfl rfl (CoP.sl rfl (.inr rfl) (fun h=>h) (fun i j hi _=>absurd hi (Nat.not_lt_zero i))) (.inr rfl) rfl rfl ?_
 refine av (ι:=Nat) ⟨[(2,some _),(3,some _),(22,some _),(23,some _)],[(1000,some _),(901,some _),(0,some _)]⟩ ⟨⟨c9,c9,c9,c9,trivial⟩,⟨u9,u9,u9,trivial⟩⟩ (fun i=>⟨[(24,some (vI i))],[(1,some (.box [.p (t.c 0), .p (t.c 1), .ref 905 i])),(905,some (.arr true 2 48 i (lf Row.c t.rows)))]⟩) (fun i=>i ≤ t.rows.length) (fun i=>t.rows.length - i) (0) (Nat.zero_le _) ⟨⟨zy,trivial⟩,⟨u9,u9,trivial⟩⟩ ?_
 rintro i hi
 refine sx7 ?_;refine qy ?_;refine a6 ?_;refine a7 ?_;refine a8 _ rfl (fun r0=>?_) (fun r0=>?_)
 ·
  have h0:=of_decide_eq_true r0
  try simp only [ty] at h0
  refine aa ?_;refine a7 ?_;refine af ?_;refine sx7 ?_;(iterate 2 refine qy ?_);refine m9 2 ?_;refine s9 ?_;refine a6 ?_
  refine ax (E:=aq) ae ak [0,1,2,3,4,5,6,7,8,9,10,11] ?_;(iterate 6 refine qy ?_)
  refine rc rfl rfl rfl rfl rfl rfl a51 (ac0 (t.rows.getD i default).vals.length false (lf Val.c (t.rows.getD i default).vals) (by rw [hw i (by omega)];omega)) (CoL.refl _) rfl rfl ?_;refine qy ?_;refine m9 3 ?_
  refine ra 4 true rfl rfl rfl rfl rfl rfl ?_;refine qy ?_;refine s9 ?_;refine a6 ?_;refine ⟨by kernel_rfl, ?_⟩;refine gy ?_;(iterate 2 refine qy ?_);refine a6 ?_;refine ⟨i + 1, ?_, ?_, ?_⟩
  · show i + 1 ≤ _;omega
  · first | omega | (dsimp only;omega)
  · exact ⟨⟨zy,c9,c9,c9,c9,trivial⟩,⟨⟨_,rfl,⟨CoH.refl _,CoH.refl _,CoH.refl _,trivial⟩⟩,⟨_,rfl,(kz (fun h=>h) (lt2 (CoP.refl _) (CoP.refl _)))⟩,u9,u9,u9,trivial⟩⟩
 ·
  have h0:=of_decide_eq_false r0
  try simp only [ty] at h0
  obtain rfl:i = t.rows.length:=by omega
  refine au ?_;refine a7 ?_;refine ju 1 2 rfl rfl rfl rfl rfl ?_;refine gy ?_;refine qy ?_;refine s9 ?_;refine a6 ?_;refine aw ?_;refine ⟨.inr rfl, ?_⟩
  exact ⟨_,_,rfl,(by (repeat' apply And.intro) <;> first | trivial | exact Nat.le_of_ble_eq_true rfl),CoR.refl _,⟨u9,u9,trivial⟩⟩
theorem ah3:aj Tryz.prog 22:=⟨Tryz.f22,Tryz.func22,by kernel_rfl,by kernel_rfl⟩
theorem atu (t:Tbl) (fds add rem:List Fd) (ht:TOk t) (hna:t.attrs.length ≤ 8) (hf:fds.length ≤ 68719476736) (o:MOp):ce Tryz.prog 22 [.one (.ptr 1000 0), .one (.p (.raw (.int .i64 ((t.attrs.length:Nat))))),o.pc.toH] (mst t fds add rem).objs (.v (.one (.p (.raw (.int .i64 (opE t o)))))) (y5 (mst t fds add rem) o).objs [1000]:=by
 refine ct (nt:=37) ae Tryz.func22 rfl rfl l9 rfl ?_
 have hk:=o.kind.toNat_lt
 have hid:=o.id.toNat_lt
 have hat:=ht.na
 refine sx7 ?_;refine m9 0 ?_;refine qy ?_;refine a6 ?_;refine a7 ?_;refine sx7 ?_;(iterate 3 refine qy ?_);refine a6 ?_;refine af ?_;refine sx7 ?_;(iterate 2 refine qy ?_);refine a6 ?_
 refine a8 _ rfl (fun r0=>?_) (fun r0=>?_)
 ·
  have h0:=of_decide_eq_true r0
  try simp only [ty] at h0
  refine sx7 ?_;(iterate 5 refine qy ?_)
  refine ay rfl rfl rfl rfl rfl rfl ar2 (ats t fds add rem ht hna hf (gw o)) (⟨pn.refl _,(by exact CoP.of_eq (by unfold gw;first | rfl | (congr 2;omega))),trivial⟩) ⟨u9,u9,trivial⟩ rfl rfl ?_;refine qy ?_
  refine a6 ?_;refine aw ?_;refine ⟨.inr rfl, ?_⟩
  first | rw [(wa (x:=(mst t fds add rem)) (o:=o) (by omega)).1,(wa (x:=(mst t fds add rem)) (o:=o) (by omega)).2] | rw [(vw (x:=(mst t fds add rem)) (o:=o) (by omega) (by omega)).1,(vw (x:=(mst t fds add rem)) (o:=o) (by omega) (by omega)).2] | rw [(wg (x:=(mst t fds add rem)) (o:=o) (by omega) (by omega)).1,(wg (x:=(mst t fds add rem)) (o:=o) (by omega) (by omega)).2] | skip
  exact ⟨_,_,rfl,(by (repeat' apply And.intro) <;> first | trivial | exact Nat.le_of_ble_eq_true rfl),CoR.refl _,⟨u9,u9,trivial⟩⟩
 ·
  have h0:=of_decide_eq_false r0
  try simp only [ty] at h0
  refine sx7 ?_;(iterate 2 refine qy ?_);refine a6 ?_;refine a8 _ rfl (fun r1=>?_) (fun r1=>?_)
  ·
   have h1:=of_decide_eq_true r1
   try simp only [ty] at h1
   refine sx7 ?_;(iterate 2 refine qy ?_);refine rc rfl rfl rfl rfl rfl rfl agh (adi t.attrs.length o hat) (CoL.refl _) rfl rfl ?_;(iterate 3 refine qy ?_);refine m9 1 ?_;refine m9 2 ?_;(iterate 2 refine s9 ?_)
   refine a6 ?_;refine sx7 ?_;(iterate 3 refine qy ?_);refine ay rfl rfl rfl rfl rfl rfl aqa (avg t fds add rem ht hna hf (gw o) (om t.attrs.length o) (md o)) (bs.refl _) ⟨u9,u9,trivial⟩ rfl rfl ?_
   refine qy ?_;refine a6 ?_;refine aw ?_;refine ⟨.inr rfl, ?_⟩
   first | rw [(wa (x:=(mst t fds add rem)) (o:=o) (by omega)).1,(wa (x:=(mst t fds add rem)) (o:=o) (by omega)).2] | rw [(vw (x:=(mst t fds add rem)) (o:=o) (by omega) (by omega)).1,(vw (x:=(mst t fds add rem)) (o:=o) (by omega) (by omega)).2] | rw [(wg (x:=(mst t fds add rem)) (o:=o) (by omega) (by omega)).1,(wg (x:=(mst t fds add rem)) (o:=o) (by omega) (by omega)).2] | skip
   exact ⟨_,_,rfl,(by (repeat' apply And.intro) <;> first | trivial | exact Nat.le_of_ble_eq_true rfl),CoR.refl _,⟨u9,u9,trivial⟩⟩
  ·
   have h1:=of_decide_eq_false r1
   try simp only [ty] at h1
   refine aa ?_;refine sx7 ?_;(iterate 3 refine qy ?_);refine rc rfl rfl rfl rfl rfl rfl ags (ahq t.attrs.length o hat) (CoL.refl _) rfl rfl ?_
   refine ay rfl rfl rfl rfl rfl rfl aa4 (af7 t fds add rem ht hna hf (mb t.attrs.length o)) (bs.refl _) ⟨u9,u9,trivial⟩ rfl rfl ?_;refine qy ?_;refine a6 ?_;refine aw ?_;refine ⟨.inr rfl, ?_⟩
   first | rw [(wa (x:=(mst t fds add rem)) (o:=o) (by omega)).1,(wa (x:=(mst t fds add rem)) (o:=o) (by omega)).2] | rw [(vw (x:=(mst t fds add rem)) (o:=o) (by omega) (by omega)).1,(vw (x:=(mst t fds add rem)) (o:=o) (by omega) (by omega)).2] | rw [(wg (x:=(mst t fds add rem)) (o:=o) (by omega) (by omega)).1,(wg (x:=(mst t fds add rem)) (o:=o) (by omega) (by omega)).2] | skip
   exact ⟨_,_,rfl,(by (repeat' apply And.intro) <;> first | trivial | exact Nat.le_of_ble_eq_true rfl),CoR.refl _,⟨u9,u9,trivial⟩⟩
end Go.Hx
end
section
namespace Go.Hx
open Go.Proofs
set_option maxRecDepth 100000
theorem agk:aj Tryz.prog 11:=⟨Tryz.f11,Tryz.func11,by kernel_rfl,by kernel_rfl⟩
theorem aii (s:ByteArray) (l:List ByteArray) (hl:l.length ≤ 1000000) (h:j7 s l = 0):ce Tryz.prog 11 [.one (.p (.raw (.string s))), .one (.p (i7 l))] [] (.tup [.one (.ptr 902 0), .one (.p (.raw (.int .i64 (0))))]) ((as1 s l).objsAt 902) []:=by
 refine ct (nt:=31) ae Tryz.func11 rfl rfl l9 rfl ?_;refine sx7 ?_;(iterate 2 refine qy ?_);refine a6 ?_;refine sx7 ?_;(iterate 2 refine qy ?_)
 refine rc rfl rfl rfl rfl rfl rfl vz (a2z l.length false (lf a0v l) (by omega)) (CoL.refl _) rfl rfl ?_;refine qy ?_;refine m9 900 ?_;refine s9 ?_;refine a6 ?_;refine a7 ?_;refine sx7 ?_;refine qy ?_
 refine rc rfl rfl rfl rfl rfl rfl a44 (c88 (gf s l)) (⟨CoC.agg ⟨CoP.refl _,CoP.refl _,bd,trivial⟩,trivial⟩) rfl rfl ?_;refine qy ?_;refine a6 ?_;refine sx7 ?_;(iterate 2 refine qy ?_);refine a6 ?_
 refine a8 _ rfl (fun r0=>?_) (fun r0=>?_)
 ·
  have h0:=r0
  have h0:=of_decide_eq_false (be h0)
  try simp only [ty] at h0
  exact absurd h (by rw [(as3 (s:=s) (l:=l) (by omega)).1];omega)
 ·
  have h0:=r0
  have h0:=of_decide_eq_true (bf h0)
  try simp only [ty] at h0
  refine aa ?_;refine a7 ?_;refine sx7 ?_;(iterate 3 refine qy ?_);refine a6 ?_;refine a8 _ rfl (fun r1=>?_) (fun r1=>?_)
  ·
   have h1:=of_decide_eq_true r1
   try simp only [ty] at h1
   exact absurd h (by rw [(at7 (s:=s) (l:=l) (by omega) (by omega)).1];omega)
  ·
   have h1:=of_decide_eq_false r1
   try simp only [ty] at h1
   have hna:(gf s l).attrs.length ≤ 8:=by show l.length ≤ 8;omega
   refine aa ?_;refine sx7 ?_;refine qy ?_;refine m9 901 ?_;refine qy ?_;refine m9 902 ?_;refine qy ?_;refine a6 ?_;refine a7 ?_
   refine ka ⟨[(8,some _)],[(901,some _),(902,some _)]⟩ ⟨⟨c9,trivial⟩,⟨u9,u9,trivial⟩⟩ ?_;refine gy ?_;(iterate 2 refine qy ?_)
   refine ay rfl rfl rfl rfl rfl rfl aga ((aa6 (gf s l) [] [] [] hna).swap 1000 902) (bs.refl _) ⟨⟨_,rfl,⟨CoH.refl _,CoH.refl _,bd,CoH.refl _,bd,bd,bd,trivial⟩⟩,⟨_,rfl,as0⟩,trivial⟩ rfl rfl ?_
   (iterate 2 refine qy ?_);refine s9 ?_;refine a6 ?_;refine sx7 ?_;(iterate 3 refine qy ?_);refine a6 ?_;refine aw ?_;refine ⟨.inr rfl, ?_⟩
   exact ⟨_,_,rfl,(by (repeat' apply And.intro) <;> first | trivial | exact Nat.le_of_ble_eq_true rfl),CoR.refl _,⟨u9,u9,trivial⟩⟩
theorem a5j:aj Tryz.prog 27:=⟨Tryz.f27,Tryz.func27,by kernel_rfl,by kernel_rfl⟩
theorem abr (t:Tbl) (fds add rem:List Fd) (hna:t.attrs.length ≤ 8):ce Tryz.prog 27 [.one (.ptr 1000 0)] (mst t fds add rem).objs (.v (.one (.p (asl (o8 (prs t.rows) t.attrs.length))))) (mst t fds add rem).objs [1000]:=by
 refine ct (nt:=43) ae Tryz.func27 rfl rfl l9 rfl ?_
 have hsl:=ny (b6 (t.attrs.length:Nat))
 refine sx7 ?_;refine qy ?_;refine a6 ?_;refine sx7 ?_;refine qy ?_;refine a6 ?_;refine a7 ?_;refine sx7 ?_;refine qy ?_
 refine ay rfl rfl rfl rfl rfl rfl a4h (a5p t fds add rem hna) (bs.refl _) ⟨u9,u9,trivial⟩ rfl rfl ?_;refine rc rfl rfl rfl rfl rfl rfl aat (aes (b6 (t.attrs.length:Nat))) (CoL.refl _) rfl rfl ?_
 (iterate 2 refine qy ?_);refine a6 ?_;refine af ?_;refine dw 3 905 true 1 69 (lf sC []) (by decide) rfl (CoP.sl rfl (.inr rfl) (fun h=>h) (fun i j hi _=>absurd hi (Nat.not_lt_zero i))) (.inr rfl) rfl ?_
 refine av (ι:=Nat) ⟨[(0,some _),(10,some _),(11,some _)],[(1000,some _),(901,some _)]⟩ ⟨⟨c9,c9,c9,trivial⟩,⟨u9,u9,trivial⟩⟩ (fun i=>⟨[(3,some (.v (.one (.ref 905 (je (prs t.rows) t.attrs.length i).length)))),(12,some (vI i))],[(905,some (.arr true 1 69 (je (prs t.rows) t.attrs.length i).length (lf sC (je (prs t.rows) t.attrs.length i))))]⟩) (fun i=>i ≤ (ck (b6 (t.attrs.length:Nat))).length) (fun i=>(ck (b6 (t.attrs.length:Nat))).length - i) (0) (Nat.zero_le _) ⟨⟨zy,zy,trivial⟩,⟨u9,trivial⟩⟩ ?_
 rintro i hi
 refine sx7 ?_;refine qy ?_;refine a6 ?_;refine a7 ?_;refine a8 _ rfl (fun r0=>?_) (fun r0=>?_)
 ·
  have h0:=of_decide_eq_true r0
  try simp only [ty] at h0
  have hil:i < (d6 t.attrs.length).length:=Int.ofNat_lt.1 h0
  have hkl:=aae (prs t.rows) t.attrs.length i
  refine aa ?_;refine a7 ?_;refine af ?_;refine sx7 ?_;(iterate 2 refine qy ?_);refine m9 0 ?_;refine s9 ?_;refine a6 ?_;refine nb 5 rfl rfl rfl ?_;refine sx7 ?_;(iterate 2 refine qy ?_)
  refine rc rfl rfl rfl rfl rfl rfl acg (af3 (je (prs t.rows) t.attrs.length i) 60 1 (fun j=>[bx (asC ((ck (b6 (t.attrs.length:Nat))).getD i default))].getD j .any) (fun y=>decide (sub y ((ck (b6 (t.attrs.length:Nat))).getD i default))) ahh (fun y=>amf y ((ck (b6 (t.attrs.length:Nat))).getD i default))) (CoL.refl _) rfl rfl ?_
  (iterate 2 refine qy ?_);refine a6 ?_;(iterate 2 refine a7 ?_);refine c7 [] [0,1,2,3,4] rfl ?_;refine cj (E:=aq) (L1:=[0,1,2,3]) (L2:=[4]) ae ?_;(iterate 4 refine qy ?_)
  refine a6 ?_;refine gt ?_
  refine qz 901 rfl w7 fun b es clock hf=>?_
  refine dp ?_
  refine ue (k:=4) (L:=[]) 1 rfl rfl fun bi=>?_
  refine dm ?_;refine af ?_
  refine av (ι:=(Array Nat × List AS)) ⟨[(0,some _),(3,some _),(5,some _),(10,some _),(11,some _),(12,some _),(24,some _)],[(905,some _),(1000,some _),(901,some _)]⟩ ⟨⟨c9,c9,c9,c9,c9,c9,c9,trivial⟩,⟨u9,u9,u9,trivial⟩⟩ (fun v=>⟨[(6,some (vB ((!((je (prs t.rows) t.attrs.length i).any fun y=>decide (sub y ((ck (b6 (t.attrs.length:Nat))).getD i default)))) && pK v.2 ((ck (b6 (t.attrs.length:Nat))).getD i default))))],[(1,some (.ex 2 (.pointer (some ⟨bi,0,none⟩)) bi (.mapIter (some b) clock v.1 clock)))]⟩) (fun v=>Vis es v.1 (v.2.map mkA)) (fun v=>(leftOf es v.1).size) ((#[],[])) (w4) ⟨⟨⟨_,rfl,(cob (by simp [pK]))⟩,trivial⟩,⟨u9,trivial⟩⟩ ?_
  rintro ⟨s,K⟩ hV
  refine a7 ?_;refine c7 [] [0,1] rfl ?_;refine wn (mid:=901) (k:=0) (L:=[1]) rfl hf (fun h0=>?_) (fun e he key v hk hv hev=>?_)
  ·
   have hD:=aht (w8 hf hV h0) ((ck (b6 (t.attrs.length:Nat))).getD i default)
   refine gt ?_;refine oh 901 rfl hf ?_;refine dp ?_;refine cj (E:=aq) (L1:=[1]) (L2:=[]) ae ?_;refine qy ?_;refine a6 ?_;refine dm ?_;refine a7 ?_
   refine a8 _ rfl (fun e=>by cases e) (fun _=>?_);refine au ?_;refine sx7 ?_;refine qy ?_;refine a6 ?_;refine a8 _ rfl (fun r1=>?_) (fun r1=>?_)
   ·
    have h1:=r1
    have hb:=r1
    dsimp only at hb
    rw [hD] at hb
    refine gy ?_;(iterate 2 refine qy ?_);refine m9 2 ?_;refine ra 3 true rfl rfl rfl rfl rfl rfl ?_;refine qy ?_;refine a6 ?_;refine gy ?_;(iterate 2 refine qy ?_);refine a6 ?_
    first | (refine ⟨i + 1, ?_, ?_, ?_⟩
             · show i + 1 ≤ _;omega
             · first | omega | (dsimp only;omega)
             · exact ⟨⟨⟨_,rfl,(df (qq hil hb))⟩,zy,c9,c9,c9,trivial⟩,⟨⟨_,rfl,(dx (qq hil hb) (CoP.refl _))⟩,u9,u9,trivial⟩⟩)
          | (refine ⟨i + 1, ?_, ?_, ?_⟩
             · show i + 1 ≤ _;omega
             · first | omega | (dsimp only;omega)
             · exact ⟨⟨⟨_,rfl,(d5 (rj hil hb))⟩,zy,c9,c9,c9,trivial⟩,⟨⟨_,rfl,(ci (rj hil hb))⟩,u9,u9,trivial⟩⟩)
   ·
    have h1:=r1
    have hb:=r1
    dsimp only at hb
    rw [hD] at hb
    refine aa ?_;refine gy ?_;(iterate 2 refine qy ?_);refine a6 ?_
    first | (refine ⟨i + 1, ?_, ?_, ?_⟩
             · show i + 1 ≤ _;omega
             · first | omega | (dsimp only;omega)
             · exact ⟨⟨⟨_,rfl,(df (qq hil hb))⟩,zy,c9,c9,c9,trivial⟩,⟨⟨_,rfl,(dx (qq hil hb) (CoP.refl _))⟩,u9,u9,trivial⟩⟩)
          | (refine ⟨i + 1, ?_, ?_, ?_⟩
             · show i + 1 ≤ _;omega
             · first | omega | (dsimp only;omega)
             · exact ⟨⟨⟨_,rfl,(d5 (rj hil hb))⟩,zy,c9,c9,c9,trivial⟩,⟨⟨_,rfl,(ci (rj hil hb))⟩,u9,u9,trivial⟩⟩)
  ·
   obtain ⟨k,rfl,hck,hy⟩:=l5 hv
   refine cj (E:=aq) (L1:=[1]) (L2:=[]) ae ?_;refine qy ?_;refine a6 ?_;refine dm ?_;refine a7 ?_;refine a8 _ rfl (fun _=>?_) (fun e=>by cases e);refine aa ?_;refine af ?_
   refine a7 ?_;refine c7 [] [0,1,2] rfl ?_;refine ud (mid:=901) (k:=0) (L:=[1,2]) rfl hf he hk hv hev ?_;refine cj (E:=aq) (L1:=[1,2]) (L2:=[]) ae ?_;(iterate 2 refine qy ?_)
   refine a6 ?_;refine dm ?_;refine gy ?_;(iterate 2 refine qy ?_);refine b5 rfl rfl (fun r2=>?_) (fun r2=>?_)
   ·
    have h2:=r2
    (iterate 4 refine qy ?_ (hg:=(gtt r2)));(iterate 2 refine qy ?_);refine a6 ?_;refine ⟨(s.push e.born,K ++ [k]), ?_, ?_, ?_⟩
    · exact mr hf hV he hk
    · exact left_shrinks es s e he
    · exact ⟨⟨⟨_,rfl,(cob (by first | exact a8v | exact a92 (by assumption)))⟩,c9,c9,c9,c9,c9,c9,c9,trivial⟩,⟨u9,u9,u9,u9,trivial⟩⟩
   ·
    have h2:=r2
    (iterate 4 refine k9 (gft r2) ?_);refine rq rfl rfl rfl rfl rfl ?_ (hp:=r2);refine qy ?_;refine a6 ?_;refine ⟨(s.push e.born,K ++ [k]), ?_, ?_, ?_⟩
    · exact mr hf hV he hk
    · exact left_shrinks es s e he
    · exact ⟨⟨⟨_,rfl,(cob (by first | exact a8v | exact a92 (by assumption)))⟩,c9,c9,c9,c9,c9,c9,c9,trivial⟩,⟨u9,u9,u9,u9,trivial⟩⟩
 ·
  have h0:=of_decide_eq_false r0
  try simp only [ty] at h0
  obtain rfl:i = (ck (b6 (t.attrs.length:Nat))).length:=by omega
  refine au ?_;refine a7 ?_;refine dn 3 rfl rfl rfl ?_;refine gy ?_;(iterate 2 refine qy ?_);refine a6 ?_;refine aw ?_;refine ⟨.inr rfl, ?_⟩
  exact ⟨_,_,rfl,(by (repeat' apply And.intro) <;> first | trivial | exact Nat.le_of_ble_eq_true rfl),(CoR.of_eq (by rw [a30 (Nat.le_refl _)];rfl)),⟨u9,u9,trivial⟩⟩
end Go.Hx
end

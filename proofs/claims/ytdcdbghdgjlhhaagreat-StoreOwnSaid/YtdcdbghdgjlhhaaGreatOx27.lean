/- A part of the proof: W36 Sp15 W37 Sp16 W32 W38 Sp17 W39 Ow5. -/
import Derived.Test.YtdcdbghdgjlhhaaGreatOx18
import Derived.Test.YtdcdbghdgjlhhaaGreatOx20
import Derived.Test.YtdcdbghdgjlhhaaGreatOx25
import Derived.Test.YtdcdbghdgjlhhaaGreatOx26
set_option linter.all false
set_option maxRecDepth 100000
namespace Go.Hx
section
open Go.Proofs
theorem a9x:am Tryz.prog 18:=wgx Tryz.func18
theorem agq (n:Nat) (s:Stt) (o:Opn) (hn:n ≤ 1000000) (h:Sim n s) (ho:gw o):br Tryz.prog 18 [.one (.ptr 1000 0),o.pc.toH] (a9 s).objs (.v (.one (.p (.raw (.int .i64 (doE s o)))))) (a9 (doS s o)).objs [1000]:=by
 refine c8 (nt:=62) a8 Tryz.func18 rfl rfl l9 rfl ?_
 have hsim:=sim h ho
 have hX:=h.sok (by omega)
 have hun:(a9 s).undone.length ≤ 68719476736:=by have:=h.n2;show s.undone.length ≤ _;omega
 have hlt9:o.kind.toNat % 9 < 9:=Nat.mod_lt _ (by omega)
 refine sx7 ?_;refine m9 0 ?_;refine wk ?_;refine a7 _ rfl (fun r0=>?_) (fun r0=>?_)
 ·
  have h0:=ae r0
  try simp only [ty] at h0
  refine w_4 ?_;refine qcx a2e (c30 o ho.lr) ?_;refine al rfl rfl rfl rfl rfl rfl a6n (agc (a9 s) (ep o) hX (ku ho) (yx (ku ho))) (bg.refl _) ⟨u9,u9,u9,u9,trivial⟩ rfl rfl ?_
  refine w_3 ?_;refine ⟨.inr rfl, ?_⟩
  have hk:o.kind.toNat % 9 = 0:=by omega
  rw [show doE s o = ah (a9 s).db (k6 (ep o)) from hsim.1.symm.trans (by simp [dxE,hk,a9]),show a9 (doS s o) = pfS (a9 s) (k6 (ep o)) from hsim.2.1.symm.trans (by simp [dxS,hk])]
  exact ⟨_,_,rfl,(by (repeat' apply And.intro) <;> first | trivial | exact Nat.le_of_ble_eq_true rfl),CoR.refl _,⟨u9,u9,u9,u9,trivial⟩⟩
 have h0:=aa r0
 try simp only [ty] at h0
 refine w_5 ?_;refine a7 _ rfl (fun r1=>?_) (fun r1=>?_)
 ·
  have h1:=ae r1
  try simp only [ty] at h1
  refine i5 ?_;refine ap (E:=au) a8 ag [0,1,2,3,4,5,6] ?_;refine w_2 ?_;refine qcx oz (c35 o) ?_;refine qy ?_;refine qcx xe (c33 o ho.lv) ?_
  refine al rfl rfl rfl rfl rfl rfl a2f (agw (a9 s) (bf o) (ec o) hX (lc ho).1 (oc (lc ho))) (bg.refl _) ⟨u9,u9,u9,u9,trivial⟩ rfl rfl ?_;refine w_2 ?_;refine ⟨by kernel_rfl, ?_⟩
  refine ej ?_;refine ⟨.inr rfl, ?_⟩
  have hk:o.kind.toNat % 9 = 1:=by omega
  rw [show doE s o = ah (a9 s).db (fl 2 (bf o) (ec o)) from hsim.1.symm.trans (by simp [dxE,hk,a9]),show a9 (doS s o) = pfS (a9 s) (fl 2 (bf o) (ec o)) from hsim.2.1.symm.trans (by simp [dxS,hk])]
  exact ⟨_,_,rfl,(by (repeat' apply And.intro) <;> first | trivial | exact Nat.le_of_ble_eq_true rfl),CoR.refl _,⟨u9,u9,u9,u9,trivial⟩⟩
 have h1:=aa r1
 try simp only [ty] at h1
 refine w_5 ?_;refine a7 _ rfl (fun r2=>?_) (fun r2=>?_)
 ·
  have h2:=ae r2
  try simp only [ty] at h2
  refine i5 ?_;refine ap (E:=au) a8 ag [0,1,2,3,4,5,6] ?_;refine w_2 ?_;refine qcx oz (c35 o) ?_;refine w_2 ?_
  refine al rfl rfl rfl rfl rfl rfl aat (ag2 (a9 s) (bf o) o.id hX (oc (xl h.dbV))) (bg.refl _) ⟨u9,u9,u9,u9,trivial⟩ rfl rfl ?_;refine w_2 ?_;refine ⟨by kernel_rfl, ?_⟩;refine ej ?_
  refine ⟨.inr rfl, ?_⟩
  have hk:o.kind.toNat % 9 = 2:=by omega
  rw [show doE s o = dlE (a9 s) (bf o) o.id from hsim.1.symm.trans (by simp [dxE,hk,a9]),show a9 (doS s o) = dlS (a9 s) (bf o) o.id from hsim.2.1.symm.trans (by simp [dxS,hk])]
  exact ⟨_,_,rfl,(by (repeat' apply And.intro) <;> first | trivial | exact Nat.le_of_ble_eq_true rfl),CoR.refl _,⟨u9,u9,u9,u9,trivial⟩⟩
 have h2:=aa r2
 try simp only [ty] at h2
 refine w_5 ?_;refine a7 _ rfl (fun r3=>?_) (fun r3=>?_)
 ·
  have h3:=ae r3
  try simp only [ty] at h3
  refine i5 ?_;refine ap (E:=au) a8 ag [0,1,2,3,4,5,6,7,8,9,10,11,12] ?_;refine w_2 ?_;refine qcx oz (c35 o) ?_;refine w_7 ?_;refine qcx nk (c49 _ (Int.natCast_nonneg _)) ?_
  refine al rfl rfl rfl rfl rfl rfl age (aj4 (a9 s) (bf o) o.id o.attr (ofV o.value) hX (a7w (xl h.dbV) (a24 _))) (bg.refl _) ⟨u9,u9,u9,u9,trivial⟩ rfl rfl ?_;refine w_2 ?_
  refine ⟨by kernel_rfl, ?_⟩;refine ej ?_;refine ⟨.inr rfl, ?_⟩
  have hk:o.kind.toNat % 9 = 3:=by omega
  rw [show doE s o = cgE (a9 s) (bf o) o.id o.attr (ofV o.value) from hsim.1.symm.trans (by simp [dxE,hk,a9]),show a9 (doS s o) = cgS (a9 s) (bf o) o.id o.attr (ofV o.value) from hsim.2.1.symm.trans (by simp [dxS,hk])]
  exact ⟨_,_,rfl,(by (repeat' apply And.intro) <;> first | trivial | exact Nat.le_of_ble_eq_true rfl),CoR.refl _,⟨u9,u9,u9,u9,trivial⟩⟩
 have h3:=aa r3
 try simp only [ty] at h3
 refine w_5 ?_;refine a7 _ rfl (fun r4=>?_) (fun r4=>?_)
 ·
  have h4:=ae r4
  try simp only [ty] at h4
  refine w_3 ?_;refine al rfl rfl rfl rfl rfl rfl a9z (c27 (a9 s)) (bg.refl _) ⟨u9,u9,u9,u9,trivial⟩ rfl rfl ?_;refine w_3 ?_;refine ⟨.inr rfl, ?_⟩
  have hk:o.kind.toNat % 9 = 4:=by omega
  rw [show doE s o = bgE (a9 s) from hsim.1.symm.trans (by simp [dxE,hk,a9]),show a9 (doS s o) = bgS (a9 s) from hsim.2.1.symm.trans (by simp [dxS,hk])]
  exact ⟨_,_,rfl,(by (repeat' apply And.intro) <;> first | trivial | exact Nat.le_of_ble_eq_true rfl),CoR.refl _,⟨u9,u9,u9,u9,trivial⟩⟩
 have h4:=aa r4
 try simp only [ty] at h4
 refine w_5 ?_;refine a7 _ rfl (fun r5=>?_) (fun r5=>?_)
 ·
  have h5:=ae r5
  try simp only [ty] at h5
  refine w_3 ?_;refine al rfl rfl rfl rfl rfl rfl agb (ai2 (a9 s) hX) (bg.refl _) ⟨u9,u9,u9,u9,trivial⟩ rfl rfl ?_;refine w_3 ?_;refine ⟨.inr rfl, ?_⟩
  have hk:o.kind.toNat % 9 = 5:=by omega
  rw [show doE s o = enE (a9 s) from hsim.1.symm.trans (by simp [dxE,hk,a9]),show a9 (doS s o) = cmS (enS (a9 s)) (enL (a9 s)) from hsim.2.1.symm.trans (by simp [dxS,hk])]
  exact ⟨_,_,rfl,(by (repeat' apply And.intro) <;> first | trivial | exact Nat.le_of_ble_eq_true rfl),CoR.refl _,⟨u9,u9,u9,u9,trivial⟩⟩
 have h5:=aa r5
 try simp only [ty] at h5
 refine w_5 ?_;refine a7 _ rfl (fun r6=>?_) (fun r6=>?_)
 ·
  have h6:=ae r6
  try simp only [ty] at h6
  refine w_3 ?_;refine al rfl rfl rfl rfl rfl rfl abi (afl (a9 s) hX.db hX.nw (fun _ i hi=>a9c h hi)) (bg.refl _) ⟨u9,u9,u9,u9,trivial⟩ rfl rfl ?_;refine w_3 ?_;refine ⟨.inr rfl, ?_⟩
  have hk:o.kind.toNat % 9 = 6:=by omega
  rw [show doE s o = enE (a9 s) from hsim.1.symm.trans (by simp [dxE,hk,a9]),show a9 (doS s o) = rbS (a9 s) from hsim.2.1.symm.trans (by simp [dxS,hk])]
  exact ⟨_,_,rfl,(by (repeat' apply And.intro) <;> first | trivial | exact Nat.le_of_ble_eq_true rfl),CoR.refl _,⟨u9,u9,u9,u9,trivial⟩⟩
 have h6:=aa r6
 try simp only [ty] at h6
 refine w_5 ?_;refine a7 _ rfl (fun r7=>?_) (fun r7=>?_)
 ·
  have h7:=ae r7
  try simp only [ty] at h7
  refine w_3 ?_;refine al rfl rfl rfl rfl rfl rfl a5f (agr (a9 s) hX.db hX.dn hun (fun hc=>⟨Nat.le_trans (a25 h hc rfl).1 (by omega),(a25 h hc rfl).2⟩)) (bg.refl _) ⟨u9,u9,u9,u9,trivial⟩ rfl rfl ?_
  refine w_3 ?_;refine ⟨.inr rfl, ?_⟩
  have hk:o.kind.toNat % 9 = 7:=by omega
  rw [show doE s o = udE (a9 s) from hsim.1.symm.trans (by simp [dxE,hk,a9]),show a9 (doS s o) = udS (a9 s) from hsim.2.1.symm.trans (by simp [dxS,hk])]
  exact ⟨_,_,rfl,(by (repeat' apply And.intro) <;> first | trivial | exact Nat.le_of_ble_eq_true rfl),CoR.refl _,⟨u9,u9,u9,u9,trivial⟩⟩
 have h7:=aa r7
 try simp only [ty] at h7
 refine w_4 ?_;refine al rfl rfl rfl rfl rfl rfl a63 (ah2 (a9 s) hX.db hX.dn hun (abg h)) (bg.refl _) ⟨u9,u9,u9,u9,trivial⟩ rfl rfl ?_;refine w_3 ?_;refine ⟨.inr rfl, ?_⟩
 have hk:o.kind.toNat % 9 = 8:=by omega
 rw [show doE s o = rdE (a9 s) from hsim.1.symm.trans (by simp [dxE,hk,a9]),show a9 (doS s o) = rdS (a9 s) from hsim.2.1.symm.trans (by simp [dxS,hk])]
 exact ⟨_,_,rfl,(by (repeat' apply And.intro) <;> first | trivial | exact Nat.le_of_ble_eq_true rfl),CoR.refl _,⟨u9,u9,u9,u9,trivial⟩⟩
end
section
def wkN (d:DB):Int:=if d.length = 1 then ((d.getD 0 default).rows.length:Int) else -1
def plS (s:Stt):List Opn → Stt
 | []=>s
 | o :: l=>plS (doS s o) l
theorem a7i {l:List Opn} {m:Int} (h:few l m = true):(∀ o ∈ l,gw o) ∧ (l.length:Int) ≤ m:=by
 simp only [few,Bool.and_eq_true,List.all_eq_true,decide_eq_true_eq] at h
 refine ⟨fun o ho=>?_,h.2⟩
 have:=h.1 o ho
 simp only [nz,Bool.and_eq_true,decide_eq_true_eq] at this
 exact ⟨by omega,by omega⟩
abbrev Str.objsAt (k:Nat) (x:Str):List (Nat × af) :=
 [(k, .box [.p (pw x.db), .ref 901 x.done.length, .ref 902 x.undone.length, .p (.raw (.bool x.opn)), .ref 903 x.now.length]),
  (901, .arr false 1 23 x.done.length (lf txC x.done)),(902, .arr false 1 23 x.undone.length (lf txC x.undone)),(903, .arr false 11 49 x.now.length (lf Chg.c x.now))]
end
section
open Go.Proofs
theorem abs:am Tryz.prog 38:=wgx Tryz.func38
theorem ahk (x:Str) (hd:dbV x.db):br Tryz.prog 38 [.one (.ptr 1001 0)] ((1001, .box [.ptr 1000 0]) :: x.objs) (.v (.one (.p (.raw (.int .i64 (wkN x.db)))))) ((1001, .box [.ptr 1000 0]) :: x.objs) [1000,1001]:=by
 refine c8 (nt:=15) a8 Tryz.func38 rfl rfl l9 rfl ?_;refine w_8 ?_;refine al rfl rfl rfl rfl rfl rfl a17 (ac1 x hd) (bg.refl _) ⟨u9,u9,u9,u9,trivial⟩ rfl rfl ?_;refine m9 0 ?_;refine w_9 ?_
 refine a7 _ rfl (fun r0=>?_) (fun r0=>?_)
 ·
  have h0:=ae r0
  try simp only [ty] at h0
  refine qc ?_;refine ⟨.inr rfl, ?_⟩
  rw [show wkN x.db = ((x.db.getD 0 default).rows.length:Int) from if_pos (by omega)]
  exact ⟨_,_,rfl,(by (repeat' apply And.intro) <;> first | trivial | exact Nat.le_of_ble_eq_true rfl),CoR.refl _,⟨u9,u9,u9,u9,u9,trivial⟩⟩
 have h0:=aa r0
 try simp only [ty] at h0
 refine w_6 ?_;refine ⟨.inr rfl, ?_⟩
 rw [show wkN x.db = -1 from if_neg (by omega)]
 exact ⟨_,_,rfl,(by (repeat' apply And.intro) <;> first | trivial | exact Nat.le_of_ble_eq_true rfl),CoR.refl _,⟨u9,u9,u9,u9,u9,trivial⟩⟩
end
section
open Go.Proofs
abbrev vI' (e:Int):HR:=.v (.one (.p (.raw (.int .i64 e))))
section
variable {n:Nat} {s:Stt} {o:Opn} {e:Int}
theorem awC (hn:n ≤ 1000000) (h:Sim n s) (ho:gw o) (hk:o.kind.toNat % 9 = 0) (he:doE s o = e):br Tryz.prog 31 [.one (.ptr 1000 0),(ep o).pc.toH] (a9 s).objs (vI' e) (a9 (doS s o)).objs [1000]:=by
 have hs:=sim h ho
 have q:=agc (a9 s) (ep o) (h.sok (by omega)) (ku ho) (yx (ku ho))
 rw [show ah (a9 s).db (k6 (ep o)) = e from by rw [← he,← hs.1];simp [dxE,hk],show pfS (a9 s) (k6 (ep o)) = a9 (doS s o) from by rw [← hs.2.1];simp [dxS,hk]] at q
 exact q
theorem awI (hn:n ≤ 1000000) (h:Sim n s) (ho:gw o) (hk:o.kind.toNat % 9 = 1) (he:doE s o = e):br Tryz.prog 34 [.one (.ptr 1000 0), .one (.p (.raw (.string (bf o)))),(ec o).pc.toH] (a9 s).objs (vI' e) (a9 (doS s o)).objs [1000]:=by
 have hs:=sim h ho
 have q:=agw (a9 s) (bf o) (ec o) (h.sok (by omega)) (lc ho).1 (oc (lc ho))
 rw [show ah (a9 s).db (fl 2 (bf o) (ec o)) = e from by rw [← he,← hs.1];simp [dxE,hk],show pfS (a9 s) (fl 2 (bf o) (ec o)) = a9 (doS s o) from by rw [← hs.2.1];simp [dxS,hk]] at q
 exact q
theorem awD (hn:n ≤ 1000000) (h:Sim n s) (ho:gw o) (hk:o.kind.toNat % 9 = 2) (he:doE s o = e):br Tryz.prog 39 [.one (.ptr 1000 0), .one (.p (.raw (.string (bf o)))), .one (.p (.raw (.int .i64 o.id)))] (a9 s).objs (vI' e) (a9 (doS s o)).objs [1000]:=by
 have hs:=sim h ho
 have q:=ag2 (a9 s) (bf o) o.id (h.sok (by omega)) (oc (xl h.dbV))
 rw [show dlE (a9 s) (bf o) o.id = e from by rw [← he,← hs.1];simp [dxE,hk],show dlS (a9 s) (bf o) o.id = a9 (doS s o) from by rw [← hs.2.1];simp [dxS,hk]] at q
 exact q
theorem awB (h:Sim n s) (ho:gw o) (hk:o.kind.toNat % 9 = 4) (he:doE s o = e):br Tryz.prog 27 [.one (.ptr 1000 0)] (a9 s).objs (vI' e) (a9 (doS s o)).objs [1000]:=by
 have hs:=sim h ho
 have q:=c27 (a9 s)
 rw [show bgE (a9 s) = e from by rw [← he,← hs.1];simp [dxE,hk],show bgS (a9 s) = a9 (doS s o) from by rw [← hs.2.1];simp [dxS,hk]] at q
 exact q
theorem awX (hn:n ≤ 1000000) (h:Sim n s) (ho:gw o) (hk:o.kind.toNat % 9 = 6) (he:doE s o = e):br Tryz.prog 29 [.one (.ptr 1000 0)] (a9 s).objs (vI' e) (a9 (doS s o)).objs [1000]:=by
 have hs:=sim h ho
 have hX:=h.sok (by omega)
 have q:=afl (a9 s) hX.db hX.nw (fun _ i hi=>a9c h hi)
 rw [show enE (a9 s) = e from by rw [← he,← hs.1];simp [dxE,hk],show rbS (a9 s) = a9 (doS s o) from by rw [← hs.2.1];simp [dxS,hk]] at q
 exact q
theorem awU (hn:n ≤ 1000000) (h:Sim n s) (ho:gw o) (hk:o.kind.toNat % 9 = 7) (he:doE s o = e):br Tryz.prog 24 [.one (.ptr 1000 0)] (a9 s).objs (vI' e) (a9 (doS s o)).objs [1000]:=by
 have hs:=sim h ho
 have hX:=h.sok (by omega)
 have hun:(a9 s).undone.length ≤ 68719476736:=by have:=h.n2;show s.undone.length ≤ _;omega
 have q:=agr (a9 s) hX.db hX.dn hun (fun hc=>⟨Nat.le_trans (a25 h hc rfl).1 (by omega),(a25 h hc rfl).2⟩)
 rw [show udE (a9 s) = e from by rw [← he,← hs.1];simp [dxE,hk],show udS (a9 s) = a9 (doS s o) from by rw [← hs.2.1];simp [dxS,hk]] at q
 exact q
theorem awR (hn:n ≤ 1000000) (h:Sim n s) (ho:gw o) (hk:o.kind.toNat % 9 = 8) (he:doE s o = e):br Tryz.prog 25 [.one (.ptr 1000 0)] (a9 s).objs (vI' e) (a9 (doS s o)).objs [1000]:=by
 have hs:=sim h ho
 have hX:=h.sok (by omega)
 have hun:(a9 s).undone.length ≤ 68719476736:=by have:=h.n2;show s.undone.length ≤ _;omega
 have q:=ah2 (a9 s) hX.db hX.dn hun (abg h)
 rw [show rdE (a9 s) = e from by rw [← he,← hs.1];simp [dxE,hk],show rdS (a9 s) = a9 (doS s o) from by rw [← hs.2.1];simp [dxS,hk]] at q
 exact q
end
abbrev opC:Opn:=⟨0,0,⟨1,0,[[11]]⟩,0,[],0,0⟩
abbrev opI (k:Int):Opn:=⟨1,0,default,k,[1],0,0⟩
abbrev opK (k:UInt8):Opn:=⟨k,0,default,0,[],0,0⟩
abbrev opD:Opn:=⟨2,0,default,1,[],0,0⟩
theorem a9i:gw opC:=⟨Nat.le_of_ble_eq_true rfl,Nat.le_of_ble_eq_true rfl⟩
theorem a28 {k:Int}:gw (opI k):=⟨Nat.le_of_ble_eq_true rfl,Nat.le_of_ble_eq_true rfl⟩
theorem k8 {k:UInt8}:gw (opK k):=⟨Nat.le_of_ble_eq_true rfl,Nat.le_of_ble_eq_true rfl⟩
theorem a9p:gw opD:=⟨Nat.le_of_ble_eq_true rfl,Nat.le_of_ble_eq_true rfl⟩
def w0:Stt:=default
def w1:Stt:=doS w0 opC
def w2:Stt:=doS w1 (opI 2)
def w3:Stt:=doS w2 (opK 7)
def w4:Stt:=doS w3 (opK 8)
def w5:Stt:=doS w4 (opK 7)
def w6:Stt:=doS w5 (opI 3)
def w7:Stt:=doS w6 (opK 8)
def w8:Stt:=doS w7 (opK 4)
def w9:Stt:=doS w8 opD
def w10:Stt:=doS w9 (opK 6)
theorem s0:Sim 0 w0:=a86
theorem s1:Sim 1 w1:=(sim s0 a9i).2.2
theorem s2:Sim 2 w2:=(sim s1 a28).2.2
theorem s3:Sim 3 w3:=(sim s2 k8).2.2
theorem s4:Sim 4 w4:=(sim s3 k8).2.2
theorem s5:Sim 5 w5:=(sim s4 k8).2.2
theorem s6:Sim 6 w6:=(sim s5 a28).2.2
theorem s7:Sim 7 w7:=(sim s6 k8).2.2
theorem s8:Sim 8 w8:=(sim s7 k8).2.2
theorem sz9:Sim 9 w9:=(sim s8 a9p).2.2
theorem s10:Sim 10 w10:=(sim sz9 k8).2.2
theorem e1:doE w0 opC = 0:=by kernel_rfl
theorem e2:doE w1 (opI 2) = 0:=by kernel_rfl
theorem e3:doE w2 (opK 7) = 0:=by kernel_rfl
theorem e4:doE w3 (opK 8) = 0:=by kernel_rfl
theorem e5:doE w4 (opK 7) = 0:=by kernel_rfl
theorem e6:doE w5 (opI 3) = 0:=by kernel_rfl
theorem e7:doE w6 (opK 8) = 16:=by kernel_rfl
theorem e8:doE w7 (opK 4) = 0:=by kernel_rfl
theorem e9:doE w8 opD = 0:=by kernel_rfl
theorem e10:doE w9 (opK 6) = 0:=by kernel_rfl
theorem k3:wkN (bm w3) = 1:=by kernel_rfl
theorem k4:wkN (bm w4) = 2:=by kernel_rfl
theorem d10:bm w10 = [⟨⟨#[114]⟩,[⟨#[97]⟩],[⟨1,[ofV 11]⟩,⟨3,[ofV 1]⟩]⟩]:=by kernel_rfl
theorem j10:w10.done.flatten.length = 2:=by kernel_rfl
theorem af6 {s:Stt} {k:Int} (hd:dbV (bm s)) (hk:wkN (bm s) = k):br Tryz.prog 38 [.one (.ptr 1001 0)] ((1001, .box [.ptr 1000 0]) :: (a9 s).objs) (vI' k) ((1001, .box [.ptr 1000 0]) :: (a9 s).objs) [1000,1001]:=by
 have q:=ahk (a9 s) hd
 rw [show wkN (a9 s).db = k from hk] at q
 exact q
theorem ait:br Tryz.prog 22 [.one (.ptr 1000 0)] (a9 w10).objs (.v (lq [⟨⟨#[114]⟩,[⟨#[97]⟩],[⟨1,[ofV 11]⟩,⟨3,[ofV 1]⟩]⟩]).toH) (a9 w10).objs [1000]:=by
 have q:=ac1 (a9 w10) s10.dbV
 rw [show (a9 w10).db = [⟨⟨#[114]⟩,[⟨#[97]⟩],[⟨1,[ofV 11]⟩,⟨3,[ofV 1]⟩]⟩] from d10] at q
 exact q
theorem aho:br Tryz.prog 23 [.one (.ptr 1000 0)] (a9 w10).objs (.v (.one (.ref 911 2))) ((a9 w10).objs ++ [(911, .arr true 11 49 2 (lf Chg.c w10.done.flatten))]) [1000]:=by
 have q:=afj (a9 w10) (by show w10.done.flatten.length ≤ _;rw [j10];omega) (fun i k hi hk=>by
  have hi:i < w10.done.length:=hi
  have hk:k < (w10.done.getD i default).length:=hk
  show ((w10.done.getD i default).getD k default).ok
  rw [cg _ _ hi] at hk ⊢
  rw [cg _ _ hk]
  exact s10.ok1 _ (List.mem_flatten.2 ⟨_,List.getElem_mem hi,List.getElem_mem hk⟩))
 rw [show (a9 w10).done.flatten.length = 2 from j10] at q
 exact q
end
section
open Go.Proofs
theorem aaa:am Tryz.prog 37:=wgx Tryz.func37
theorem c37 (k:Int):ay Tryz.prog 37 [pI k] (bu [(ec (⟨0,0,default,k,[1],0,0⟩:Opn)).pc]):=by
 refine av (nt:=7) a8 Tryz.func37 rfl rfl l9 ?_;refine sx7 ?_;refine m9 0 ?_;refine w_4 ?_;refine m9 1 ?_;refine qy ?_
 refine al rfl rfl rfl rfl rfl rfl xe (ay.eat (hcs:=[.agg [.p ((⟨0,0,default,k,[1],0,0⟩:Opn).c 0), .p ((⟨0,0,default,k,[1],0,0⟩:Opn).c 1), .p ((⟨0,0,default,k,[1],0,0⟩:Opn).c 2), .p ((⟨0,0,default,k,[1],0,0⟩:Opn).c 3), .p ((⟨0,0,default,k,[1],0,0⟩:Opn).c 4), .p ((⟨0,0,default,k,[1],0,0⟩:Opn).c 5), .ref 1 1, .p ((⟨0,0,default,k,[1],0,0⟩:Opn).c 7), .p ((⟨0,0,default,k,[1],0,0⟩:Opn).c 8)]]) (o1:=[(1, .arr true 1 5 1 (lf u8C [1]))]) (c33 (⟨0,0,default,k,[1],0,0⟩:Opn) (by show 1 ≤ 68719476736;decide)) rfl (by (repeat' apply And.intro) <;> first | trivial | rfl) (CoL.refl _)) (⟨⟨CoH.refl _,CoH.refl _,CoH.refl _,CoH.refl _,ar,CoH.refl _,CoH.refl _,CoH.refl _,CoH.refl _,trivial⟩,trivial⟩) ⟨⟨_,rfl,⟨fun h=>h,rfl,rfl,rfl,jq (lt1 (CoP.refl _))⟩⟩,trivial⟩ rfl rfl ?_
 refine w_2 ?_
 exact hx8 rfl rfl rfl (CoL.refl _)
end
section
open Go.Proofs
theorem a1a:am Tryz.prog 9:=wgx Tryz.func9
theorem cz9  : ay Tryz.prog 9 [] (bu [pB true]):=by
 refine av (nt:=105) a8 Tryz.func9 rfl rfl l9 ?_;refine w_6 ?_;refine al rfl rfl rfl rfl rfl rfl a65 (adk) (bg.refl _) trivial rfl rfl ?_;refine m9 0 ?_;refine w_3 ?_
 refine vg [0] [1,2,3,4,5] rfl ?_;refine rz (E:=au) a8 ?_;refine m9 1 ?_;refine ca ?_;refine a4g ?_;refine a3j 7 rfl rfl rfl ?_;refine ck ?_
 refine rz (E:=au) (L1:=[1]) (L2:=[2,3,4,5]) a8 ?_;refine m9 2 ?_;refine ca ?_;refine a4g ?_;refine a3j 8 rfl rfl rfl ?_;refine ck ?_
 refine rz (E:=au) (L1:=[2,3,4,5]) (L2:=[]) a8 ?_;refine qy ?_
 refine rc rfl rfl rfl rfl rfl rfl a5m (c36 ⟨0,0,[[11]]⟩ 1 (by omega) (by show 1 ≤ 68719476736;omega)) (⟨CoC.agg ⟨CoP.refl _,CoP.refl _,(CoP.sl rfl (.inl rfl) (fun h=>h) (jq (lt1 (CoP.sl rfl (.inl rfl) (fun h=>h) (jq (lt1 (CoP.refl _))))))),trivial⟩,CoC.refl _,trivial⟩) rfl rfl ?_
 refine m9 3 ?_;refine w_2 ?_;refine a55 ?_;refine qc ?_;refine ap (E:=au) a8 ag [0,1,2,3,4,5,6,7,8,9,10,11,12,13,14,15,16,17,18,19,20,21,22,23,24,25,26,27,28,29,30] ?_
 refine w_2 ?_;refine al rfl rfl rfl rfl rfl rfl a6n ((awC (by omega) s0 a9i rfl e1).swap 1000 900) (bg.refl _) ⟨u9,u9,u9,u9,trivial⟩ rfl rfl ?_;refine w_4 ?_;refine qcx aaa (c37 2) ?_
 refine al rfl rfl rfl rfl rfl rfl a2f ((awI (by omega) s1 a28 rfl e2).swap 1000 900) (bg.refl _) ⟨u9,u9,u9,u9,trivial⟩ rfl rfl ?_;refine w_3 ?_;refine rq rfl rfl rfl rfl (gff (b9 rfl rfl)) ?_
 refine al rfl rfl rfl rfl rfl rfl a5f ((awU (by omega) s2 k8 rfl e3).swap 1000 900) (bg.refl _) ⟨u9,u9,u9,u9,trivial⟩ rfl (gff (b9 rfl rfl)) ?_;refine rq rfl rfl rfl rfl (gff (b9 rfl rfl)) ?_
 refine w_2 ?_;refine rq rfl rfl rfl rfl (gff (b9 (b9 rfl rfl) rfl)) ?_
 refine al rfl rfl rfl rfl rfl rfl abs (((af6 s3.dbV k3).swap 1000 900).swap 1001 0) (bg.refl _) ⟨u9,u9,u9,u9,u9,trivial⟩ rfl (gff (b9 (b9 rfl rfl) rfl)) ?_
 refine rq rfl rfl rfl rfl (gff (b9 (b9 rfl rfl) rfl)) ?_;refine w_2 ?_;refine rq rfl rfl rfl rfl (gff (b9 (b9 (b9 rfl rfl) rfl) rfl)) ?_
 refine al rfl rfl rfl rfl rfl rfl a63 ((awR (by omega) s3 k8 rfl e4).swap 1000 900) (bg.refl _) ⟨u9,u9,u9,u9,trivial⟩ rfl (gff (b9 (b9 (b9 rfl rfl) rfl) rfl)) ?_
 refine rq rfl rfl rfl rfl (gff (b9 (b9 (b9 rfl rfl) rfl) rfl)) ?_;refine w_2 ?_;refine rq rfl rfl rfl rfl (gff (b9 (b9 (b9 (b9 rfl rfl) rfl) rfl) rfl)) ?_
 refine al rfl rfl rfl rfl rfl rfl abs (((af6 s4.dbV k4).swap 1000 900).swap 1001 0) (bg.refl _) ⟨u9,u9,u9,u9,u9,trivial⟩ rfl (gff (b9 (b9 (b9 (b9 rfl rfl) rfl) rfl) rfl)) ?_
 refine rq rfl rfl rfl rfl (gff (b9 (b9 (b9 (b9 rfl rfl) rfl) rfl) rfl)) ?_;refine w_2 ?_;refine ⟨by kernel_rfl, ?_⟩
 refine a7 _ rfl (fun e=>Bool.noConfusion ((b9 (b9 (b9 (b9 (b9 rfl rfl) rfl) rfl) rfl) rfl).symm.trans e)) (fun _=>?_);refine w_3 ?_
 refine ap (E:=au) a8 ag [0,1,2,3,4,5,6,7,8,9,10,11,12,13,14,15,16,17,18,19,20,21,22,23,24,25,26,27,28,29] ?_;refine qy ?_
 refine al rfl rfl rfl rfl rfl rfl a5f ((awU (by omega) s4 k8 rfl e5).swap 1000 900) (bg.refl _) ⟨u9,u9,u9,u9,trivial⟩ rfl rfl ?_;refine w_4 ?_;refine qcx aaa (c37 3) ?_
 refine al rfl rfl rfl rfl rfl rfl a2f ((awI (by omega) s5 a28 rfl e6).swap 1000 900) (bg.refl _) ⟨u9,u9,u9,u9,trivial⟩ rfl rfl ?_;refine w_3 ?_;refine rq rfl rfl rfl rfl (gff (b9 rfl rfl)) ?_
 refine al rfl rfl rfl rfl rfl rfl a63 ((awR (by omega) s6 k8 rfl e7).swap 1000 900) (bg.refl _) ⟨u9,u9,u9,u9,trivial⟩ rfl (gff (b9 rfl rfl)) ?_;refine rq rfl rfl rfl rfl (gff (b9 rfl rfl)) ?_
 refine w_2 ?_;refine rq rfl rfl rfl rfl (gff (b9 (b9 rfl rfl) rfl)) ?_
 refine al rfl rfl rfl rfl rfl rfl a9z ((awB s7 k8 rfl e8).swap 1000 900) (bg.refl _) ⟨u9,u9,u9,u9,trivial⟩ rfl (gff (b9 (b9 rfl rfl) rfl)) ?_
 refine rq rfl rfl rfl rfl (gff (b9 (b9 rfl rfl) rfl)) ?_;refine w_2 ?_;refine rq rfl rfl rfl rfl (gff (b9 (b9 (b9 rfl rfl) rfl) rfl)) ?_
 refine al rfl rfl rfl rfl rfl rfl aat ((awD (by omega) s8 a9p rfl e9).swap 1000 900) (bg.refl _) ⟨u9,u9,u9,u9,trivial⟩ rfl (gff (b9 (b9 (b9 rfl rfl) rfl) rfl)) ?_
 refine rq rfl rfl rfl rfl (gff (b9 (b9 (b9 rfl rfl) rfl) rfl)) ?_;refine w_2 ?_;refine rq rfl rfl rfl rfl (gff (b9 (b9 (b9 (b9 rfl rfl) rfl) rfl) rfl)) ?_
 refine al rfl rfl rfl rfl rfl rfl abi ((awX (by omega) sz9 k8 rfl e10).swap 1000 900) (bg.refl _) ⟨u9,u9,u9,u9,trivial⟩ rfl (gff (b9 (b9 (b9 (b9 rfl rfl) rfl) rfl) rfl)) ?_
 refine rq rfl rfl rfl rfl (gff (b9 (b9 (b9 (b9 rfl rfl) rfl) rfl) rfl)) ?_;refine w_2 ?_;refine ⟨by kernel_rfl, ?_⟩
 refine a7 _ rfl (fun e=>Bool.noConfusion ((b9 (b9 (b9 (b9 (b9 rfl rfl) rfl) rfl) rfl) rfl).symm.trans e)) (fun _=>?_);refine w_4 ?_
 refine al rfl rfl rfl rfl rfl rfl a17 ((ait).swap 1000 900) (bg.refl _) ⟨u9,u9,u9,u9,trivial⟩ rfl rfl ?_;refine m9 4 ?_;refine wt ?_;(iterate 9 refine rq rfl rfl rfl rfl (gtt (lz rfl rfl)) ?_)
 refine w_2 ?_;refine rq rfl rfl rfl rfl (gtt (lz (lz rfl rfl) rfl)) ?_
 refine al rfl rfl rfl rfl rfl rfl a4l ((aho).swap 1000 900) (bg.refl _) ⟨u9,u9,u9,u9,trivial⟩ rfl (gtt (lz (lz rfl rfl) rfl)) ?_
 (iterate 2 refine rq rfl rfl rfl rfl (gtt (lz (lz rfl rfl) rfl)) ?_);refine w_3 ?_
 exact hx8 rfl rfl rfl (CoL.refl _)
end
section
open Go.Proofs
section
variable {n:Nat} {s:Stt}
theorem wa {l:List Chg} (h:∀ c ∈ l,c.ok):j8 l:=fun j hj=>by rw [cg _ _ hj];exact h _ (List.getElem_mem hj)
theorem ah1 (hn:n ≤ 1000000) (h:Sim n s):br Tryz.prog 19 [.one (.ptr 1000 0),s.pc.toH] (a9 s).objs (.v (.one (.p (.raw (.bool true))))) (a9 s).objs [1000]:=by
 have q:=ahw (a9 s) s (h.sok (by omega)) (by have:=h.n1;show s.done.flatten.length ≤ _;omega) (fun i k hi hk=>by
  have hi:i < s.done.length:=hi
  have hk:k < (s.done.getD i default).length:=hk
  show ((s.done.getD i default).getD k default).ok
  rw [cg _ _ hi] at hk ⊢
  rw [cg _ _ hk]
  exact h.ok1 _ (List.mem_flatten.2 ⟨_,List.getElem_mem hi,List.getElem_mem hk⟩)) (h.st (by omega)) (wa h.ok1) (wa h.ok1)
 rw [show (decide ((a9 s).db = bm s) && decide ((a9 s).done.flatten = s.done.flatten)) = true from by
  rw [decide_eq_true (show (a9 s).db = bm s from rfl),decide_eq_true (show (a9 s).done.flatten = s.done.flatten from rfl)];rfl] at q
 exact q
def unK (s:Stt) (k:Nat):Stt:=⟨s.done.take (s.done.length - k),s.undone ++ (s.done.drop (s.done.length - k)).reverse,false,[]⟩
end
end
section
open Go.Proofs
theorem c4 (l:List Opn):ay Tryz.prog 4 [pP (aby l)] (bu [pB true]):=by
 refine av (nt:=44) a8 Tryz.func4 rfl rfl l9 ?_;refine w_7 ?_;refine qcx a1a (cz9) ?_;refine w_3 ?_;refine qcx a9l (c10 l 25) ?_;refine w_3 ?_;refine a7 _ rfl (fun r0=>?_) (fun r0=>?_)
 ·
  have h0:=r0
  have h0:=b7 h0
  refine sx7 ?_;refine qcx a1a (cz9) ?_;refine w_2 ?_
  exact hx8 rfl rfl rfl (CoL.refl _)
 have h0:=r0
 have h0:=b8 h0
 obtain ⟨ho,hlen⟩:=a7i (l:=l) (m:=25) (by simpa using h0)
 have hlen2:l.length ≤ 25:=by omega
 refine w_3 ?_;refine al rfl rfl rfl rfl rfl rfl a65 (adk) (bg.refl _) trivial rfl rfl ?_;refine qy ?_;refine m9 0 ?_;refine qc ?_
 refine az (ι:=(Nat × Stt)) ⟨[(3,some _),(4,some _),(19,some _),(20,some _)],[]⟩ ⟨⟨c9,c9,c9,c9,trivial⟩,trivial⟩ (fun q=>⟨[(21,some (vI q.1))],[(0,some (.box [.p (txs q.2.done), .p (txs q.2.undone), .p (.raw (.bool q.2.opn)), .p (sm q.2.now)])),(900,some (.box [.p (pw (bm q.2)), .ref 901 q.2.done.length, .ref 902 q.2.undone.length, .p (.raw (.bool q.2.opn)), .ref 903 q.2.now.length])),(901,some (.arr false 1 23 q.2.done.length (lf txC q.2.done))),(902,some (.arr false 1 23 q.2.undone.length (lf txC q.2.undone))),(903,some (.arr false 11 49 q.2.now.length (lf Chg.c q.2.now)))]⟩) (fun q=>q.1 ≤ l.length ∧ Sim q.1 q.2) (fun q=>l.length - q.1) ((0,default)) (⟨Nat.zero_le _,a86⟩) ⟨⟨zy,trivial⟩,⟨⟨_,rfl,⟨ar,ar,CoH.refl _,ar,trivial⟩⟩,u9,u9,u9,u9,trivial⟩⟩ ?_
 rintro ⟨i,s⟩ ⟨hi,hs⟩
 dsimp only at hi hs ⊢
 refine w_5 ?_;refine a7 _ rfl (fun r1=>?_) (fun r1=>?_)
 ·
  have h1:=ae r1
  try simp only [ty] at h1
  refine w_7 ?_;refine m9 1 ?_;refine w_6 ?_;refine rc rfl rfl rfl rfl rfl rfl abk (c11 s (l.getD i default) (hs.st (by omega)) (ho _ (by rw [cg _ _ (by omega)];exact List.getElem_mem _))) (CoL.refl _) rfl rfl ?_
  refine w_3 ?_;refine m9 2 ?_;refine w_5 ?_
  have hs2:=(sim hs (o:=l.getD i default) (ho _ (by rw [cg _ _ (by omega)];exact List.getElem_mem _))).2.2
  refine w_3 ?_
  refine al rfl rfl rfl rfl rfl rfl a9x ((agq i s (l.getD i default) (by omega) hs (ho _ (by rw [cg _ _ (by omega)];exact List.getElem_mem _))).swap 1000 900) (bg.refl _) ⟨u9,u9,u9,u9,trivial⟩ rfl rfl ?_
  refine w_3 ?_;refine bo rfl rfl (fun r2=>?_) (fun r2=>?_)
  ·
   have h2:=r2
   have h2:=aa (b7 h2)
   try simp only [ty] at h2
   exact absurd r2 (by simp)
  have h2:=r2
  have h2:=ae (b8 h2)
  try simp only [ty] at h2
  (iterate 2 refine qy ?_ (hg:=(gff r2)));refine al rfl rfl rfl rfl rfl rfl abn ((ah1 (by omega) hs2).swap 1000 900) (bg.refl _) ⟨u9,u9,u9,u9,trivial⟩ rfl (gff r2) ?_;refine qy ?_ (hg:=(gff r2))
  refine w_2 ?_;refine a7 _ rfl (fun e=>Bool.noConfusion ((b9 r2 rfl).symm.trans e)) (fun _=>?_);refine w_9 ?_;refine ⟨(i + 1,doS s (l.getD i default)), ?_, ?_, ?_⟩
  · exact ⟨by dsimp only;omega,hs2⟩
  · first | omega | (dsimp only;omega)
  exact ⟨⟨zy,c9,c9,c9,c9,trivial⟩,⟨u9,u9,u9,u9,u9,trivial⟩⟩
 have h1:=aa r1
 try simp only [ty] at h1
 skip
 refine w_5 ?_
 exact hx8 rfl rfl rfl (CoL.refl _)
end
section
open Go.Proofs
section
variable {n:Nat} {s:Stt} {o:Opn}
theorem aj1 (hn:n ≤ 1000000) (h:Sim n s) (ho:gw o) (hk:o.kind.toNat % 9 = 0):br Tryz.prog 31 [.one (.ptr 1000 0),tj (ep o) 1010 1011] ((a9 s).objs ++ pr (ep o) 1010 1011) (vI' (doE s o)) ((a9 (doS s o)).objs ++ pr (ep o) 1010 1011) [1000,1010,1011]:=by
 have hs:=sim h ho
 have q:=ahl (a9 s) (ep o) (h.sok (by omega)) (ku ho) (yx (ku ho))
 rw [show ah (a9 s).db (k6 (ep o)) = doE s o from by rw [← hs.1];simp [dxE,hk],show pfS (a9 s) (k6 (ep o)) = a9 (doS s o) from by rw [← hs.2.1];simp [dxS,hk]] at q
 exact q
theorem ajb (hn:n ≤ 1000000) (h:Sim n s) (ho:gw o) (hk:o.kind.toNat % 9 = 1):br Tryz.prog 34 [.one (.ptr 1000 0), .one (.p (.raw (.string (bf o)))),ws (ec o) 1010] ((a9 s).objs ++ rp (ec o) 1010) (vI' (doE s o)) ((a9 (doS s o)).objs ++ rp (ec o) 1010) [1000,1010]:=by
 have hs:=sim h ho
 have q:=ajc (a9 s) (bf o) (ec o) (h.sok (by omega)) (lc ho).1 (oc (lc ho))
 rw [show ah (a9 s).db (fl 2 (bf o) (ec o)) = doE s o from by rw [← hs.1];simp [dxE,hk],show pfS (a9 s) (fl 2 (bf o) (ec o)) = a9 (doS s o) from by rw [← hs.2.1];simp [dxS,hk]] at q
 exact q
end
def tbG (hA hR:Nat → Value):Nat → Nat → PV:=fun q j=>if j = 1 then .raw (hA q) else if j = 2 then .raw (hR q) else .any
theorem agk {f:Nat → Nat → PV} {hA hR:Nat → Value} {n:Nat} (h:∀ q,q < n → f q 1 = .raw (hA q) ∧ f q 2 = .raw (hR q)):∀ q j,q < n → j < 3 → CoP (f q j) (tbG hA hR q j):=fun q j hq hj=>by
 unfold tbG
 split
 · rename_i e
   subst e
   rw [(h q hq).1]
   exact CoP.refl _
 split
 · rename_i e
   subst e
   rw [(h q hq).2]
   exact CoP.refl _
 exact fp _
def chG (hA hR hV:Nat → Value):Nat → Nat → PV:=fun q j=>if j = 3 then .raw (hA q) else if j = 4 then .raw (hR q) else if j = 6 then .raw (hV q) else .any
theorem af8 {f:Nat → Nat → PV} {hA hR hV:Nat → Value} {n:Nat} (h:∀ q,q < n → f q 3 = .raw (hA q) ∧ f q 4 = .raw (hR q) ∧ f q 6 = .raw (hV q)):∀ q j,q < n → j < 11 → CoP (f q j) (chG hA hR hV q j):=fun q j hq hj=>by
 unfold chG
 split
 · rename_i e
   subst e
   rw [(h q hq).1]
   exact CoP.refl _
 split
 · rename_i e
   subst e
   rw [(h q hq).2.1]
   exact CoP.refl _
 split
 · rename_i e
   subst e
   rw [(h q hq).2.2]
   exact CoP.refl _
 exact fp _
set_option maxHeartbeats 4000000
theorem c7 (l:List Opn):ay Tryz.prog 7 [pP (aby l)] (bu [pB true]):=by
 refine av (nt:=113) a8 Tryz.func7 rfl rfl l9 ?_;refine w_7 ?_;refine qcx a1a (cz9) ?_;refine w_2 ?_;refine bo rfl rfl (fun r0=>?_) (fun r0=>?_)
 ·
  have h0:=r0
  have h0:=b7 h0
  (iterate 3 refine k9 (gtf r0) ?_);refine rq rfl rfl rfl rfl rfl ?_ (hp:=r0);refine ca ?_;refine a7 _ rfl (fun _=>?_) (fun e=>by cases e);refine sx7 ?_;refine qcx a1a (cz9) ?_;refine w_2 ?_
  exact hx8 rfl rfl rfl (CoL.refl _)
 have h0:=r0
 have h0:=b8 h0
 refine qy ?_ (hg:=(gff r0));refine qcx a9l (c10 l 25) ?_ (hg:=(gff r0));refine qy ?_ (hg:=(gff r0));refine w_2 ?_;refine a7 _ rfl (fun r1=>?_) (fun r1=>?_)
 ·
  have h1:=r1
  have h1:=bw r0 h1
  have h1:=b7 h1
  refine sx7 ?_;refine qcx a1a (cz9) ?_;refine w_2 ?_
  exact hx8 rfl rfl rfl (CoL.refl _)
 have h1:=r1
 have h1:=bw r0 h1
 have h1:=b8 h1
 obtain ⟨ho,hlen⟩:=a7i (l:=l) (m:=25) (by simpa using h1)
 have hlen2:l.length ≤ 25:=by omega
 refine w_3 ?_;refine al rfl rfl rfl rfl rfl rfl a65 (adk) (bg.refl _) trivial rfl rfl ?_;refine qy ?_;refine m9 0 ?_;refine qc ?_
 refine az (ι:=(Nat × Stt)) ⟨[(3,some _),(4,some _),(25,some _),(26,some _)],[]⟩ ⟨⟨c9,c9,c9,c9,trivial⟩,trivial⟩ (fun q=>⟨[(27,some (vI q.1))],[(0,some (.box [.p (txs q.2.done), .p (txs q.2.undone), .p (.raw (.bool q.2.opn)), .p (sm q.2.now)])),(900,some (.box [.p (pw (bm q.2)), .ref 901 q.2.done.length, .ref 902 q.2.undone.length, .p (.raw (.bool q.2.opn)), .ref 903 q.2.now.length])),(901,some (.arr false 1 23 q.2.done.length (lf txC q.2.done))),(902,some (.arr false 1 23 q.2.undone.length (lf txC q.2.undone))),(903,some (.arr false 11 49 q.2.now.length (lf Chg.c q.2.now)))]⟩) (fun q=>q.1 ≤ l.length ∧ Sim q.1 q.2) (fun q=>l.length - q.1) ((0,default)) (⟨Nat.zero_le _,a86⟩) ⟨⟨zy,trivial⟩,⟨⟨_,rfl,⟨ar,ar,CoH.refl _,ar,trivial⟩⟩,u9,u9,u9,u9,trivial⟩⟩ ?_
 rintro ⟨i,s⟩ ⟨hi,hs⟩
 dsimp only at hi hs ⊢
 refine w_5 ?_;refine a7 _ rfl (fun r2=>?_) (fun r2=>?_)
 ·
  have h2:=ae r2
  try simp only [ty] at h2
  have hO:gw (l.getD i default):=(ho _ (by rw [cg _ _ (by omega)];exact List.getElem_mem _))
  have hs2:=(sim hs hO).2.2
  have hto:=ku hO
  have hro:=(lc hO).1
  have hlt9:(l.getD i default).kind.toNat % 9 < 9:=Nat.mod_lt _ (by omega)
  have hd2:=hs2.dbV
  have hdn2:(a9 (doS s (l.getD i default))).db.length ≤ 68719476736:=Nat.le_trans hd2.1 (by decide)
  have hf2:(a9 (doS s (l.getD i default))).done.flatten.length ≤ 68719476736:=by have:=hs2.n1;show (doS s (l.getD i default)).done.flatten.length ≤ _;omega
  have hJ2:j8 (doS s (l.getD i default)).done.flatten:=wa hs2.ok1
  refine w_7 ?_;refine m9 1 ?_;refine w_2 ?_
  refine df (ι:=Unit) ⟨[(3,some _),(4,some _),(6,some _),(25,some _),(26,some _),(27,some _)],[(0,some _),(1,some _)]⟩ ⟨⟨c9,c9,c9,c9,c9,c9,trivial⟩,⟨u9,u9,trivial⟩⟩ (fun _i=>⟨[],[(900,some (.box [.p (pw (bm (doS s (l.getD i default)))), .ref 901 (doS s (l.getD i default)).done.length, .ref 902 (doS s (l.getD i default)).undone.length, .p (.raw (.bool (doS s (l.getD i default)).opn)), .ref 903 (doS s (l.getD i default)).now.length])),(901,some (.arr false 1 23 (doS s (l.getD i default)).done.length (lf txC (doS s (l.getD i default)).done))),(902,some (.arr false 1 23 (doS s (l.getD i default)).undone.length (lf txC (doS s (l.getD i default)).undone))),(903,some (.arr false 11 49 (doS s (l.getD i default)).now.length (lf Chg.c (doS s (l.getD i default)).now)))]⟩) (fun _i=>True) ?_ ?_
  ·
   refine gk ?_;refine a7 _ rfl (fun r3=>?_) (fun r3=>?_)
   ·
    have h3:=ae r3
    try simp only [ty] at h3
    have hk:(l.getD i default).kind.toNat % 9 = 0:=by omega
    refine w_3 ?_;refine al rfl rfl rfl rfl rfl rfl a2e (aia (l.getD i default) hO.lr) (bg.refl _) trivial rfl rfl ?_;refine m9 2 ?_;refine w_6 ?_
    refine al rfl rfl rfl rfl rfl rfl a6n ((((aj1 (by omega) hs hO hk).swap 1000 900).swap 1010 905).swap 1011 906) (bg.refl _) ⟨u9,u9,u9,u9,u9,u9,trivial⟩ rfl rfl ?_;refine ca ?_
    refine lw 906 (.opq 2 45 (ep (l.getD i default)).rows.length (JU (ep (l.getD i default)).rows.length)) rfl (a39 fun q hq=>(hto.2.2 q hq).1) ?_
    refine lw 905 (.arr true 1 9 (ep (l.getD i default)).attrs.length (fun _ _=>.any)) rfl ⟨fun h=>h,rfl,rfl,rfl,fun _ _ _ _=>fp _⟩ ?_;refine w_2 ?_
    refine al rfl rfl rfl rfl rfl rfl a4n (ad9 ((ep (l.getD i default)).attrs.length) ((ep (l.getD i default)).rows.length) (hto.1) (hto.2.1)) (⟨⟨fp _,CoH.refl _,CoH.refl _,trivial⟩,trivial⟩) ⟨u9,u9,trivial⟩ rfl rfl ?_
    refine ca ?_;refine ⟨(), ?_, ?_⟩
    · trivial
    exact ⟨⟨c9,c9,c9,c9,c9,c9,trivial⟩,⟨u9,u9,u9,u9,u9,u9,trivial⟩⟩
   have h3:=aa r3
   try simp only [ty] at h3
   refine w_5 ?_;refine a7 _ rfl (fun r4=>?_) (fun r4=>?_)
   ·
    have h4:=ae r4
    try simp only [ty] at h4
    have hk:(l.getD i default).kind.toNat % 9 = 1:=by omega
    refine w_3 ?_;refine al rfl rfl rfl rfl rfl rfl xe (aig (l.getD i default) hO.lv) (bg.refl _) trivial rfl rfl ?_;refine m9 3 ?_;refine w_3 ?_;refine ap (E:=au) a8 ag [0,1,2,3,4] ?_
    refine w_2 ?_;refine qcx oz (c35 (l.getD i default)) ?_;refine qy ?_
    refine al rfl rfl rfl rfl rfl rfl a2f (((ajb (by omega) hs hO hk).swap 1000 900).swap 1010 905) (bg.refl _) ⟨u9,u9,u9,u9,u9,trivial⟩ rfl rfl ?_;refine ca ?_;refine ⟨by kernel_rfl, ?_⟩;refine w_8 ?_
    refine az (ι:=Nat) ⟨[(3,some _),(4,some _),(6,some _),(8,some _),(25,some _),(26,some _),(27,some _),(57,some _)],[(0,some _),(900,some _),(901,some _),(902,some _),(903,some _),(1,some _),(3,some _)]⟩ ⟨⟨c9,c9,c9,c9,c9,c9,c9,c9,trivial⟩,⟨u9,u9,u9,u9,u9,u9,u9,trivial⟩⟩ (fun k=>⟨[(58,some (vI k))],[(905,some (.arr true 3 47 (ec (l.getD i default)).vals.length (fun _ _=>.any)))]⟩) (fun k=>k ≤ (ec (l.getD i default)).vals.length) (fun k=>(ec (l.getD i default)).vals.length - k) (0) (Nat.zero_le _) ⟨⟨zy,trivial⟩,⟨⟨_,rfl,⟨fun h=>h,rfl,rfl,rfl,fun _ _ _ _=>fp _⟩⟩,trivial⟩⟩ ?_
    rintro k hk1
    refine w_5 ?_;refine a7 _ rfl (fun r5=>?_) (fun r5=>?_)
    ·
     have h5:=ae r5
     try simp only [ty] at h5
     refine af7 ?_;refine ⟨k + 1, ?_, ?_, ?_⟩
     · show k + 1 ≤ _;omega
     · first | omega | (dsimp only;omega)
     exact ⟨⟨zy,c9,c9,c9,c9,c9,c9,c9,c9,trivial⟩,⟨⟨_,rfl,⟨fun h=>h,rfl,rfl,rfl,fun _ _ _ _=>fp _⟩⟩,u9,u9,u9,u9,u9,u9,u9,trivial⟩⟩
    have h5:=aa r5
    try simp only [ty] at h5
    refine cw ?_;refine ⟨(), ?_, ?_⟩
    · trivial
    exact ⟨⟨c9,c9,c9,c9,c9,c9,trivial⟩,⟨u9,u9,u9,u9,u9,u9,trivial⟩⟩
   have h4:=aa r4
   try simp only [ty] at h4
   refine w_3 ?_;refine al rfl rfl rfl rfl rfl rfl a9x ((agq i s (l.getD i default) (by omega) hs hO).swap 1000 900) (bg.refl _) ⟨u9,u9,u9,u9,trivial⟩ rfl rfl ?_;refine ca ?_;refine ⟨(), ?_, ?_⟩
   · trivial
   exact ⟨⟨c9,c9,c9,c9,c9,c9,trivial⟩,⟨u9,u9,u9,u9,u9,u9,trivial⟩⟩
  rintro _ _
  refine w_4 ?_;refine qcx abk (c11 s (l.getD i default) (hs.st (by omega)) hO) ?_;refine w_7 ?_;refine vg [0,1] [2,3,4] rfl ?_;refine rz (E:=au) a8 ?_;refine qy ?_
  refine al rfl rfl rfl rfl rfl rfl a17 ((aif (a9 (doS s (l.getD i default))) hd2).swap 1000 900) (bg.refl _) ⟨u9,u9,u9,u9,trivial⟩ rfl rfl ?_;refine ca ?_;refine a4g ?_
  refine vv 915 918 rfl (fun f L hP hsc=>?_) rfl rfl
  obtain ⟨na,ga,nr,hA,hR,hf,rfl,hms⟩:=hP
  refine kp 915 rfl (by decide) (Nat.le_trans (hd2.1) (by decide)) hsc (ip 915 (.arr true 3 42 (a9 (doS s (l.getD i default))).db.length (tbG hA hR)) rfl ⟨fun h=>h,rfl,rfl,rfl,agk hf⟩ ?_);refine ck ?_
  refine rz (E:=au) (L1:=[2,3,4]) (L2:=[]) a8 ?_;refine w_4 ?_;refine a55 ?_;refine a0s ?_
  refine az (ι:=Nat) ⟨[(3,some _),(4,some _),(25,some _),(26,some _),(27,some _),(75,some _),(76,some _)],[(900,some _),(901,some _),(902,some _),(903,some _),(0,some _),(915,some _)]⟩ ⟨⟨c9,c9,c9,c9,c9,c9,c9,trivial⟩,⟨u9,u9,u9,u9,u9,u9,trivial⟩⟩ (fun j=>⟨[(77,some (vI j))],[(918,some (.opq 0 0 0 (en (tx na ga nr hA hR (List.range' j ((a9 (doS s (l.getD i default))).db.length - j))))))]⟩) (fun j=>j ≤ (a9 (doS s (l.getD i default))).db.length) (fun j=>(a9 (doS s (l.getD i default))).db.length - j) (0) (Nat.zero_le _) ⟨⟨zy,trivial⟩,⟨⟨_,rfl,(by rw [a2y];exact CoO.refl _)⟩,trivial⟩⟩ ?_
  rintro j hj1
  refine w_5 ?_;refine a7 _ rfl (fun r6=>?_) (fun r6=>?_)
  ·
   have h6:=ae r6
   try simp only [ty] at h6
   have hj2:j < (a9 (doS s (l.getD i default))).db.length:=by omega
   refine w_7 ?_;refine m9 4 ?_;refine w_2 ?_
   refine lw 918 (.opq 0 0 0 (en ((hA j,JSl 1 9 (na j) (ga j)) :: (hR j,JU (nr j)) :: tx na ga nr hA hR (List.range' (j + 1) ((a9 (doS s (l.getD i default))).db.length - (j + 1)))))) rfl (by rw [a9g hj2];exact CoO.refl _) ?_
   refine jc (n9 905 918 1 (na j) 9 rfl (n9 906 918 2 (nr j) 45 rfl (a6j 4 [.p .any, .ref 905 (na j), .ref 906 (nr j)] rfl ⟨.inl rfl,fm.from rfl,fm.from rfl,trivial⟩ (ip 905 (.opq 1 9 (na j) (JSl 1 9 (na j) (ga j))) rfl o8 (ip 906 (.opq 2 45 (nr j) (JU (nr j))) rfl o8 (kp 905 rfl (by decide) (Nat.le_trans (hms j hj2).1 (by decide)) (hms j hj2).2.2 (ip 905 (.arr true 1 9 (na j) (fun _ _=>.any)) rfl ⟨fun h=>h,rfl,rfl,rfl,fun _ _ _ _=>fp _⟩ (ck ?_))))))))
   refine w_2 ?_;refine al rfl rfl rfl rfl rfl rfl a4n (ad9 (na j) (nr j) ((hms j hj2).1) ((hms j hj2).2.1)) (⟨⟨fp _,CoH.refl _,CoH.refl _,trivial⟩,trivial⟩) ⟨u9,u9,trivial⟩ rfl rfl ?_;refine w_5 ?_
   refine ⟨j + 1, ?_, ?_, ?_⟩
   · show j + 1 ≤ _;omega
   · first | omega | (dsimp only;omega)
   exact ⟨⟨zy,c9,c9,c9,c9,c9,c9,c9,trivial⟩,⟨u9,u9,u9,u9,u9,u9,u9,trivial⟩⟩
  have h6:=aa r6
  try simp only [ty] at h6
  refine w_2 ?_;refine vg [0,1] [2,3] rfl ?_;refine rz (E:=au) a8 ?_;refine qy ?_
  refine al rfl rfl rfl rfl rfl rfl a4l ((aj7 (a9 (doS s (l.getD i default))) hf2 hJ2).swap 1000 900) (bg.refl _) ⟨u9,u9,u9,u9,trivial⟩ rfl rfl ?_;refine ca ?_;refine a4g ?_
  refine vv 911 919 rfl (fun f L hP hsc=>?_) rfl rfl
  obtain ⟨na,ga,nr,nv,gv,hA,hR,hV,hf,rfl,hms⟩:=hP
  refine kp 911 rfl (by decide) (Nat.le_trans hf2 (by decide)) hsc (ip 911 (.arr true 11 49 (a9 (doS s (l.getD i default))).done.flatten.length (chG hA hR hV)) rfl ⟨fun h=>h,rfl,rfl,rfl,af8 hf⟩ ?_)
  refine ck ?_;refine rz (E:=au) (L1:=[2,3]) (L2:=[]) a8 ?_;refine w_3 ?_;refine a55 ?_;refine a0s ?_
  refine az (ι:=Nat) ⟨[(3,some _),(4,some _),(25,some _),(26,some _),(27,some _),(85,some _),(86,some _)],[(900,some _),(901,some _),(902,some _),(903,some _),(0,some _),(911,some _)]⟩ ⟨⟨c9,c9,c9,c9,c9,c9,c9,trivial⟩,⟨u9,u9,u9,u9,u9,u9,trivial⟩⟩ (fun k=>⟨[(87,some (vI k))],[(919,some (.opq 0 0 0 (en (ru na ga nr nv gv hA hR hV (List.range' k ((a9 (doS s (l.getD i default))).done.flatten.length - k))))))]⟩) (fun k=>k ≤ (a9 (doS s (l.getD i default))).done.flatten.length) (fun k=>(a9 (doS s (l.getD i default))).done.flatten.length - k) (0) (Nat.zero_le _) ⟨⟨zy,trivial⟩,⟨⟨_,rfl,(by rw [a2y];exact CoO.refl _)⟩,trivial⟩⟩ ?_
  rintro k hk1
  refine w_5 ?_;refine a7 _ rfl (fun r7=>?_) (fun r7=>?_)
  ·
   have h7:=ae r7
   try simp only [ty] at h7
   have hk2:k < (a9 (doS s (l.getD i default))).done.flatten.length:=by omega
   refine w_7 ?_;refine m9 5 ?_;refine w_3 ?_
   refine lw 919 (.opq 0 0 0 (en ((hA k,JSl 1 9 (na k) (ga k)) :: (hR k,JU (nr k)) :: (hV k,JSl 3 47 (nv k) (gv k)) :: ru na ga nr nv gv hA hR hV (List.range' (k + 1) ((a9 (doS s (l.getD i default))).done.flatten.length - (k + 1)))))) rfl (by rw [aao hk2];exact CoO.refl _) ?_
   refine jc (n9 905 919 1 (na k) 9 rfl (n9 906 919 2 (nr k) 45 rfl (n9 907 919 3 (nv k) 47 rfl (a6j 5 [.p .any, .p .any, .p .any, .ref 905 (na k), .ref 906 (nr k), .p .any, .ref 907 (nv k), .p .any, .p .any, .p .any, .p .any] rfl ⟨.inl rfl, .inl rfl, .inl rfl,fm.from rfl,fm.from rfl, .inl rfl,fm.from rfl, .inl rfl, .inl rfl, .inl rfl, .inl rfl,trivial⟩ (ip 905 (.opq 1 9 (na k) (JSl 1 9 (na k) (ga k))) rfl o8 (ip 906 (.opq 2 45 (nr k) (JU (nr k))) rfl o8 (ip 907 (.opq 3 47 (nv k) (JSl 3 47 (nv k) (gv k))) rfl o8 (kp 905 rfl (by decide) (Nat.le_trans (hms k hk2).1 (by decide)) (hms k hk2).2.2.2.1 (ip 905 (.arr true 1 9 (na k) (fun _ _=>.any)) rfl ⟨fun h=>h,rfl,rfl,rfl,fun _ _ _ _=>fp _⟩ (kp 907 rfl (by decide) (Nat.le_trans (hms k hk2).2.2.1 (by decide)) (hms k hk2).2.2.2.2 (ip 907 (.arr true 3 47 (nv k) (fun _ _=>.any)) rfl ⟨fun h=>h,rfl,rfl,rfl,fun _ _ _ _=>fp _⟩ (ck ?_))))))))))))
   refine w_3 ?_;refine al rfl rfl rfl rfl rfl rfl a4n (ad9 (na k) (nr k) ((hms k hk2).1) ((hms k hk2).2.1)) (⟨⟨fp _,CoH.refl _,CoH.refl _,trivial⟩,trivial⟩) ⟨u9,u9,trivial⟩ rfl rfl ?_;refine dz ?_
   refine az (ι:=Nat) ⟨[(3,some _),(4,some _),(13,some _),(25,some _),(26,some _),(27,some _),(85,some _),(86,some _),(87,some _),(97,some _)],[(919,some _),(900,some _),(901,some _),(902,some _),(903,some _),(0,some _),(911,some _),(5,some _)]⟩ ⟨⟨c9,c9,c9,c9,c9,c9,c9,c9,c9,c9,trivial⟩,⟨u9,u9,u9,u9,u9,u9,u9,u9,trivial⟩⟩ (fun m=>⟨[(98,some (vI m))],[(907,some (.arr true 3 47 (nv k) (fun _ _=>.any)))]⟩) (fun m=>m ≤ nv k) (fun m=>nv k - m) (0) (Nat.zero_le _) ⟨⟨zy,trivial⟩,⟨u9,trivial⟩⟩ ?_
   rintro m hm1
   refine w_5 ?_;refine a7 _ rfl (fun r8=>?_) (fun r8=>?_)
   ·
    have h8:=ae r8
    try simp only [ty] at h8
    have hnv:=(hms k hk2).2.2.1
    refine ad5 ?_;refine ⟨m + 1, ?_, ?_, ?_⟩
    · show m + 1 ≤ _;omega
    · first | omega | (dsimp only;omega)
    exact ⟨⟨zy,c9,c9,c9,c9,c9,c9,c9,c9,c9,c9,trivial⟩,⟨⟨_,rfl,⟨fun h=>h,rfl,rfl,rfl,fun _ _ _ _=>fp _⟩⟩,u9,u9,u9,u9,u9,u9,u9,u9,trivial⟩⟩
   have h8:=aa r8
   try simp only [ty] at h8
   refine w_5 ?_;refine ⟨k + 1, ?_, ?_, ?_⟩
   · show k + 1 ≤ _;omega
   · first | omega | (dsimp only;omega)
   exact ⟨⟨zy,c9,c9,c9,c9,c9,c9,c9,trivial⟩,⟨u9,u9,u9,u9,u9,u9,u9,trivial⟩⟩
  have h7:=aa r7
  try simp only [ty] at h7
  refine w_5 ?_;refine ⟨(i + 1,(doS s (l.getD i default))), ?_, ?_, ?_⟩
  · exact ⟨by dsimp only;omega,hs2⟩
  · first | omega | (dsimp only;omega)
  exact ⟨⟨zy,c9,c9,c9,c9,trivial⟩,⟨u9,u9,u9,u9,u9,trivial⟩⟩
 have h2:=aa r2
 try simp only [ty] at h2
 skip
 refine w_5 ?_;refine al rfl rfl rfl rfl rfl rfl abn ((ah1 (by omega) hs).swap 1000 900) (bg.refl _) ⟨u9,u9,u9,u9,trivial⟩ rfl rfl ?_;refine w_2 ?_
 exact hx8 rfl rfl rfl (CoL.refl _)
end
end Go.Hx

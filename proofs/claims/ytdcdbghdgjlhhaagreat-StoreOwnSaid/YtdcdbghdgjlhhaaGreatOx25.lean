/- A part of the proof: Ow3 W26 W27 Ow4 Hx21 Sp18 W28 W29 W31 W33 Sp9 W30. -/
import Derived.ChangeArms
import Derived.OpenShut
import Derived.ProofKit
import Derived.WalkKit
import Derived.WideKeyArgs
import Derived.Test.YtdcdbghdgjlhhaaGreatOx12
import Derived.Test.YtdcdbghdgjlhhaaGreatOx16
import Derived.Test.YtdcdbghdgjlhhaaGreatOx18
import Derived.Test.YtdcdbghdgjlhhaaGreatOx19
import Derived.Test.YtdcdbghdgjlhhaaGreatOx20
import Derived.Test.YtdcdbghdgjlhhaaGreatOx21
import Derived.Test.YtdcdbghdgjlhhaaGreatOx24
set_option linter.all false
set_option maxRecDepth 100000
set_option maxHeartbeats 1000000
namespace Go.Hx
section
open Go.Proofs
theorem aig (x:Opn) (h:x.vals.length ≤ 68719476736):br Tryz.prog 33 [x.pc.toH] [] (.v (ws (ec x) 905)) (rp (ec x) 905) []:=by
 refine c8 (nt:=27) a8 Tryz.func33 rfl rfl l9 rfl ?_;refine sx7 ?_;refine m9 0 ?_;refine m9 1 ?_;refine w_6 ?_;refine m9 2 ?_;refine w_8 ?_
 refine ct 2 1 905 true 3 47 (lf Val.c (x.vals.map ofV)) (by decide) rfl rfl (CoP.sl rfl (.inr rfl) (fun h=>h) (fun i j hi _=>absurd hi (Nat.not_lt_zero i))) (.inr rfl) rfl rfl ?_
 refine az (ι:=Nat) ⟨[(1,some _),(2,some _),(3,some _)],[(0,some _),(1,some _)]⟩ ⟨⟨c9,c9,c9,trivial⟩,⟨u9,u9,trivial⟩⟩ (fun i=>⟨[(4,some (vI i))],[(2,some (.box [.p (.raw (.int .i64 x.id)), .ref 905 i])),(905,some (.arr true 3 47 i (lf Val.c (x.vals.map ofV))))]⟩) (fun i=>i ≤ x.vals.length) (fun i=>x.vals.length - i) (0) (Nat.zero_le _) ⟨⟨zy,trivial⟩,⟨u9,u9,trivial⟩⟩ ?_
 rintro i hi
 refine w_9 ?_;refine a7 _ rfl (fun r0=>?_) (fun r0=>?_)
 ·
  have h0:=ae r0
  try simp only [ty] at h0
  refine w_3 ?_;refine ap (E:=au) a8 ag [0,1,2,3,4,5,6,7,8,9,10,11] ?_;refine w_7 ?_;refine qcx nk (c49 _ (Int.natCast_nonneg _)) ?_;refine m9 3 ?_
  refine ra 4 true rfl rfl rfl rfl rfl rfl ?_;refine w_3 ?_;refine ⟨by kernel_rfl, ?_⟩;refine w_5 ?_;refine ⟨i + 1, ?_, ?_, ?_⟩
  · show i + 1 ≤ _
    omega
  · first | omega | (dsimp only;omega)
  exact ⟨⟨zy,c9,c9,c9,trivial⟩,⟨u9,⟨_,rfl,(fc (fun h=>h) (by intro j hj;rw [show lf Val.c (x.vals.map ofV) i j = Val.c (ofV (x.vals.getD i default)) j from by unfold lf;rw [a10 _ _ _ (by omega)]];revert j;exact lt3 (CoP.refl _) (CoP.refl _) (CoP.refl _)))⟩,u9,u9,trivial⟩⟩
 have h0:=aa r0
 try simp only [ty] at h0
 obtain rfl:i = (x.vals.map ofV).length:=by simp;omega
 refine w_7 ?_;refine ⟨.inr rfl, ?_⟩
 exact ⟨_,_,rfl,(by (repeat' apply And.intro) <;> first | trivial | exact Nat.le_of_ble_eq_true rfl),CoR.refl _,⟨u9,trivial⟩⟩
theorem agf {s n m:Nat} {e:TypeId} {cl:Bool} {f:Nat → Nat → PV} {c:Nat → Nat → PV} (h:n = m) (hf:∀ i j,i < n → j < s → CoP (f i j) (c i j)):CoO (.arr true s e n f) (.arr true s e m c):=by subst h;exact ⟨fun h=>h,rfl,rfl,rfl,hf⟩
theorem ah5 {n:Nat} {f:Nat → Nat → PV} (hn:n ≤ 8):∀ i j,i < 0 + n → j < 1 → CoP (eo 0 f (fun i j=>[PV.raw (.string ⟨#[97]⟩), .raw (.string ⟨#[98]⟩), .raw (.string ⟨#[99]⟩), .raw (.string ⟨#[100]⟩), .raw (.string ⟨#[101]⟩), .raw (.string ⟨#[102]⟩), .raw (.string ⟨#[103]⟩), .raw (.string ⟨#[104]⟩)].getD (i * 1 + j) .any) i j) (lf lm (ij.take n) i j):=fun i j hi hj=>CoP.of_eq (by
 obtain rfl:j = 0:=by omega
 have hi8:i < n:=by omega
 simp only [eo,Nat.not_lt_zero,if_false,Nat.sub_zero,Nat.mul_one,Nat.add_zero,lf,List.getD,List.getElem?_take,hi8,if_true]
 have:i < 8:=by omega
 match i,this with
 | 0,_=>rfl
 | 1,_=>rfl
 | 2,_=>rfl
 | 3,_=>rfl
 | 4,_=>rfl
 | 5,_=>rfl
 | 6,_=>rfl
 | 7,_=>rfl)
theorem ab3 {n:Nat} (hn:n ≤ 8):0 + n = (ij.take n).length:=by simp [ij];omega
theorem ahg {x:Rcp} {n i:Nat} (h:i < x.rows.length):kms (dg x n) i = n:=by
 unfold kms dg
 rw [n7 _ _ _ h]
 exact a15
theorem ah3 {x:Rcp} {n i:Nat} (h:i < x.rows.length):kgs (dg x n) i = lf Val.c (ge (x.rows.getD i default) n):=by
 unfold kgs dg
 rw [n7 _ _ _ h]
theorem air (x:Rcp) (n:Nat) (hn:n ≤ 8) (hx:x.rows.length ≤ 68719476736):br Tryz.prog 36 [x.pc.toH,(pI n).toH] [] (.v (tj (a8r x n) 2 906)) (pr (a8r x n) 2 906) []:=by
 refine c8 (nt:=67) a8 Tryz.func36 rfl rfl l9 rfl ?_;refine sx7 ?_;refine m9 0 ?_;refine m9 1 ?_;refine w_3 ?_;refine m9 2 ?_;refine m9 3 ?_;refine qy ?_;refine afm rfl rfl rfl rfl rfl ?_
 refine ra 4 true rfl rfl rfl rfl rfl rfl ?_;refine qy ?_;refine m9 5 ?_;refine w_8 ?_
 refine ct 5 2 906 true 2 45 (rwP (dg x n) fun _=>default) (by decide) rfl rfl (CoP.sl rfl (.inr rfl) (fun h=>h) (fun i j hi _=>absurd hi (Nat.not_lt_zero i))) (.inr rfl) rfl rfl ?_
 refine jc (te 908 (ck ?_))
 refine az (ι:=(Nat × (Nat → Value))) ⟨[(1,some _),(2,some _),(4,some _),(5,some _)],[(0,some _),(1,some _)]⟩ ⟨⟨c9,c9,c9,c9,trivial⟩,⟨u9,u9,trivial⟩⟩ (fun z=>⟨[(6,some (vI z.1))],[(5,some (.box [.p (.raw (.string ⟨#[114]⟩)), .ref 2 (ij.take n).length, .ref 906 z.1])),(2,some (.arr true 1 9 (ij.take n).length (lf lm (ij.take n)))),(906,some (.arr true 2 45 z.1 (rwP (dg x n) z.2))),(908,some (.opq 0 0 0 (en (l6 (kms (dg x n)) (kgs (dg x n)) z.2 (List.range z.1)))))]⟩) (fun z=>z.1 ≤ x.rows.length) (fun z=>x.rows.length - z.1) ((0,fun _=>default)) (Nat.zero_le _) ⟨⟨zy,trivial⟩,⟨⟨_,rfl,⟨CoH.refl _,congrArg (HV.ref 2) (ab3 hn),CoH.refl _,trivial⟩⟩,⟨_,rfl,(agf (cl:=true) (ab3 hn) (ah5 hn))⟩,u9,u9,trivial⟩⟩ ?_
 rintro ⟨i,hd⟩ hi
 dsimp only at hi ⊢
 refine w_9 ?_;refine a7 _ rfl (fun r0=>?_) (fun r0=>?_)
 ·
  have h0:=ae r0
  try simp only [ty] at h0
  refine w_4 ?_
  have hgl:=abt (g:=x.gap) (i:=i)
  refine dz ?_;refine m9 6 ?_;refine w_8 ?_
  refine ct 6 1 907 true 3 47 (lf Val.c (ge (x.rows.getD i default) n)) (by decide) rfl rfl (CoP.sl rfl (.inr rfl) (fun h=>h) (fun i j hi _=>absurd hi (Nat.not_lt_zero i))) (.inr rfl) rfl rfl ?_
  refine az (ι:=Nat) ⟨[(1,some _),(2,some _),(4,some _),(5,some _),(6,some _),(7,some _)],[(5,some _),(2,some _),(906,some _),(908,some _),(0,some _),(1,some _)]⟩ ⟨⟨c9,c9,c9,c9,c9,c9,trivial⟩,⟨u9,u9,u9,u9,u9,u9,trivial⟩⟩ (fun k=>⟨[(8,some (vI k))],[(6,some (.box [.p (.raw (.int .i64 (1 + (i:Int) * (1 + (x.gap.toNat:Int) % 3)))), .ref 907 k])),(907,some (.arr true 3 47 k (lf Val.c (ge (x.rows.getD i default) n))))]⟩) (fun k=>k ≤ n) (fun k=>n - k) (0) (Nat.zero_le _) ⟨⟨zy,trivial⟩,⟨u9,u9,trivial⟩⟩ ?_
  rintro k hk
  refine w_7 ?_;refine a7 _ rfl (fun r1=>?_) (fun r1=>?_)
  ·
   have h1:=ae r1
   try simp only [ty] at h1
   refine w_9 ?_;refine wv 0 2 rfl rfl (fun hb=>?_);refine dz ?_;refine a7 _ rfl (fun r2=>?_) (fun r2=>?_)
   ·
    have h2:=ae r2
    try simp only [ty] at h2
    refine qc ?_;refine ap (E:=au) a8 ag [0,1,2,3,4,5,6,7] ?_;refine w_3 ?_;refine rc rfl rfl rfl rfl rfl rfl nk (c49 _ (by omega)) (CoL.refl _) rfl rfl ?_;refine m9 7 ?_
    refine ra 8 true rfl rfl rfl rfl rfl rfl ?_;refine w_3 ?_;refine ⟨by kernel_rfl, ?_⟩;refine w_5 ?_;refine ⟨k + 1, ?_, ?_, ?_⟩
    · show k + 1 ≤ _
      omega
    · first | omega | (dsimp only;omega)
    exact ⟨⟨zy,c9,c9,c9,c9,c9,c9,trivial⟩,⟨u9,⟨_,rfl,(fc (fun h=>h) (by first | (intro j hj;rw [pl (by omega)];revert j;exact lt3 (CoP.refl _) (CoP.refl _) (CoP.refl _)) | (intro j hj;rw [pl (by omega),vf (by omega)];revert j;exact lt3 (CoP.refl _) (CoP.refl _) (CoP.refl _))))⟩,u9,u9,u9,u9,u9,u9,trivial⟩⟩
   have h2:=aa r2
   try simp only [ty] at h2
   refine ew ?_;refine ap (E:=au) a8 ag [0,1,2,3,4,5,6,7] ?_;refine w_3 ?_;refine rc rfl rfl rfl rfl rfl rfl nk (c49 _ (by omega)) (CoL.refl _) rfl rfl ?_;refine m9 9 ?_
   refine ra 10 true rfl rfl rfl rfl rfl rfl ?_;refine w_3 ?_;refine ⟨by kernel_rfl, ?_⟩;refine w_5 ?_;refine ⟨k + 1, ?_, ?_, ?_⟩
   · show k + 1 ≤ _
     omega
   · first | omega | (dsimp only;omega)
   exact ⟨⟨zy,c9,c9,c9,c9,c9,c9,trivial⟩,⟨u9,⟨_,rfl,(fc (fun h=>h) (by first | (intro j hj;rw [pl (by omega)];revert j;exact lt3 (CoP.refl _) (CoP.refl _) (CoP.refl _)) | (intro j hj;rw [pl (by omega),vf (by omega)];revert j;exact lt3 (CoP.refl _) (CoP.refl _) (CoP.refl _))))⟩,u9,u9,u9,u9,u9,u9,trivial⟩⟩
  have h1:=aa r1
  try simp only [ty] at h1
  obtain rfl:n = k:=by omega
  refine cw ?_;refine lw 906 (.arrh 2 45 i [] fun q j=>.p (rwP (dg x n) hd q j)) rfl ⟨.inl rfl,rfl,rfl,rfl,fun _ _ _ _=>CoH.refl _⟩ ?_;refine w_4 ?_;refine m9 11 ?_
  refine ra 12 true rfl rfl rfl rfl rfl rfl ?_;refine w_3 ?_
  refine jc (ic 907 rfl (fun _ _ _ _=>kq) (pq 907 rfl fun v _=>v8 906 (rwP (dg x n) (dh hd i v)) rfl (a7c rfl (by show HV.p _ = HV.p (lf Row.c (dg x n) i 0);rw [aad (by omega)];rfl) rfl) (mq 907 908 rfl rfl (ck ?_))))
  refine w_5 ?_;refine ⟨(i + 1,dh hd i v), ?_, ?_, ?_⟩
  · show i + 1 ≤ _;omega
  · first | omega | (dsimp only;omega)
  exact ⟨⟨zy,c9,c9,c9,c9,trivial⟩,⟨u9,u9,u9,⟨_,rfl,(by rw [a3o,ahg (by omega),ah3 (by omega)];exact CoO.refl _)⟩,u9,u9,trivial⟩⟩
 have h0:=aa r0
 try simp only [ty] at h0
 obtain rfl:i = (dg x n).length:=by rw [a1i];omega
 refine w_2 ?_;refine jc (ic 906 rfl (fun _ _ _ _=>vz) (vr 906 908 (yu (dg x n)) rfl rfl ⟨hd,fun _ _ _ _=>rfl,rfl⟩ (fun _ _ _ _=>vz) (ck ?_)));refine w_5 ?_;refine ⟨.inr rfl, ?_⟩
 exact ⟨_,_,rfl,(by (repeat' apply And.intro) <;> first | trivial | exact Nat.le_of_ble_eq_true rfl),CoR.refl _,⟨u9,u9,trivial⟩⟩
theorem aia (x:Opn) (hx:x.t.rows.length ≤ 68719476736):br Tryz.prog 30 [x.pc.toH] [] (.v (tj (ep x) 905 906)) (pr (ep x) 905 906) []:=by
 refine c8 (nt:=16) a8 Tryz.func30 rfl rfl l9 rfl ?_;refine sx7 ?_;refine m9 0 ?_;refine m9 1 ?_;refine dz ?_
 refine al rfl rfl rfl rfl rfl rfl a5m ((air x.t (x.t.attrs.toNat % 4) (by omega) hx).swap 2 905) (⟨j3.refl _,CoP.of_eq (congrArg (fun z=>PV.raw (.int .i64 z)) (show ((x.t.attrs.toNat:Int) % 4) = ((x.t.attrs.toNat % 4:Nat):Int) by omega)),trivial⟩) trivial rfl rfl ?_
 refine m9 2 ?_;refine w_5 ?_;refine qcx oz (c35 _) ?_;refine w_9 ?_;refine ⟨.inr rfl, ?_⟩
 exact ⟨_,_,rfl,(by (repeat' apply And.intro) <;> first | trivial | exact Nat.le_of_ble_eq_true rfl),CoR.refl _,⟨u9,u9,trivial⟩⟩
theorem ahl (x:Str) (t:Tbl) (hx:SOk x) (ht:t.ok) (hck:(k6 t).ok):br Tryz.prog 31 [.one (.ptr 1000 0),tj t 1010 1011] (x.objs ++ pr t 1010 1011) (.v (.one (.p (.raw (.int .i64 (ah x.db (k6 t))))))) ((pfS x (k6 t)).objs ++ pr t 1010 1011) [1000,1010,1011]:=by
 refine c8 (nt:=12) a8 Tryz.func31 rfl rfl l9 rfl ?_;refine sx7 ?_;refine m9 0 ?_;refine w_3 ?_;refine ap (E:=au) a8 ag [0,1,2,3,4,5,6,7] ?_;refine w_4 ?_
 refine al rfl rfl rfl rfl rfl rfl rt (ahm t ht) (bg.refl _) ⟨u9,u9,trivial⟩ rfl rfl ?_;refine qy ?_
 refine al rfl rfl rfl rfl rfl rfl ny (vw x (k6 t) hx.db hck hx.dn hx.nw) (⟨j3.refl _,⟨CoH.refl _,CoH.refl _,CoH.refl _,CoH.refl _,CoH.refl _,CoH.refl _,ar,CoH.refl _,CoH.refl _,CoH.refl _,CoH.refl _,trivial⟩,trivial⟩) ⟨u9,u9,u9,u9,trivial⟩ rfl rfl ?_
 refine w_2 ?_;refine ⟨by kernel_rfl, ?_⟩;refine ej ?_;refine ⟨.inr rfl, ?_⟩
 exact ⟨_,_,rfl,(by (repeat' apply And.intro) <;> first | trivial | exact Nat.le_of_ble_eq_true rfl),CoR.refl _,⟨u9,u9,u9,u9,u9,u9,trivial⟩⟩
theorem ajc (x:Str) (s:ByteArray) (r:Row) (hx:SOk x) (hr:r.vals.length ≤ 68719476736) (hck:(fl 2 s r).ok):br Tryz.prog 34 [.one (.ptr 1000 0), .one (.p (.raw (.string s))),ws r 1010] (x.objs ++ rp r 1010) (.v (.one (.p (.raw (.int .i64 (ah x.db (fl 2 s r))))))) ((pfS x (fl 2 s r)).objs ++ rp r 1010) [1000,1010]:=by
 refine c8 (nt:=13) a8 Tryz.func34 rfl rfl l9 rfl ?_;refine sx7 ?_;refine m9 0 ?_;refine w_7 ?_;refine al rfl rfl rfl rfl rfl rfl p8 (aie r hr) (bg.refl _) ⟨u9,trivial⟩ rfl rfl ?_;refine qy ?_
 refine al rfl rfl rfl rfl rfl rfl ny (vw x (fl 2 s r) hx.db hck hx.dn hx.nw) (⟨j3.refl _,⟨CoH.refl _,CoH.refl _,CoH.refl _,ar,ar,CoH.refl _,CoH.refl _,CoH.refl _,CoH.refl _,CoH.refl _,CoH.refl _,trivial⟩,trivial⟩) ⟨u9,u9,u9,u9,trivial⟩ rfl rfl ?_
 refine w_3 ?_;refine ⟨.inr rfl, ?_⟩
 exact ⟨_,_,rfl,(by (repeat' apply And.intro) <;> first | trivial | exact Nat.le_of_ble_eq_true rfl),CoR.refl _,⟨u9,u9,u9,u9,u9,trivial⟩⟩
end
section
open Go.Proofs
set_option maxHeartbeats 2000000
theorem age:am Tryz.prog 48:=wgx Tryz.func48
theorem aj4 (x:Str) (s:ByteArray) (id a:Int) (v:Val) (hx:SOk x) (hck:(j2 s (bfR x.db s id) a v).ok):br Tryz.prog 48 [.one (.ptr 1000 0), .one (.p (.raw (.string s))), .agg [.p (.raw (.int .i64 id)), .p (.raw (.int .i64 a))],v.pc.toH] x.objs (.v (.one (.p (.raw (.int .i64 (cgE x s id a v)))))) (cgS x s id a v).objs [1000]:=by
 refine c8 (nt:=55) a8 Tryz.func48 rfl rfl l9 rfl ?_;refine sx7 ?_;refine m9 0 ?_;refine m9 1 ?_;refine w_8 ?_
 refine al rfl rfl rfl rfl rfl rfl ab2 (ag8 x s id hx.db) (bg.refl _) ⟨u9,u9,u9,u9,trivial⟩ rfl rfl ?_;refine w_3 ?_;refine m9 2 ?_;refine w_9 ?_;refine a7 _ rfl (fun r0=>?_) (fun r0=>?_)
 ·
  have h0:=r0
  have h0:=aa (b7 h0)
  try simp only [ty] at h0
  refine w_6 ?_;refine ⟨.inr rfl, ?_⟩
  rw [show cgE x s id a v = bfE x.db s id from if_pos (by simp_all),show cgS x s id a v = x from if_pos (by simp_all)]
  exact ⟨_,_,rfl,(by (repeat' apply And.intro) <;> first | trivial | exact Nat.le_of_ble_eq_true rfl),CoR.refl _,⟨u9,u9,u9,u9,trivial⟩⟩
 have h0:=r0
 have h0:=ae (b8 h0)
 try simp only [ty] at h0
 have hb0:bfE x.db s id = 0:=by simp_all
 refine w_3 ?_;refine ap (E:=au) a8 ag [0,1,2,3,4,5,6,7,8,9,10,11,12,13,14,15,16,17,18,19,20,21,22,23,24] ?_;refine w_4 ?_;refine bo rfl rfl (fun r1=>?_) (fun r1=>?_)
 ·
  have h1:=ae r1
  try simp only [ty] at h1
  (iterate 6 refine qy ?_ (hg:=(gtt r1)));refine w_2 ?_;refine bo rfl rfl (fun r2=>?_) (fun r2=>?_)
  ·
   have h2:=r2
   have h2:=dm r1 h2
   have h2:=ae h2
   try simp only [ty] at h2
   refine qy ?_ (hg:=(gtt r2));refine qcx a5k (c76 _) ?_ (hg:=(gtt r2));refine w_2 ?_;refine bo rfl rfl (fun r3=>?_) (fun r3=>?_)
   ·
    have h3:=r3
    have h3:=dm r2 h3
    (iterate 8 refine qy ?_ (hg:=(gtt r3)));refine w_2 ?_;refine ⟨by kernel_rfl, ?_⟩;refine a7 _ rfl (fun r4=>?_) (fun r4=>?_)
    ·
     have h4:=r4
     have h4:=dm r3 h4
     refine w_5 ?_;refine ⟨.inr rfl, ?_⟩
     have hsm:ja (bfR x.db s id) a v = true:=by simp_all [ja,Val.eq_iff]
     rw [show cgE x s id a v = 0 by rw [cgE,if_neg (by simp [hb0]),if_pos hsm],show cgS x s id a v = x by rw [cgS,if_neg (by simp [hb0]),if_pos hsm]]
     exact ⟨_,_,rfl,(by (repeat' apply And.intro) <;> first | trivial | exact Nat.le_of_ble_eq_true rfl),CoR.refl _,⟨u9,u9,u9,u9,trivial⟩⟩
    have h4:=r4
    have h4:=dm r3 h4
    refine dz ?_
    refine al rfl rfl rfl rfl rfl rfl ny (vw x (j2 s (bfR x.db s id) a v) hx.db hck hx.dn hx.nw) (⟨j3.refl _,⟨CoH.refl _,CoH.refl _,CoH.refl _,ar,ar,CoH.refl _,CoH.refl _,CoH.refl _,CoH.refl _,CoH.refl _,CoH.refl _,trivial⟩,trivial⟩) ⟨u9,u9,u9,u9,trivial⟩ rfl rfl ?_
    refine w_3 ?_;refine ⟨.inr rfl, ?_⟩
    have hsm:¬ ja (bfR x.db s id) a v = true:=by simp_all [ja,Val.eq_iff] <;> (intros;omega)
    rw [show cgE x s id a v = ah x.db (j2 s (bfR x.db s id) a v) by rw [cgE,if_neg (by simp [hb0]),if_neg hsm],show cgS x s id a v = pfS x (j2 s (bfR x.db s id) a v) by rw [cgS,if_neg (by simp [hb0]),if_neg hsm]]
    exact ⟨_,_,rfl,(by (repeat' apply And.intro) <;> first | trivial | exact Nat.le_of_ble_eq_true rfl),CoR.refl _,⟨u9,u9,u9,u9,trivial⟩⟩
   have h3:=r3
   have h3:=dm r2 h3
   (iterate 8 refine k9 (gft r3) ?_);refine rq rfl rfl rfl rfl rfl ?_ (hp:=r3);refine ca ?_;refine ⟨by kernel_rfl, ?_⟩;refine a7 _ rfl (fun e=>by cases e) (fun _=>?_);refine dz ?_
   refine al rfl rfl rfl rfl rfl rfl ny (vw x (j2 s (bfR x.db s id) a v) hx.db hck hx.dn hx.nw) (⟨j3.refl _,⟨CoH.refl _,CoH.refl _,CoH.refl _,ar,ar,CoH.refl _,CoH.refl _,CoH.refl _,CoH.refl _,CoH.refl _,CoH.refl _,trivial⟩,trivial⟩) ⟨u9,u9,u9,u9,trivial⟩ rfl rfl ?_
   refine w_3 ?_;refine ⟨.inr rfl, ?_⟩
   have hsm:¬ ja (bfR x.db s id) a v = true:=by simp_all [ja,Val.eq_iff] <;> (intros;omega)
   rw [show cgE x s id a v = ah x.db (j2 s (bfR x.db s id) a v) by rw [cgE,if_neg (by simp [hb0]),if_neg hsm],show cgS x s id a v = pfS x (j2 s (bfR x.db s id) a v) by rw [cgS,if_neg (by simp [hb0]),if_neg hsm]]
   exact ⟨_,_,rfl,(by (repeat' apply And.intro) <;> first | trivial | exact Nat.le_of_ble_eq_true rfl),CoR.refl _,⟨u9,u9,u9,u9,trivial⟩⟩
  have h2:=r2
  have h2:=dm r1 h2
  have h2:=aa h2
  try simp only [ty] at h2
  (iterate 2 refine k9 (gft r2) ?_);refine rq rfl rfl rfl rfl rfl ?_ (hp:=r2);refine qy ?_;(iterate 8 refine k9 rfl ?_);refine w_2 ?_;refine ⟨by kernel_rfl, ?_⟩;refine a7 _ rfl (fun e=>by cases e) (fun _=>?_)
  refine dz ?_
  refine al rfl rfl rfl rfl rfl rfl ny (vw x (j2 s (bfR x.db s id) a v) hx.db hck hx.dn hx.nw) (⟨j3.refl _,⟨CoH.refl _,CoH.refl _,CoH.refl _,ar,ar,CoH.refl _,CoH.refl _,CoH.refl _,CoH.refl _,CoH.refl _,CoH.refl _,trivial⟩,trivial⟩) ⟨u9,u9,u9,u9,trivial⟩ rfl rfl ?_
  refine w_3 ?_;refine ⟨.inr rfl, ?_⟩
  have hsm:¬ ja (bfR x.db s id) a v = true:=by simp_all [ja,Val.eq_iff] <;> (intros;omega)
  rw [show cgE x s id a v = ah x.db (j2 s (bfR x.db s id) a v) by rw [cgE,if_neg (by simp [hb0]),if_neg hsm],show cgS x s id a v = pfS x (j2 s (bfR x.db s id) a v) by rw [cgS,if_neg (by simp [hb0]),if_neg hsm]]
  exact ⟨_,_,rfl,(by (repeat' apply And.intro) <;> first | trivial | exact Nat.le_of_ble_eq_true rfl),CoR.refl _,⟨u9,u9,u9,u9,trivial⟩⟩
 have h1:=aa r1
 try simp only [ty] at h1
 (iterate 6 refine k9 (gft r1) ?_);refine rq rfl rfl rfl rfl rfl ?_ (hp:=r1);refine qy ?_;(iterate 2 refine k9 rfl ?_);refine w_2 ?_;(iterate 8 refine k9 rfl ?_);refine w_2 ?_;refine ⟨by kernel_rfl, ?_⟩
 refine a7 _ rfl (fun e=>by cases e) (fun _=>?_);refine dz ?_
 refine al rfl rfl rfl rfl rfl rfl ny (vw x (j2 s (bfR x.db s id) a v) hx.db hck hx.dn hx.nw) (⟨j3.refl _,⟨CoH.refl _,CoH.refl _,CoH.refl _,ar,ar,CoH.refl _,CoH.refl _,CoH.refl _,CoH.refl _,CoH.refl _,CoH.refl _,trivial⟩,trivial⟩) ⟨u9,u9,u9,u9,trivial⟩ rfl rfl ?_
 refine w_3 ?_;refine ⟨.inr rfl, ?_⟩
 have hsm:¬ ja (bfR x.db s id) a v = true:=by simp_all [ja,Val.eq_iff] <;> (intros;omega)
 rw [show cgE x s id a v = ah x.db (j2 s (bfR x.db s id) a v) by rw [cgE,if_neg (by simp [hb0]),if_neg hsm],show cgS x s id a v = pfS x (j2 s (bfR x.db s id) a v) by rw [cgS,if_neg (by simp [hb0]),if_neg hsm]]
 exact ⟨_,_,rfl,(by (repeat' apply And.intro) <;> first | trivial | exact Nat.le_of_ble_eq_true rfl),CoR.refl _,⟨u9,u9,u9,u9,trivial⟩⟩
end
section
open Go.Proofs
theorem acd {α:Type} [Inhabited α] {c:α → Nat → PV} {l l':List α} {i j:Nat} (h:i < l.length):lf c (l ++ l') i j = lf c l i j:=by
 simp only [lf,List.getD,List.getElem?_append_left h]
theorem acg {α:Type} [Inhabited α] {c:α → Nat → PV} {l l':List α} {k j:Nat}:lf c (l ++ l') (l.length + k) j = lf c l' k j:=by
 simp only [lf,List.getD]
 rw [List.getElem?_append_right (by omega),Nat.add_sub_cancel_left]
theorem a4l:am Tryz.prog 23:=wgx Tryz.func23
theorem afj (x:Str) (hf:x.done.flatten.length ≤ 68719476736) (hok:∀ i k,i < x.done.length → k < (x.done.getD i default).length → ((x.done.getD i default).getD k default).ok):br Tryz.prog 23 [.one (.ptr 1000 0)] x.objs (.v (.one (.ref 911 x.done.flatten.length))) (x.objs ++ [(911, .arr true 11 49 x.done.flatten.length (lf Chg.c x.done.flatten))]) [1000]:=by
 refine c8 (nt:=38) a8 Tryz.func23 rfl rfl l9 rfl ?_;refine dz ?_;refine adq 901 rfl (fun hn=>?_);refine w_9 ?_
 refine o9 3 911 true 11 49 (lf Chg.c []) (by decide) rfl (CoP.sl rfl (.inr rfl) (fun h=>h) (fun i j hi _=>absurd hi (Nat.not_lt_zero i))) (.inr rfl) rfl ?_
 refine az (ι:=Nat) ⟨[(11,some _),(12,some _)],[(1000,some _),(901,some _),(902,some _),(903,some _)]⟩ ⟨⟨c9,c9,trivial⟩,⟨u9,u9,u9,u9,trivial⟩⟩ (fun i=>⟨[(3,some (.v (.one (.ref 911 (x.done.take i).flatten.length)))),(13,some (vI i))],[(911,some (.arr true 11 49 (x.done.take i).flatten.length (lf Chg.c (x.done.take i).flatten)))]⟩) (fun i=>i ≤ x.done.length) (fun i=>x.done.length - i) (0) (Nat.zero_le _) ⟨⟨zy,zy,trivial⟩,⟨u9,trivial⟩⟩ ?_
 rintro i hi
 refine w_5 ?_;refine a7 _ rfl (fun r0=>?_) (fun r0=>?_)
 ·
  have h0:=ae r0
  try simp only [ty] at h0
  have hfl:=ko x.done i (by omega)
  have hts:(x.done.take (i + 1)).flatten.length = (x.done.take i).flatten.length + (x.done.getD i default).length:=by rw [tsf _ _ (by omega),List.length_append]
  refine ago ?_
  refine az (ι:=Nat) ⟨[(11,some _),(12,some _),(13,some _),(17,some _),(18,some _)],[(1000,some _),(901,some _),(902,some _),(903,some _)]⟩ ⟨⟨c9,c9,c9,c9,c9,trivial⟩,⟨u9,u9,u9,u9,trivial⟩⟩ (fun k=>⟨[(3,some (.v (.one (.ref 911 ((x.done.take i).flatten.length + k))))),(19,some (vI k))],[(911,some (.arr true 11 49 ((x.done.take i).flatten.length + k) (lf Chg.c ((x.done.take i).flatten ++ (x.done.getD i default)))))]⟩) (fun k=>k ≤ (x.done.getD i default).length) (fun k=>(x.done.getD i default).length - k) (0) (Nat.zero_le _) ⟨⟨zy,zy,trivial⟩,⟨⟨_,rfl,⟨fun h=>h,rfl,rfl,rfl,fun a j ha hj=>CoP.of_eq (acd ha).symm⟩⟩,trivial⟩⟩ ?_
  rintro k hk
  refine w_5 ?_;refine a7 _ rfl (fun r1=>?_) (fun r1=>?_)
  ·
   have h1:=ae r1
   try simp only [ty] at h1
   refine w_7 ?_;refine m9 0 ?_;refine w_3 ?_;refine ap (E:=au) a8 ag [0,1,2,3,4,5,6,7,8,9] ?_;refine w_2 ?_
   refine rc rfl rfl rfl rfl rfl rfl rt (c51 _ (hok i k (by omega) (by omega)).1) (CoL.refl _) rfl rfl ?_;refine w_2 ?_
   refine rc rfl rfl rfl rfl rfl rfl p8 (c52 _ (hok i k (by omega) (by omega)).2.1.1) (CoL.refl _) rfl rfl ?_;refine w_5 ?_;refine ⟨by kernel_rfl, ?_⟩;refine w_3 ?_;refine m9 1 ?_
   refine ra 2 true rfl rfl rfl rfl rfl rfl ?_;refine w_6 ?_;refine ⟨k + 1, ?_, ?_, ?_⟩
   · show k + 1 ≤ _
     omega
   · first | omega | (dsimp only;omega)
   exact ⟨⟨zy,zy,c9,c9,c9,c9,c9,trivial⟩,⟨⟨_,rfl,(fc (fun h=>h) (fun j hj=>by rw [acg];revert j;exact a2o (CoP.refl _) (CoP.refl _) (CoP.refl _) (CoP.refl _) (CoP.refl _) (CoP.refl _) (CoP.refl _) (CoP.refl _) (CoP.refl _) (CoP.refl _) (CoP.refl _)))⟩,u9,u9,u9,u9,trivial⟩⟩
  have h1:=aa r1
  try simp only [ty] at h1
  obtain rfl:k = (x.done.getD i default).length:=by omega
  refine w_5 ?_;refine ⟨i + 1, ?_, ?_, ?_⟩
  · show i + 1 ≤ _
    omega
  · first | omega | (dsimp only;omega)
  exact ⟨⟨⟨_,rfl,(CoR.of_eq (by rw [hts]))⟩,zy,c9,c9,trivial⟩,⟨⟨_,rfl,(by rw [tsf _ _ (by omega)];exact ⟨fun h=>h,rfl,rfl,by simp,fun a j ha hj=>CoP.refl _⟩)⟩,u9,u9,u9,u9,trivial⟩⟩
 have h0:=aa r0
 try simp only [ty] at h0
 obtain rfl:i = x.done.length:=by omega
 refine w_7 ?_;refine ⟨.inr rfl, ?_⟩
 exact ⟨_,_,rfl,(by (repeat' apply And.intro) <;> first | trivial | exact Nat.le_of_ble_eq_true rfl),CoR.of_eq (by rw [List.take_length];rfl),⟨u9,u9,u9,u9,⟨_,rfl,CoO.of_eq (by rw [List.take_length])⟩,trivial⟩⟩
end
section
open Go.Proofs
def ktn (d:List Tbl):Nat → Nat:=fun q=>(d.getD q default).attrs.length
def ktg (d:List Tbl):Nat → Nat → Nat → PV:=fun q=>lf lm (d.getD q default).attrs
def ktr (d:List Tbl):Nat → Nat:=fun q=>(d.getD q default).rows.length
theorem a39 {l:List Row} (hl:∀ q,q < l.length → (l.getD q default).vals.length ≤ 68719476736):CoO (.opq 2 45 l.length (JK l)) (.opq 2 45 l.length (JU l.length)):=JP.mono fun f L=>yu.toU hl
theorem aif (x:Str) (hd:dbV x.db):br Tryz.prog 22 [.one (.ptr 1000 0)] x.objs (.v (.agg [.ref 915 x.db.length])) (x.objs ++ [(915, .opq 3 42 x.db.length (JP 3 42 x.db.length (adz x.db.length)))]) [1000]:=by
 refine c8 (nt:=25) a8 Tryz.func22 rfl rfl l9 rfl ?_
 have hdl:=hd.1
 refine sx7 ?_;refine m9 0 ?_;refine w_3 ?_;refine m9 1 ?_;refine sv ?_
 refine ct 1 0 915 true 3 42 (tbP x.db (fun _=>default) (fun _=>default)) (by decide) rfl rfl (CoP.sl rfl (.inr rfl) (fun h=>h) (fun i j hi _=>absurd hi (Nat.not_lt_zero i))) (.inr rfl) rfl rfl ?_
 refine jc (te 918 (ck ?_))
 refine az (ι:=(Nat × (Nat → Value) × (Nat → Value))) ⟨[(2,some _),(3,some _),(10,some _),(11,some _)],[(1000,some _),(901,some _),(902,some _),(903,some _),(0,some _)]⟩ ⟨⟨c9,c9,c9,c9,trivial⟩,⟨u9,u9,u9,u9,u9,trivial⟩⟩ (fun z=>⟨[(12,some (vI z.1))],[(1,some (.box [.ref 915 z.1])),(915,some (.arr true 3 42 z.1 (tbP x.db z.2.1 z.2.2))),(918,some (.opq 0 0 0 (en (tx (ktn x.db) (ktg x.db) (ktr x.db) z.2.1 z.2.2 (List.range z.1)))))]⟩) (fun z=>z.1 ≤ x.db.length) (fun z=>x.db.length - z.1) ((0,(fun _=>default),fun _=>default)) (Nat.zero_le _) ⟨⟨zy,trivial⟩,⟨u9,u9,u9,trivial⟩⟩ ?_
 rintro ⟨i,hA,hR⟩ hi
 dsimp only at hi ⊢
 refine w_5 ?_;refine a7 _ rfl (fun r0=>?_) (fun r0=>?_)
 ·
  have h0:=ae r0
  try simp only [ty] at h0
  refine w_7 ?_;refine m9 2 ?_;refine w_2 ?_
  have hok:=hd.ok.2 i (by omega)
  refine lw 915 (.arrh 3 42 i [] fun q j=>.p (tbP x.db hA hR q j)) rfl ⟨.inl rfl,rfl,rfl,rfl,fun _ _ _ _=>CoH.refl _⟩ ?_;refine ap (E:=au) a8 ag [0,1,2,3,4,5,6,7] ?_;refine w_3 ?_
  refine al rfl rfl rfl rfl rfl rfl rt (ade _ (hd.ok.2 i (by omega))) (bg.refl _) trivial rfl rfl ?_;refine m9 3 ?_;refine ra 4 true rfl rfl rfl rfl rfl rfl ?_;refine w_3 ?_;refine ⟨by kernel_rfl, ?_⟩
  refine jc (ip 906 (.opq 2 45 (x.db.getD i default).rows.length (JU (x.db.getD i default).rows.length)) rfl (a39 fun q hq=>(hok.2.2 q hq).1) (ic 905 rfl (fun _ _ _ _=>nc) (pq 905 rfl fun v _=>pq 906 rfl fun u _=>v8 915 (tbP x.db (dh hA i v) (dh hR i u)) rfl (aea rfl rfl rfl rfl rfl) (mq 905 918 rfl rfl (mq 906 918 rfl rfl (ck ?_))))))
  refine w_4 ?_;refine ⟨(i + 1,dh hA i v,dh hR i u), ?_, ?_, ?_⟩
  · show i + 1 ≤ _;omega
  · first | omega | (dsimp only;omega)
  exact ⟨⟨zy,c9,c9,c9,c9,trivial⟩,⟨u9,u9,⟨_,rfl,(by rw [aba];exact CoO.refl _)⟩,u9,u9,u9,u9,u9,trivial⟩⟩
 have h0:=aa r0
 try simp only [ty] at h0
 obtain rfl:i = x.db.length:=by omega
 refine w_2 ?_
 refine jc (ic 915 rfl (fun _ _ _ _=>a53) (vr 915 918 (adz x.db.length) rfl rfl ⟨ktn x.db,ktg x.db,ktr x.db,hA,hR,fun _ _=>⟨rfl,rfl⟩,rfl,fun q hq=>⟨(hd.ok.2 q hq).1,(hd.ok.2 q hq).2.1,fun _ _ _ _=>nc⟩⟩ (fun _ _ _ _=>a53) (ck ?_)))
 refine w_5 ?_;refine ⟨.inr rfl, ?_⟩
 exact ⟨_,_,rfl,(by (repeat' apply And.intro) <;> first | trivial | exact Nat.le_of_ble_eq_true rfl),CoR.refl _,⟨u9,u9,u9,u9,u9,trivial⟩⟩
theorem aeb {ls:List (List Chg)} {i k:Nat} (hi:i < ls.length) (hk:k < (ls.getD i default).length):ls.flatten.getD ((ls.take i).flatten.length + k) default = (ls.getD i default).getD k default:=by
 have e:ls.flatten = (ls.take i).flatten ++ (ls.getD i default ++ (ls.drop (i + 1)).flatten):=by
  rw [cg _ _ hi]
  conv=>lhs;rw [← List.take_append_drop i ls,List.drop_eq_getElem_cons hi]
  rw [List.flatten_append,List.flatten_cons]
 rw [e]
 unfold List.getD at hk ⊢
 rw [List.getElem?_append_right (by omega),Nat.add_sub_cancel_left,List.getElem?_append_left hk]
def kcn (d:List Chg):Nat → Nat:=fun q=>(d.getD q default).table.attrs.length
def kcg (d:List Chg):Nat → Nat → Nat → PV:=fun q=>lf lm (d.getD q default).table.attrs
def kcr (d:List Chg):Nat → Nat:=fun q=>(d.getD q default).table.rows.length
def kcv (d:List Chg):Nat → Nat:=fun q=>(d.getD q default).row.vals.length
def kch (d:List Chg):Nat → Nat → Nat → PV:=fun q=>lf Val.c (d.getD q default).row.vals
theorem aj7 (x:Str) (hf:x.done.flatten.length ≤ 68719476736) (hJ:j8 x.done.flatten):br Tryz.prog 23 [.one (.ptr 1000 0)] x.objs (.v (.one (.ref 911 x.done.flatten.length))) (x.objs ++ [(911, .opq 11 49 x.done.flatten.length (JP 11 49 x.done.flatten.length (ae1 x.done.flatten.length)))]) [1000]:=by
 refine c8 (nt:=38) a8 Tryz.func23 rfl rfl l9 rfl ?_;refine dz ?_;refine adq 901 rfl (fun hn=>?_);refine w_9 ?_
 refine o9 3 911 true 11 49 (chP x.done.flatten (fun _=>default) (fun _=>default) (fun _=>default)) (by decide) rfl (CoP.sl rfl (.inr rfl) (fun h=>h) (fun i j hi _=>absurd hi (Nat.not_lt_zero i))) (.inr rfl) rfl ?_
 refine jc (te 918 (ck ?_))
 refine az (ι:=(Nat × (Nat → Value) × (Nat → Value) × (Nat → Value))) ⟨[(11,some _),(12,some _)],[(1000,some _),(901,some _),(902,some _),(903,some _)]⟩ ⟨⟨c9,c9,trivial⟩,⟨u9,u9,u9,u9,trivial⟩⟩ (fun z=>⟨[(3,some (.v (.one (.ref 911 (x.done.take z.1).flatten.length)))),(13,some (vI z.1))],[(911,some (.arr true 11 49 ((x.done.take z.1).flatten.length) (chP x.done.flatten z.2.1 z.2.2.1 z.2.2.2))),(918,some (.opq 0 0 0 (en (ru (kcn x.done.flatten) (kcg x.done.flatten) (kcr x.done.flatten) (kcv x.done.flatten) (kch x.done.flatten) z.2.1 z.2.2.1 z.2.2.2 (List.range ((x.done.take z.1).flatten.length))))))]⟩) (fun z=>z.1 ≤ x.done.length) (fun z=>x.done.length - z.1) ((0,(fun _=>default),(fun _=>default),(fun _=>default))) (Nat.zero_le _) ⟨⟨zy,zy,trivial⟩,⟨u9,u9,trivial⟩⟩ ?_
 rintro ⟨i,hA,hR,hV⟩ hi
 dsimp only at hi ⊢
 refine w_5 ?_;refine a7 _ rfl (fun r0=>?_) (fun r0=>?_)
 ·
  have h0:=ae r0
  try simp only [ty] at h0
  have hfl:=ko x.done i (by omega)
  have hts:(x.done.take (i + 1)).flatten.length = (x.done.take i).flatten.length + (x.done.getD i default).length:=by rw [tsf _ _ (by omega),List.length_append]
  refine ago ?_
  refine az (ι:=(Nat × (Nat → Value) × (Nat → Value) × (Nat → Value))) ⟨[(11,some _),(12,some _),(13,some _),(17,some _),(18,some _)],[(1000,some _),(901,some _),(902,some _),(903,some _)]⟩ ⟨⟨c9,c9,c9,c9,c9,trivial⟩,⟨u9,u9,u9,u9,trivial⟩⟩ (fun z=>⟨[(3,some (.v (.one (.ref 911 ((x.done.take i).flatten.length + z.1))))),(19,some (vI z.1))],[(911,some (.arr true 11 49 ((x.done.take i).flatten.length + z.1) (chP x.done.flatten z.2.1 z.2.2.1 z.2.2.2))),(918,some (.opq 0 0 0 (en (ru (kcn x.done.flatten) (kcg x.done.flatten) (kcr x.done.flatten) (kcv x.done.flatten) (kch x.done.flatten) z.2.1 z.2.2.1 z.2.2.2 (List.range ((x.done.take i).flatten.length + z.1))))))]⟩) (fun z=>z.1 ≤ (x.done.getD i default).length) (fun z=>(x.done.getD i default).length - z.1) ((0,hA,hR,hV)) (Nat.zero_le _) ⟨⟨zy,zy,trivial⟩,⟨u9,u9,trivial⟩⟩ ?_
  rintro ⟨k,hB,hS,hW⟩ hk
  dsimp only at hk ⊢
  refine w_5 ?_;refine a7 _ rfl (fun r1=>?_) (fun r1=>?_)
  ·
   have h1:=ae r1
   try simp only [ty] at h1
   have hJk:=aeb (ls:=x.done) (i:=i) (k:=k) (by omega) (by omega)
   have hck:((x.done.getD i default).getD k default).ok:=by rw [← hJk];exact hJ _ (by omega)
   refine w_7 ?_;refine m9 0 ?_;refine w_3 ?_;refine ap (E:=au) a8 ag [0,1,2,3,4,5,6,7,8,9] ?_;refine w_2 ?_
   refine al rfl rfl rfl rfl rfl rfl rt (ade _ hck.1) (bg.refl _) trivial rfl rfl ?_;refine w_2 ?_;refine al rfl rfl rfl rfl rfl rfl p8 ((acv _ hck.2.1.1).swap 905 907) (bg.refl _) trivial rfl rfl ?_
   refine w_5 ?_;refine ⟨by kernel_rfl, ?_⟩;refine lw 911 (.arrh 11 49 ((x.done.take i).flatten.length + k) [] fun q j=>.p (chP x.done.flatten hB hS hW q j)) rfl ⟨.inl rfl,rfl,rfl,rfl,fun _ _ _ _=>CoH.refl _⟩ ?_
   refine w_3 ?_;refine m9 1 ?_;refine ra 2 true rfl rfl rfl rfl rfl rfl ?_;refine w_2 ?_
   refine jc (ip 906 (.opq 2 45 ((x.done.getD i default).getD k default).table.rows.length (JU ((x.done.getD i default).getD k default).table.rows.length)) rfl (a39 fun q hq=>(hck.1.2.2 q hq).1) (ic 905 rfl (fun _ _ _ _=>nc) (ic 907 rfl (fun _ _ _ _=>kq) (pq 905 rfl fun v _=>pq 906 rfl fun u _=>pq 907 rfl fun y _=>v8 911 (chP x.done.flatten (dh hB ((x.done.take i).flatten.length + k) v) (dh hS ((x.done.take i).flatten.length + k) u) (dh hW ((x.done.take i).flatten.length + k) y)) rfl (ael rfl rfl rfl (by intro j hj a b c;rw [hJk];match j,hj,a,b,c with | 0,_,_,_,_=>rfl | 1,_,_,_,_=>rfl | 2,_,_,_,_=>rfl | 3,_,h,_,_=>exact absurd rfl h | 4,_,_,h,_=>exact absurd rfl h | 5,_,_,_,_=>rfl | 6,_,_,_,h=>exact absurd rfl h | 7,_,_,_,_=>rfl | 8,_,_,_,_=>rfl | 9,_,_,_,_=>rfl | 10,_,_,_,_=>rfl | _ + 11,h,_,_,_=>omega) rfl rfl rfl) (mq 905 918 rfl rfl (mq 906 918 rfl rfl (mq 907 918 rfl rfl (ck ?_))))))))
   refine w_4 ?_;refine ⟨(k + 1,dh hB ((x.done.take i).flatten.length + k) v,dh hS ((x.done.take i).flatten.length + k) u,dh hW ((x.done.take i).flatten.length + k) y), ?_, ?_, ?_⟩
   · show k + 1 ≤ _
     omega
   · first | omega | (dsimp only;omega)
   exact ⟨⟨zy,zy,c9,c9,c9,c9,c9,trivial⟩,⟨u9,⟨_,rfl,(by rw [← Nat.add_assoc,abe];rw [show kcn x.done.flatten ((x.done.take i).flatten.length + k) = ((x.done.getD i default).getD k default).table.attrs.length from by unfold kcn;rw [hJk],show kcg x.done.flatten ((x.done.take i).flatten.length + k) = lf lm ((x.done.getD i default).getD k default).table.attrs from by unfold kcg;rw [hJk],show kcr x.done.flatten ((x.done.take i).flatten.length + k) = ((x.done.getD i default).getD k default).table.rows.length from by unfold kcr;rw [hJk],show kcv x.done.flatten ((x.done.take i).flatten.length + k) = ((x.done.getD i default).getD k default).row.vals.length from by unfold kcv;rw [hJk],show kch x.done.flatten ((x.done.take i).flatten.length + k) = lf Val.c ((x.done.getD i default).getD k default).row.vals from by unfold kch;rw [hJk]];exact CoO.refl _)⟩,u9,u9,u9,u9,trivial⟩⟩
  have h1:=aa r1
  try simp only [ty] at h1
  obtain rfl:k = (x.done.getD i default).length:=by omega
  refine w_5 ?_;refine ⟨(i + 1,hB,hS,hW), ?_, ?_, ?_⟩
  · show i + 1 ≤ _
    omega
  · first | omega | (dsimp only;omega)
  exact ⟨⟨⟨_,rfl,(CoR.of_eq (by rw [hts]))⟩,zy,c9,c9,trivial⟩,⟨⟨_,rfl,(by rw [hts];exact CoO.refl _)⟩,⟨_,rfl,(by rw [hts];exact CoO.refl _)⟩,u9,u9,u9,u9,trivial⟩⟩
 have h0:=aa r0
 try simp only [ty] at h0
 obtain rfl:i = x.done.length:=by omega
 have ht0:(x.done.take x.done.length).flatten = x.done.flatten:=by rw [List.take_length]
 refine w_2 ?_
 refine jc (ic 911 rfl (fun _ _ _ _=>a5d) (vr 911 918 (ae1 (x.done.take x.done.length).flatten.length) rfl rfl ⟨kcn x.done.flatten,kcg x.done.flatten,kcr x.done.flatten,kcv x.done.flatten,kch x.done.flatten,hA,hR,hV,fun _ _=>⟨rfl,rfl,rfl⟩,rfl,fun q hq=>by rw [ht0] at hq;exact ⟨(hJ q hq).1.1,(hJ q hq).1.2.1,(hJ q hq).2.1.1,fun _ _ _ _=>nc,fun _ _ _ _=>kq⟩⟩ (fun _ _ _ _=>a5d) (ck ?_)))
 refine w_5 ?_;refine ⟨.inr rfl, ?_⟩
 exact ⟨_,_,rfl,(by (repeat' apply And.intro) <;> first | trivial | exact Nat.le_of_ble_eq_true rfl),CoR.of_eq (by rw [List.take_length];rfl),⟨u9,u9,u9,u9,⟨_,rfl,CoO.of_eq (by rw [List.take_length])⟩,trivial⟩⟩
end
section
open Go.RowKit Go.ChangeShapes Go.WideShapes Go.ChangeAt
def Rd (P:Program) (t:TypeId) (n:Nat) {α:Type} (c:α → Nat → PV):Prop :=
 ∀ (H:Type) (enc:TypeId × Value → H) (w:World) (sp:Nat → Bool) (held:Bool) (fuel:Nat) (cs:List Value) (x:DataW H × List MemPlace),DataW.trod enc P w 0 sp held fuel t cs = some x →
  cs.length = n ∧ ∃ a:α,∀ j,j < n → ∃ v,cs[j]? = some v ∧ bc (fq w) (c a j) v
section
variable {P:Program} {t e:TypeId}
def aj3 (k:IntKind) (z:Int):Nat → PV:=fun _=>.raw (.int k z)
def ajj (b:Bool):Nat → PV:=fun _=>.raw (.bool b)
def ajh (s:ByteArray):Nat → PV:=fun _=>.raw (.string s)
theorem a9j {k:IntKind} (ht:P.underlying t = some (.int k)):Rd P t 1 (aj3 k):=by
 intro H enc w sp held fuel cs x h
 obtain ⟨n,rfl,_,_⟩:=DataW.trod_int ht h
 refine ⟨rfl,n,fun j hj=>?_⟩
 obtain rfl:j = 0:=by omega
 exact ⟨_,rfl,rfl,rfl⟩
def u8P (u:UInt8):Nat → PV:=fun _=>.raw (.int .u8 (u.toNat:Int))
theorem ahd (ht:P.underlying t = some (.int .u8)):Rd P t 1 u8P:=by
 intro H enc w sp held fuel cs x h
 obtain ⟨n,rfl,_,hw⟩:=DataW.trod_int ht h
 have hx:0 ≤ n ∧ n ≤ 255:=by simpa [Lit.wf,IntKind.min,IntKind.max,IntKind.signed,IntKind.bits] using hw
 refine ⟨rfl,UInt8.ofNat n.toNat,fun j hj=>?_⟩
 obtain rfl:j = 0:=by omega
 refine ⟨_,rfl, ?_,rfl⟩
 have:(UInt8.ofNat n.toNat).toNat = n.toNat:=by
  rw [UInt8.toNat_ofNat']
  omega
 rw [this]
 congr 1
 omega
theorem Rd.co {n:Nat} {α β:Type} {c:α → Nat → PV} {c':β → Nat → PV} (h:Rd P t n c) (f:α → β) (hc:∀ a j,j < n → CoP (c a j) (c' (f a) j)):Rd P t n c':=by
 intro H enc w sp held fuel cs x hx
 obtain ⟨h1,a,h2⟩:=h _ enc w sp held fuel cs x hx
 refine ⟨h1,f a,fun j hj=>?_⟩
 obtain ⟨v,h3,h4⟩:=h2 j hj
 exact ⟨v,h3,hc a j hj _ _ h4⟩
def adg {α:Type} [Inhabited α] (s:Nat) (c:α → Nat → PV) (l:List α):Nat → PV:=fun _=>psl s c l
theorem a12 {s:Nat} {α:Type} [Inhabited α] {c:α → Nat → PV} (ht:P.underlying t = some (.slice e)) (hc:P.cellsOf e = s) (hs:0 < s) (h:Rd P e s c):Rd P t 1 (adg s c):=by
 classical
 intro H enc w sp held fuel cs x hx
 rcases DataW.trod_slice ht hx with ⟨rfl,_⟩ | ⟨a,len,cap,elems,rest,n,rfl,rfl,_,hb,hl,hm,hlen,hel,_,_⟩
 · refine ⟨rfl,[],fun j hj=>?_⟩
   obtain rfl:j = 0:=by omega
   exact ⟨_,rfl,none,0,rfl,Nat.le_refl _,Nat.zero_le _,(fun hh=>by cases hh),fun hh=>absurd hh (Nat.lt_irrefl 0)⟩
 have each:∀ i,i < len → ∃ q:α,∀ j,j < s → ∃ v,w.cell? (a.add (i * s + j)) = some v ∧ bc (fq w) (c q j) v:=by
  intro i hi
  have h1:=hel i hi
  rw [hc] at h1
  rw [List.getElem?_eq_getElem (by omega)] at h1
  obtain ⟨cs',h2,h3⟩:=Option.bind_eq_some_iff.1 h1
  obtain ⟨_,h4,h5⟩:=World.cells?_some h2
  obtain ⟨_,q,h6⟩:=h _ enc w sp held n cs' _ h3
  refine ⟨q,fun j hj=>?_⟩
  obtain ⟨v,h7,h8⟩:=h6 j hj
  refine ⟨v, ?_,h8⟩
  have:=h5 j hj
  rw [h7] at this
  rw [← this]
  congr 1
  unfold Addr.add
  by_cases hj0:j = 0
  · subst hj0
    simp
  by_cases hi0:i * s = 0
  · simp [hi0,hj0]
  have:¬ (i * s + j = 0):=by omega
  simp only [hj0,hi0,this,if_false]
  congr 1
  omega
 refine ⟨rfl,(List.range len).map fun i=>if hi:i < len then Classical.choose (each i hi) else default,fun j hj=>?_⟩
 obtain rfl:j = 0:=by omega
 refine ⟨_,rfl,some a,cap,by simp,by simpa using hl,hm,(fun hh=>by cases hh),fun hn=>?_⟩
 have hn:0 < len:=by simpa using hn
 have hspot:a.spot = none:=by
  obtain ⟨q,hq⟩:=each 0 hn
  obtain ⟨v,hv,_⟩:=hq 0 hs
  have:a.add (0 * s + 0) = a:=by simp [Addr.add]
  rw [this] at hv
  unfold World.cell? at hv
  split at hv
  · split at hv
    · cases hv
    rename_i hsp
    simpa using hsp
  cases hv
 refine ⟨a.block,a.off, ?_,fun i j hi hj=>?_⟩
 · obtain ⟨b,o,spo⟩:=a
   simp only at hspot
   subst hspot
   rfl
 have hi:i < len:=by simpa using hi
 have hch:=Classical.choose_spec (each i hi)
 obtain ⟨v,hv,hr⟩:=hch j hj
 refine ⟨v, ?_, ?_⟩
 · unfold World.cell? at hv
   have hblk:(a.add (i * s + j)).block = a.block:=by unfold Addr.add;split <;> rfl
   have hoff:(a.add (i * s + j)).off = a.off + (i * s + j):=by
    unfold Addr.add
    split
    · rename_i h0;rw [h0];rfl
    rfl
   rw [hblk,hoff] at hv
   unfold i4 fq
   split at hv
   · rename_i hb'
     rw [hb']
     split at hv
     · cases hv
     exact hv
   cases hv
 have:lf c ((List.range len).map fun i=>if hi:i < len then Classical.choose (each i hi) else default) i j = c (Classical.choose (each i hi)) j:=by
  unfold lf
  simp [List.getD,hi]
 rw [this]
 exact hr
theorem a3x {H:Type} {enc:TypeId × Value → H} {w:World} {sp:Nat → Bool} {held:Bool} {fuel:Nat} {cs:List Value} {x:DataW H × List MemPlace} {fs:Array Field} (ht:P.underlying t = some (.struct fs)) (h:DataW.trod enc P w 0 sp held fuel t cs = some x) :
 cs.length = P.cellsOf t ∧ ∃ n,∀ (i:Nat) (f:Field),fs[i]? = some f → ∃ y,DataW.trod enc P w 0 sp held n f.type ((cs.drop f.offset).take (P.cellsOf f.type)) = some y:=by
 obtain ⟨xs,n,_,_,h1,h2,h3⟩:=DataW.trod_struct ht h
 refine ⟨h1,n,fun i f hf=>?_⟩
 have:=h3 i f hf
 rw [this]
 have hi:i < xs.length:=by rw [h2];exact (Array.getElem?_eq_some_iff.1 hf).1
 exact ⟨_,List.getElem?_eq_getElem hi⟩
theorem jj {H:Type} {enc:TypeId × Value → H} {w:World} {sp:Nat → Bool} {held:Bool} {n off s:Nat} {ft:TypeId} {cs:List Value} {y:DataW H × List MemPlace} {α:Type} {c:α → Nat → PV} (h:Rd P ft s c) (hy:DataW.trod enc P w 0 sp held n ft ((cs.drop off).take (P.cellsOf ft)) = some y) :
 ∃ a:α,∀ j,j < s → ∃ v,cs[off + j]? = some v ∧ bc (fq w) (c a j) v:=by
 obtain ⟨h1,a,h2⟩:=h _ enc w sp held n _ y hy
 refine ⟨a,fun j hj=>?_⟩
 obtain ⟨v,h3,h4⟩:=h2 j hj
 refine ⟨v, ?_,h4⟩
 rw [List.getElem?_take] at h3
 split at h3
 · rwa [List.getElem?_drop] at h3
 cases h3
end
theorem a4a {W W':World} (hb:Below W.heap.size W W') (may:MemPlace → Prop):W.keptBut W' may:=by
 refine ⟨hb.os,hb.output,fun i hi=>?_⟩
 rw [hb.block i hi]
 cases W.heap[i]? with
 | none=>exact rfl
 | some o=>cases o <;> first | exact ⟨rfl,rfl,rfl,fun _ _=>rfl⟩ | exact .inr ⟨rfl,rfl⟩ | exact rfl
theorem a48 {W W':World} (hb:Below W.heap.size W W') (p:MemPlace) (hp:p.block < W.heap.size):W.sameAt W' p:=by
 cases p with
 | cell b off=>show W'.cell? _ = W.cell? _;unfold World.cell?;rw [hb.block b hp]
 | map b=>exact hb.block b hp
section
variable {H:Type} {enc:TypeId × Value → H} {P:Program}
theorem x3 (hl:laidOutB P = true) {W W':World} {sp':Nat → Bool}:∀ {ts:List TypeId} {vs:List Value} {ds:List (DataW H)} {ps:List MemPlace},(∀ t ∈ ts,P.readableRec t = true ∧ t < P.types.size) → DataW.TrodAll enc P W 0 (fun _=>true) true ts vs ds ps →
 (∀ p ∈ ps,W.sameAt W' p) → (∀ p ∈ ps,sp' p.block = true) → DataW.TrodAll enc P W' 0 sp' true ts vs ds ps
 | [],[],[],ps,_,h,_,_=>h
 | t :: ts,v :: vs,d :: ds,ps,ht,⟨p,q,h1,h2,e⟩,hs,hsp=>by
  subst e
  refine ⟨p,q,WideElems.Trod_stays hl (ht t (by simp)).1 (ht t (by simp)).2 h1 (fun z hz=>hs z (by simp [hz])) (fun z hz=>hsp z (by simp [hz])), ?_,rfl⟩
  exact x3 hl (fun t ht'=>ht t (by simp [ht'])) h2 (fun z hz=>hs z (by simp [hz])) (fun z hz=>hsp z (by simp [hz]))
 | [],_ :: _,_,_,_,h,_,_=>h.elim
 | [],[],_ :: _,_,_,h,_,_=>h.elim
 | _ :: _,[],_,_,_,h,_,_=>h.elim
 | _ :: _,_ :: _,[],_,_,h,_,_=>h.elim
theorem ad1 {f:Func} {s:ChangeSpec} {W W':World} {args:Array Value} {ds:List (DataW H)} {before:List MemPlace} {tb:TypeId} (hl:laidOutB P = true) (hpar:∀ t ∈ f.params.toList,P.readableRec t = true ∧ t < P.types.size)
 (hres:f.resultTypes = #[tb]) (htb:P.underlying tb = some .bool) (hv:s.vars = []) (hfn:s.fn H ds = { results:=[.lit (.bool true)],args:=ds })
 (hW:DataW.Whole enc P f.params.toList s.vars false W args.toList ds [] before) (hb:Below W.heap.size W W'):s.post enc P f false true false false W args (.bool true) W':=by
 have hW':=hW
 have hlt:∀ p ∈ before,p.block < W.heap.size:=fun p hp=>hW.lt p hp
 obtain ⟨p,q,hA,hV,rfl,hfz,hnd⟩:=hW
 rw [hv] at hV
 obtain ⟨_,rfl⟩:=trodVars_none hV
 have hfn':s.fn H (ds ++ []) = { results:=[.lit (.bool true)],args:=ds }:=by rw [List.append_nil];exact hfn
 have hargs:∀ sp:Nat → Bool,(∀ z ∈ p ++ [],sp z.block = true) → DataW.TrodAll enc P W' 0 sp true f.params.toList args.toList (s.fn H (ds ++ [])).args p:=fun sp hsp=>by
  rw [hfn']
  exact x3 hl hpar hA (fun z hz=>a48 hb z (hlt z (by simpa using hz))) (fun z hz=>hsp z (by simpa using hz))
 have hrs:∀ (b:Nat) (sp:Nat → Bool) (hd:Bool),DataW.TrodAll enc P W' b sp hd f.resultTypes.toList ((Value.bool true).resultList f.resultTypes.size) (s.fn H (ds ++ [])).results []:=fun b sp hd=>by
  rw [hfn',hres]
  exact trodAll_cons_mk (shut_bool htb _) trodAll_mk0
 have hok:∀ (j:Nat) (t:TypeId) (r:Value),f.resultTypes[j]? = some t → ((Value.bool true).resultList f.resultTypes.size)[j]? = some r → Value.okWide P W' .any 0 t r:=ok_one hres rfl (okWide_bool_mk htb _)
 have hvars:∀ sp:Nat → Bool,(∀ z ∈ p ++ [],sp z.block = true) → DataW.TrodVars enc P W' sp s.vars (s.fn H (ds ++ [])).vars []:=fun sp _=>by
  rw [hfn',hv];exact rfl
 have hold:∀ z ∈ p ++ [],(fun b=>decide (b < W.heap.size)) z.block = true:=fun z hz=>by simpa using hlt z hz
 refine ⟨ds,[],p ++ [],[],p,[],hW',hrs _ _ _,hargs _ hold,hvars _ hold,World.keptBut_mono (fun z hz=>⟨hz, ?_⟩) (a4a hb (· ∈ p ++ [])),fun _=>?_⟩
 · exact Or.inr (by simpa using hz)
 refine ⟨hok,_,_,([] ++ p) ++ [],⟨[] ++ p,[],trodAll_append (hargs _ (fun _ _=>rfl)) (hrs _ _ _),hvars _ (fun _ _=>rfl),rfl, ?_, ?_⟩, ?_⟩
 · intro b off hp
   have hp':MemPlace.cell b off ∈ p ++ []:=by simpa using hp
   have:=hfz b off hp'
   unfold World.frozen? at this ⊢
   rw [hb.block b (hlt _ hp')]
   exact this
 · intro ha;cases ha
 intro z hz _
 simpa using hz
end
theorem a5s {P:Program} {W:World} {r:Reach} {b:Nat} {t e:TypeId} {v:Value} (ht:P.underlying t = some (.slice e)) (h:Value.okWide P W r b t v):v.cells.toList = [v]:=by
 unfold Value.okWide at h
 rw [ht] at h
 unfold Cell.okWide at h
 rw [ht] at h
 cases v <;> first | rfl | (simp [Cell.ok,ht] at h)
theorem agh {H:Type} {enc:TypeId × Value → H} {P:Program} {W:World} {t:TypeId} {v:Value} {d:DataW H} {ps:List MemPlace} {α:Type} {c:α → Nat → PV} (h:Rd P t 1 c) (hc:v.cells.toList = [v]) (hd:DataW.Trod enc P W 0 (fun _=>true) true t v d ps):∃ a:α,bc (fq W) (c a 0) v:=by
 obtain ⟨fuel,hf⟩:=hd
 obtain ⟨_,a,ha⟩:=h _ enc W _ _ fuel _ _ hf
 obtain ⟨u,hu,hr⟩:=ha 0 (by omega)
 rw [hc] at hu
 simp only [List.getElem?_cons_zero,Option.some.injEq] at hu
 subst hu
 exact ⟨a,hr⟩
theorem abb {P:Program} {f:FuncId} {args:List PC} {us:List Value} {W:World} {R:Ending → World → Prop} (ht:mi (fq W)) (h:ay P f args (bu [.one (.raw (.bool true))])) (hr:ce (fq W) args us) (hR:∀ W',Below W.heap.size W W' → R (.returned (.bool true)) W'):Calls P f us.toArray W R:=by
 refine (h W (fq W) us ht (fun _ _ hh=>hh) hr).mono ?_
 rintro e w' ⟨v,imm',rfl,hv,_,_,hb⟩
 obtain ⟨rfl,_⟩:=hv
 exact hR w' hb
end
section
open Go.Proofs
theorem ag7 {j:Nat} (h:j < 1):j = 0:=by omega
theorem rd5:Rd Tryz.prog 5 1 u8C:=(ahd Tryz.underlying5).co id fun a j hj=>by obtain rfl:=ag7 hj;exact CoP.refl _
theorem afc:Rd Tryz.prog 32 1 ado:=(a12 Tryz.underlying32 (by kernel_rfl) (by omega) rd5).co id fun a j hj=>by obtain rfl:=ag7 hj;exact CoP.refl _
theorem ai5:Rd Tryz.prog 29 1 (adg 1 ado):=a12 Tryz.underlying29 (by kernel_rfl) (by omega) afc
theorem aj8:Rd Tryz.prog 31 3 Rcp.c:=by
 intro H enc w sp held fuel cs x h
 obtain ⟨hl,n,hf⟩:=a3x Tryz.underlying31 h
 obtain ⟨y0,e0⟩:=hf 0 _ rfl
 obtain ⟨y1,e1⟩:=hf 1 _ rfl
 obtain ⟨y2,e2⟩:=hf 2 _ rfl
 obtain ⟨a0,h0⟩:=jj rd5 e0
 obtain ⟨a1,h1⟩:=jj rd5 e1
 obtain ⟨a2,h2⟩:=jj ai5 e2
 refine ⟨hl.trans (by kernel_rfl),(⟨a0,a1,a2⟩:Rcp),fun j hj=>?_⟩
 match j,hj with
 | 0,_=>exact h0 0 (by omega)
 | 1,_=>exact h1 0 (by omega)
 | 2,_=>exact h2 0 (by omega)
theorem aht:Rd Tryz.prog 34 9 Opn.c:=by
 intro H enc w sp held fuel cs x h
 obtain ⟨hl,n,hf⟩:=a3x Tryz.underlying34 h
 obtain ⟨y0,e0⟩:=hf 0 _ rfl
 obtain ⟨y1,e1⟩:=hf 1 _ rfl
 obtain ⟨y2,e2⟩:=hf 2 _ rfl
 obtain ⟨y3,e3⟩:=hf 3 _ rfl
 obtain ⟨y4,e4⟩:=hf 4 _ rfl
 obtain ⟨y5,e5⟩:=hf 5 _ rfl
 obtain ⟨y6,e6⟩:=hf 6 _ rfl
 obtain ⟨a0,h0⟩:=jj rd5 e0
 obtain ⟨a1,h1⟩:=jj rd5 e1
 obtain ⟨a2,h2⟩:=jj aj8 e2
 obtain ⟨a3,h3⟩:=jj (a9j Tryz.underlying2) e3
 obtain ⟨a4,h4⟩:=jj afc e4
 obtain ⟨a5,h5⟩:=jj (a9j Tryz.underlying3) e5
 obtain ⟨a6,h6⟩:=jj rd5 e6
 refine ⟨hl.trans (by kernel_rfl),(⟨a0,a1,a2,a3,a4,a5,a6⟩:Opn),fun j hj=>?_⟩
 match j,hj with
 | 0,_=>exact h0 0 (by omega)
 | 1,_=>exact h1 0 (by omega)
 | 2,_=>exact h2 0 (by omega)
 | 3,_=>exact h2 1 (by omega)
 | 4,_=>exact h2 2 (by omega)
 | 5,_=>exact h3 0 (by omega)
 | 6,_=>exact h4 0 (by omega)
 | 7,_=>exact h5 0 (by omega)
 | 8,_=>exact h6 0 (by omega)
theorem ahj:Rd Tryz.prog 22 1 (adg 9 Opn.c):=a12 Tryz.underlying22 (by kernel_rfl) (by omega) aht
theorem aeo:laidOutB Tryz.prog = true:=by kernel_rfl
theorem ahf:Tryz.prog.readableRec 22 = true ∧ 22 < Tryz.prog.types.size:=⟨by kernel_rfl,of_decide_eq_true (by kernel_rfl)⟩
end
section
open Go.Proofs
theorem agv:am Tryz.prog 80:=wgx Tryz.func80
theorem c80 (c:Chg) (hr:c.row.vals.length ≤ 68719476736) (h4:c.kind = 4 → 0 ≤ c.attr ∧ c.attr < c.row.vals.length):ay Tryz.prog 80 [c.pc] (bu [(fd c).pc]):=by
 refine av (nt:=36) a8 Tryz.func80 rfl rfl l9 ?_;refine sx7 ?_;refine m9 0 ?_;refine m9 1 ?_;refine sv ?_;refine a7 _ rfl (fun r0=>?_) (fun r0=>?_)
 ·
  have h0:=ae r0
  try simp only [ty] at h0
  refine dz ?_;refine ⟨.inr rfl, ?_⟩
  first | rw [xd (by assumption)] | rw [xa (by assumption)] | rw [a06 (by assumption)] | rw [a4y (by assumption) (by assumption) (by assumption)]
  exact f9 rfl rfl ((by first | exact CoL.refl _ | exact ⟨CoC.agg ⟨CoP.refl _,CoP.refl _,CoP.refl _,CoP.refl _,CoP.refl _,CoP.refl _,yr (by omega),CoP.refl _,CoP.refl _,CoP.refl _,CoP.refl _,trivial⟩,trivial⟩))
 have h0:=aa r0
 try simp only [ty] at h0
 refine w_5 ?_;refine a7 _ rfl (fun r1=>?_) (fun r1=>?_)
 ·
  have h1:=ae r1
  try simp only [ty] at h1
  refine dz ?_;refine ⟨.inr rfl, ?_⟩
  first | rw [xd (by assumption)] | rw [xa (by assumption)] | rw [a06 (by assumption)] | rw [a4y (by assumption) (by assumption) (by assumption)]
  exact f9 rfl rfl ((by first | exact CoL.refl _ | exact ⟨CoC.agg ⟨CoP.refl _,CoP.refl _,CoP.refl _,CoP.refl _,CoP.refl _,CoP.refl _,yr (by omega),CoP.refl _,CoP.refl _,CoP.refl _,CoP.refl _,trivial⟩,trivial⟩))
 have h1:=aa r1
 try simp only [ty] at h1
 refine w_5 ?_;refine a7 _ rfl (fun r2=>?_) (fun r2=>?_)
 ·
  have h2:=ae r2
  try simp only [ty] at h2
  have hk4:=h4 (by assumption)
  refine w_9 ?_;refine m9 2 ?_;refine w_6 ?_;refine al rfl rfl rfl rfl rfl rfl p8 (ai9 c.row hr) (bg.refl _) trivial rfl rfl ?_;refine w_3 ?_
  refine ap (E:=au) a8 ag [0,1,2,3,4,5,6,7,8,9,10,11] ?_;refine sv ?_;refine ⟨by kernel_rfl, ?_⟩;refine w_6 ?_;refine ⟨.inr rfl, ?_⟩
  first | rw [xd (by assumption)] | rw [xa (by assumption)] | rw [a06 (by assumption)] | rw [a4y (by assumption) (by assumption) (by assumption)]
  exact f9 rfl rfl ((by first | exact CoL.refl _ | exact ⟨CoC.agg ⟨CoP.refl _,CoP.refl _,CoP.refl _,CoP.refl _,CoP.refl _,CoP.refl _,yr (by omega),CoP.refl _,CoP.refl _,CoP.refl _,CoP.refl _,trivial⟩,trivial⟩))
 have h2:=aa r2
 try simp only [ty] at h2
 refine w_7 ?_;refine ⟨.inr rfl, ?_⟩
 first | rw [xd (by assumption)] | rw [xa (by assumption)] | rw [a06 (by assumption)] | rw [a4y (by assumption) (by assumption) (by assumption)]
 exact f9 rfl rfl ((by first | exact CoL.refl _ | exact ⟨CoC.agg ⟨CoP.refl _,CoP.refl _,CoP.refl _,CoP.refl _,CoP.refl _,CoP.refl _,yr (by omega),CoP.refl _,CoP.refl _,CoP.refl _,CoP.refl _,trivial⟩,trivial⟩))
end
section
open Go.Proofs
theorem a65:am Tryz.prog 17:=wgx Tryz.func17
theorem adk  : br Tryz.prog 17 [] [] (.v (.one (.ptr 900 0))) [(900, .box [.p (pw []), .ref 901 0, .ref 902 0, .p (.raw (.bool false)), .ref 903 0]),(901, .arr false 1 23 0 (lf txC [])),(902, .arr false 1 23 0 (lf txC [])),(903, .arr false 11 49 0 (lf Chg.c []))] []:=by
 refine c8 (nt:=3) a8 Tryz.func17 rfl rfl l9 rfl ?_;refine pb ?_;refine w_7 ?_;refine m9 900 ?_;refine w_3 ?_
 show HE _ _ _
 refine ez 900 1 901 false 1 23 (lf txC []) (by decide) rfl rfl (CoP.sl rfl (.inr rfl) (fun h=>h) (fun i j hi _=>absurd hi (Nat.not_lt_zero i))) (.inl rfl) rfl rfl ?_
 refine ez 900 2 902 false 1 23 (lf txC []) (by decide) rfl rfl (CoP.sl rfl (.inr rfl) (fun h=>h) (fun i j hi _=>absurd hi (Nat.not_lt_zero i))) (.inl rfl) rfl rfl ?_
 refine ez 900 4 903 false 11 49 (lf Chg.c []) (by decide) rfl rfl (CoP.sl rfl (.inr rfl) (fun h=>h) (fun i j hi _=>absurd hi (Nat.not_lt_zero i))) (.inl rfl) rfl rfl ?_;refine ck ?_;refine ⟨.inr rfl, ?_⟩
 exact ⟨_,_,rfl,(by (repeat' apply And.intro) <;> first | trivial | exact Nat.le_of_ble_eq_true rfl),CoR.refl _,⟨⟨_,rfl,⟨ar,CoH.refl _,CoH.refl _,CoH.refl _,CoH.refl _,trivial⟩⟩,u9,u9,u9,trivial⟩⟩
end
section
open Go.Proofs
theorem abn:am Tryz.prog 19:=wgx Tryz.func19
theorem ahw (x:Str) (s:Stt) (hx:SOk x) (hf:x.done.flatten.length ≤ 68719476736) (hok:∀ i k,i < x.done.length → k < (x.done.getD i default).length → ((x.done.getD i default).getD k default).ok) (hs:a0b s) (ha:j8 x.done.flatten) (hb:j8 s.done.flatten):br Tryz.prog 19 [.one (.ptr 1000 0),s.pc.toH] x.objs (.v (.one (.p (.raw (.bool (decide (x.db = bm s) && decide (x.done.flatten = s.done.flatten))))))) x.objs [1000]:=by
 refine c8 (nt:=17) a8 Tryz.func19 rfl rfl l9 rfl ?_
 have hV:=hs.V
 refine sx7 ?_;refine m9 0 ?_;refine w_3 ?_;refine ap (E:=au) a8 ag [0,1,2,3,4,5,6,7,8,9,10,11,12] ?_;refine qy ?_
 refine al rfl rfl rfl rfl rfl rfl a17 (ac1 x hx.db) (bg.refl _) ⟨u9,u9,u9,u9,trivial⟩ rfl rfl ?_;refine qy ?_;refine qcx aah (c50 s hs.ld hs.ln hs.ok) ?_;refine qcx af5 (c16 _ _ hx.db.ok hV.ok) ?_
 refine qy ?_;refine bo rfl rfl (fun r0=>?_) (fun r0=>?_)
 ·
  have h0:=r0
  refine qy ?_ (hg:=(gtt r0));refine al rfl rfl rfl rfl rfl rfl a4l (afj x hf hok) (bg.refl _) ⟨u9,u9,u9,u9,trivial⟩ rfl (gtt r0) ?_;refine qy ?_ (hg:=(gtt r0))
  refine al rfl rfl rfl rfl rfl rfl aab ((afx s hs.ld).swap 9 100) (bg.refl _) trivial rfl (gtt r0) ?_;refine qcx afd (c26 x.done.flatten s.done.flatten ha hb) ?_ (hg:=(gtt r0));refine w_3 ?_
  refine ⟨by kernel_rfl, ?_⟩;refine ej ?_;refine ⟨.inr rfl, ?_⟩
  exact ⟨_,_,rfl,(by (repeat' apply And.intro) <;> first | trivial | exact Nat.le_of_ble_eq_true rfl),(CoR.of_eq (by first | (have h:decide (x.db = bm s) = false:=(by assumption);rw [h];rfl) | (have h:decide (x.db = bm s) = true:=(by assumption);rw [h];rfl))),⟨u9,u9,u9,u9,trivial⟩⟩
 have h0:=r0
 (iterate 5 refine k9 (gft r0) ?_);refine rq rfl rfl rfl rfl rfl ?_ (hp:=r0);refine w_2 ?_;refine ⟨by kernel_rfl, ?_⟩;refine ej ?_;refine ⟨.inr rfl, ?_⟩
 exact ⟨_,_,rfl,(by (repeat' apply And.intro) <;> first | trivial | exact Nat.le_of_ble_eq_true rfl),(CoR.of_eq (by first | (have h:decide (x.db = bm s) = false:=(by assumption);rw [h];rfl) | (have h:decide (x.db = bm s) = true:=(by assumption);rw [h];rfl))),⟨u9,u9,u9,u9,trivial⟩⟩
end
section
open Go.Proofs
abbrev op5:Opn:=⟨5,0,default,0,[],0,0⟩
def clX (x:Str) (b:Bool):Str:=if b = true then cmS (enS x) (enL x) else x
def clR (s:Stt):Stt:=if s.opn = true then doS s op5 else s
end
section
def gd (d:DB):List Chg → DB
 | []=>d
 | c :: l=>gd (f8 d c) l
theorem aae {d:DB} {l:List Chg} {i:Nat} (h:i < l.length):gd d (l.drop i) = gd (f8 d (l.getD i default)) (l.drop (i + 1)):=by
 rw [List.drop_eq_getElem_cons h,cg _ _ h]
 rfl
def rdE (x:Str):Int:=if x.opn = true ∨ x.undone.length = 0 then 16 else 0
def rdS (x:Str):Str:=if x.opn = true ∨ x.undone.length = 0 then x else
 { x with db:=gd x.db (x.undone.getD ((x.undone.length:Int) - 1).toNat default),done:=x.done ++ [x.undone.getD ((x.undone.length:Int) - 1).toNat default],undone:=x.undone.take (x.undone.length - 1) }
theorem a7u {l:List (List Chg)} {k i j:Nat} (h:i < k):lf txC l i j = lf txC (l.take k) i j:=by
 simp only [lf,List.getD,List.getElem?_take,h,if_true]
end
section
open Go.Proofs
theorem a63:am Tryz.prog 25:=wgx Tryz.func25
theorem ah2 (x:Str) (hd:dbV x.db) (hd1:x.done.length ≤ 68719476736) (hu:x.undone.length ≤ 68719476736) (hok:j8 (x.undone.getD ((x.undone.length:Int) - 1).toNat default)):br Tryz.prog 25 [.one (.ptr 1000 0)] x.objs (.v (.one (.p (.raw (.int .i64 (rdE x)))))) (rdS x).objs [1000]:=by
 refine c8 (nt:=69) a8 Tryz.func25 rfl rfl l9 rfl ?_;refine pb ?_
 have hnu:x.undone.length ≤ 68719476736:=hu
 refine ad5 ?_;refine bo rfl rfl (fun r0=>?_) (fun r0=>?_)
 ·
  have h0:=r0
  (iterate 2 refine k9 (gtf r0) ?_);refine rq rfl rfl rfl rfl rfl ?_ (hp:=r0);refine ca ?_;refine a7 _ rfl (fun _=>?_) (fun e=>by cases e);refine w_5 ?_
  show HE _ _ _
  refine ck ?_;refine ⟨.inr rfl, ?_⟩
  have hc:x.opn = true ∨ x.undone.length = 0:=by first | exact .inl (by assumption) | exact .inr (by omega)
  rw [show rdE x = 16 from if_pos hc,show rdS x = x from if_pos hc]
  exact ⟨_,_,rfl,(by (repeat' apply And.intro) <;> first | trivial | exact Nat.le_of_ble_eq_true rfl),CoR.refl _,⟨u9,u9,u9,u9,trivial⟩⟩
 have h0:=r0
 (iterate 2 refine qy ?_ (hg:=(gff r0)));refine w_2 ?_;refine a7 _ rfl (fun r1=>?_) (fun r1=>?_)
 ·
  have h1:=r1
  have h1:=bw r0 h1
  have h1:=ae h1
  try simp only [ty] at h1
  refine w_5 ?_
  show HE _ _ _
  refine ck ?_;refine ⟨.inr rfl, ?_⟩
  have hc:x.opn = true ∨ x.undone.length = 0:=by first | exact .inl (by assumption) | exact .inr (by omega)
  rw [show rdE x = 16 from if_pos hc,show rdS x = x from if_pos hc]
  exact ⟨_,_,rfl,(by (repeat' apply And.intro) <;> first | trivial | exact Nat.le_of_ble_eq_true rfl),CoR.refl _,⟨u9,u9,u9,u9,trivial⟩⟩
 have h1:=r1
 have h1:=bw r0 h1
 have h1:=aa h1
 try simp only [ty] at h1
 refine wk ?_;refine jw 4 rfl (fun (hn:(x.undone.getD ((x.undone.length:Int) - 1).toNat default).length ≤ 9223372036854775807)=>?_);refine w_6 ?_
 refine az (ι:=(Nat × DB)) ⟨[(0,some _),(3,some _),(4,some _),(28,some _),(29,some _)],[(901,some _),(902,some _),(903,some _)]⟩ ⟨⟨c9,c9,c9,c9,c9,trivial⟩,⟨u9,u9,u9,trivial⟩⟩ (fun q=>⟨[(30,some (vI q.1))],[(1000,some (.box [.p (pw q.2), .ref 901 x.done.length, .ref 902 x.undone.length, .p (.raw (.bool x.opn)), .ref 903 x.now.length]))]⟩) (fun q=>q.1 ≤ (x.undone.getD ((x.undone.length:Int) - 1).toNat default).length ∧ dbV q.2 ∧ gd q.2 ((x.undone.getD ((x.undone.length:Int) - 1).toNat default).drop q.1) = gd x.db (x.undone.getD ((x.undone.length:Int) - 1).toNat default)) (fun q=>(x.undone.getD ((x.undone.length:Int) - 1).toNat default).length - q.1) ((0,x.db)) (⟨Nat.zero_le _,hd,rfl⟩) ⟨⟨zy,trivial⟩,⟨u9,trivial⟩⟩ ?_
 rintro ⟨i,d⟩ ⟨hi,hdd,hD⟩
 dsimp only at hi hD ⊢
 refine w_5 ?_;refine a7 _ rfl (fun r2=>?_) (fun r2=>?_)
 ·
  have h2:=ae r2
  try simp only [ty] at h2
  refine w_7 ?_;refine m9 0 ?_;refine w_2 ?_;refine ap (E:=au) a8 ag [0,1,2,3,4,5,6,7,8,9,10,11,12] ?_;refine w_6 ?_
  refine qcx a5i (c45 d ((x.undone.getD ((x.undone.length:Int) - 1).toNat default).getD i default) hdd (hok i (by omega))) ?_;refine w_7 ?_;refine ⟨by kernel_rfl, ?_⟩;refine w_4 ?_
  refine ⟨(i + 1,f8 d ((x.undone.getD ((x.undone.length:Int) - 1).toNat default).getD i default)), ?_, ?_, ?_⟩
  · exact ⟨by dsimp only;omega,a1m hdd,(aae (by omega)).symm.trans hD⟩
  · first | omega | (dsimp only;omega)
  exact ⟨⟨zy,c9,c9,c9,c9,c9,trivial⟩,⟨u9,u9,u9,u9,trivial⟩⟩
 have h2:=aa r2
 try simp only [ty] at h2
 obtain rfl:i = (x.undone.getD ((x.undone.length:Int) - 1).toNat default).length:=by omega
 rw [List.drop_length] at hD
 obtain rfl:d = gd x.db (x.undone.getD ((x.undone.length:Int) - 1).toNat default):=hD
 refine w_2 ?_;refine f4 1000 2 rfl rfl rfl rfl rfl ?_;refine ap (E:=au) a8 ag [0,2,3,4,5,6,7,8,9,10,11,12,13,14,15,16,17,18,19,20,1,21,22,23] ?_;refine wk ?_
 refine m9 1 ?_;refine ra 2 true rfl rfl rfl rfl rfl rfl ?_;refine w_8 ?_;refine ⟨by kernel_rfl, ?_⟩;refine w_5 ?_
 show HE _ _ _
 refine rn ⟨[(2,some _)],[(1000,some _),(901,some _),(903,some _)]⟩ ⟨⟨c9,trivial⟩,⟨u9,u9,u9,trivial⟩⟩ ?_
 refine ez 1000 2 902 false 1 23 (lf txC x.undone) (by decide) rfl rfl (CoP.refl _) (.inl rfl) rfl rfl ?_;refine ck ?_;refine ⟨.inr rfl, ?_⟩
 have hc:¬ (x.opn = true ∨ x.undone.length = 0):=by rintro (h | h) <;> first | (simp_all;done) | omega
 rw [show rdE x = 0 from if_neg hc,show rdS x = { x with db:=gd x.db (x.undone.getD ((x.undone.length:Int) - 1).toNat default),done:=x.done ++ [(x.undone.getD ((x.undone.length:Int) - 1).toNat default)],undone:=x.undone.take (x.undone.length - 1) } from if_neg hc]
 have hlen:((x.undone.length:Int) - 1).toNat = (x.undone.take (x.undone.length - 1)).length:=by rw [List.length_take];omega
 exact ⟨_,_,rfl,(by (repeat' apply And.intro) <;> first | trivial | exact Nat.le_of_ble_eq_true rfl),CoR.refl _,⟨⟨_,rfl,⟨CoH.refl _,congrArg (HV.ref 901) (by simp),congrArg (HV.ref 902) hlen,CoH.refl _,CoH.refl _,trivial⟩⟩,⟨_,rfl,(kb _ (fun _=>rfl) rfl (jq (lt1 (CoP.refl _))))⟩,⟨_,rfl,⟨fun h=>h,rfl,rfl,hlen.symm,fun i j hi hj=>CoP.of_eq (a7u (by have hi:i < ((x.undone.length:Int) - 1).toNat:=hi;omega))⟩⟩,u9,trivial⟩⟩
end
end Go.Hx

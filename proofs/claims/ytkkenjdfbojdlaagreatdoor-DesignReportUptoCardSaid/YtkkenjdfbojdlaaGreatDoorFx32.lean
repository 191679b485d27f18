/- A part of the proof: X26 Ch25 X31 Cc4 Ds1 Rb27 Ds9 Dw8. -/
import Derived.Lib.Join
import Derived.Test.YtkkenjdfbojdlaaGreatDoorFx19
import Derived.Test.YtkkenjdfbojdlaaGreatDoorFx21
import Derived.Test.YtkkenjdfbojdlaaGreatDoorFx22
import Derived.Test.YtkkenjdfbojdlaaGreatDoorFx24
import Derived.Test.YtkkenjdfbojdlaaGreatDoorFx25
import Derived.Test.YtkkenjdfbojdlaaGreatDoorFx30
import Derived.Test.YtkkenjdfbojdlaaGreatDoorFx31
set_option linter.all false
set_option maxRecDepth 100000
set_option maxHeartbeats 1000000
namespace Go.Hx
section
open Go.Proofs
theorem b51:goodFn Tryz.prog 29:=wgx Tryz.func29
theorem bbr (d:Rcp) (hf:d.f.length ≤ 16777216) (hm:d.m.length ≤ 16777216) (hp:d.p.length ≤ 16777216):af Tryz.prog 29 [d.pc,pI 4] (aj [pI (d.num 4),pP (fdl (d.f.map (Dp.fd (d.num 4)))),pP (fdl (d.m.map (Dp.fd (d.num 4)))),pP (asl (d.p.map (u8S (d.num 4)))),pB (decide (d.f.length ≤ 4 ∧ d.m.length ≤ 4 ∧ d.p.length ≤ 3))]):=by
 refine a8 (nt:=118) a7 Tryz.func29 rfl rfl l9 ?_;refine sx7 ?_;refine m9 0 ?_;refine a2e ?_;refine qcx ze (a00 (d.num 4)) ?_;refine fc ?_
 refine d6 11 900 true 2 48 (lf Fd.c []) (by decide) rfl (CoP.sl rfl (.inr rfl) (fun h=>h) (fun i j hi _=>absurd hi (Nat.not_lt_zero i))) (.inr rfl) rfl ?_
 refine ah (ι:=Nat) ⟨[(2,some _),(9,some _),(10,some _)],[(0,some _)]⟩ ⟨⟨c9,c9,c9,trivial⟩,⟨u9,trivial⟩⟩ (fun i=>⟨[(11,some (.v (.one (.ref 900 ((d.f.take i).map (Dp.fd (d.num 4))).length)))),(12,some (vI i))],[(900,some (.arr true 2 48 ((d.f.take i).map (Dp.fd (d.num 4))).length (lf Fd.c ((d.f.take i).map (Dp.fd (d.num 4))))))]⟩) (fun i=>i ≤ d.f.length) (fun i=>d.f.length - i) (0) (Nat.zero_le _) ⟨⟨zy,zy,trivial⟩,⟨u9,trivial⟩⟩ ?_
 rintro i hi
 have hlen:((d.f.take i).map (Dp.fd (d.num 4))).length ≤ i:=by rw [List.length_map,List.length_take];omega
 refine w_9 ?_;refine a6 _ rfl (fun r0=>?_) (fun r0=>?_)
 ·
  have h0:=ae r0
  try simp only [ty] at h0
  refine w_3 ?_;refine bg (E:=bj) a7 aw [0,1,2,3,4,5,6,7,8,9,10,11,12,13,14,15,16,17,18,19,20,21,22] ?_;refine aay ?_;refine m9 1 ?_;refine ra 2 true rfl rfl rfl rfl rfl rfl ?_
  refine w_2 ?_;refine ⟨by kernel_rfl, ?_⟩;refine w_5 ?_;refine ⟨i + 1, ?_, ?_, ?_⟩
  · show i + 1 ≤ _;omega
  · first | omega | (dsimp only;omega)
  exact ⟨⟨⟨_,rfl,(ca (qo (by omega)))⟩,zy,c9,c9,c9,trivial⟩,⟨⟨_,rfl,(ov (qo (by omega)) (CoP.of_eq (congrArg (fun z=>PV.raw (.int .u32 z)) (a21 _ _))) (CoP.of_eq (congrArg (fun z=>PV.raw (.int .u32 z)) (a21 _ _))))⟩,u9,trivial⟩⟩
 have h0:=aa r0
 try simp only [ty] at h0
 obtain rfl:i = d.f.length:=by omega
 refine w_2 ?_;refine bi 11 rfl rfl rfl ?_;refine w_9 ?_;refine d6 13 901 true 2 49 (lf Fd.c []) (by decide) rfl (CoP.sl rfl (.inr rfl) (fun h=>h) (fun i j hi _=>absurd hi (Nat.not_lt_zero i))) (.inr rfl) rfl ?_
 refine ah (ι:=Nat) ⟨[(2,some _),(9,some _),(10,some _),(11,some _)],[(0,some _)]⟩ ⟨⟨c9,c9,c9,c9,trivial⟩,⟨u9,trivial⟩⟩ (fun i=>⟨[(13,some (.v (.one (.ref 901 ((d.m.take i).map (Dp.fd (d.num 4))).length)))),(14,some (vI i))],[(901,some (.arr true 2 49 ((d.m.take i).map (Dp.fd (d.num 4))).length (lf Fd.c ((d.m.take i).map (Dp.fd (d.num 4))))))]⟩) (fun i=>i ≤ d.m.length) (fun i=>d.m.length - i) (0) (Nat.zero_le _) ⟨⟨zy,zy,trivial⟩,⟨u9,trivial⟩⟩ ?_
 rintro i hi
 have hlen:((d.m.take i).map (Dp.fd (d.num 4))).length ≤ i:=by rw [List.length_map,List.length_take];omega
 refine w_9 ?_;refine a6 _ rfl (fun r1=>?_) (fun r1=>?_)
 ·
  have h1:=ae r1
  try simp only [ty] at h1
  refine w_3 ?_;refine bg (E:=bj) a7 aw [0,1,2,3,4,5,6,7,8,9,10,11,12,13,14,15,16,17,18,19,20,21,22] ?_;refine aay ?_;refine m9 3 ?_;refine ra 4 true rfl rfl rfl rfl rfl rfl ?_
  refine w_2 ?_;refine ⟨by kernel_rfl, ?_⟩;refine w_5 ?_;refine ⟨i + 1, ?_, ?_, ?_⟩
  · show i + 1 ≤ _;omega
  · first | omega | (dsimp only;omega)
  exact ⟨⟨⟨_,rfl,(ca (qo (by omega)))⟩,zy,c9,c9,c9,c9,trivial⟩,⟨⟨_,rfl,(ov (qo (by omega)) (CoP.of_eq (congrArg (fun z=>PV.raw (.int .u32 z)) (a21 _ _))) (CoP.of_eq (congrArg (fun z=>PV.raw (.int .u32 z)) (a21 _ _))))⟩,u9,trivial⟩⟩
 have h1:=aa r1
 try simp only [ty] at h1
 obtain rfl:i = d.m.length:=by omega
 refine w_2 ?_;refine bi 13 rfl rfl rfl ?_;refine w_9 ?_;refine d6 15 902 true 1 46 (lf sC []) (by decide) rfl (CoP.sl rfl (.inr rfl) (fun h=>h) (fun i j hi _=>absurd hi (Nat.not_lt_zero i))) (.inr rfl) rfl ?_
 refine ah (ι:=Nat) ⟨[(2,some _),(9,some _),(10,some _),(11,some _),(13,some _)],[(0,some _)]⟩ ⟨⟨c9,c9,c9,c9,c9,trivial⟩,⟨u9,trivial⟩⟩ (fun i=>⟨[(15,some (.v (.one (.ref 902 ((d.p.take i).map (u8S (d.num 4))).length)))),(16,some (vI i))],[(902,some (.arr true 1 46 ((d.p.take i).map (u8S (d.num 4))).length (lf sC ((d.p.take i).map (u8S (d.num 4))))))]⟩) (fun i=>i ≤ d.p.length) (fun i=>d.p.length - i) (0) (Nat.zero_le _) ⟨⟨zy,zy,trivial⟩,⟨u9,trivial⟩⟩ ?_
 rintro i hi
 have hlen:((d.p.take i).map (u8S (d.num 4))).length ≤ i:=by rw [List.length_map,List.length_take];omega
 refine w_9 ?_;refine a6 _ rfl (fun r2=>?_) (fun r2=>?_)
 ·
  have h2:=ae r2
  try simp only [ty] at h2
  refine kf ?_;refine m9 5 ?_;refine ra 6 true rfl rfl rfl rfl rfl rfl ?_;refine w_7 ?_;refine ⟨i + 1, ?_, ?_, ?_⟩
  · show i + 1 ≤ _;omega
  · first | omega | (dsimp only;omega)
  exact ⟨⟨⟨_,rfl,(ca (qo (by omega)))⟩,zy,c9,c9,c9,c9,c9,trivial⟩,⟨⟨_,rfl,(c7 (qo (by omega)) (CoP.of_eq (congrArg (fun z=>PV.raw (.int .u32 z)) (a21 _ _))))⟩,u9,trivial⟩⟩
 have h2:=aa r2
 try simp only [ty] at h2
 obtain rfl:i = d.p.length:=by omega
 refine w_2 ?_;refine bi 15 rfl rfl rfl ?_;refine w_9 ?_;refine b9 rfl rfl (fun r3=>?_) (fun r3=>?_)
 ·
  have h3:=ae r3
  try simp only [ty] at h3
  (iterate 3 refine qy ?_ (hg:=(gtt r3)));refine w_2 ?_;refine b9 rfl rfl (fun r4=>?_) (fun r4=>?_)
  ·
   have h4:=r4
   have h4:=du r3 h4
   have h4:=ae h4
   try simp only [ty] at h4
   (iterate 3 refine qy ?_ (hg:=(gtt r4)));refine w_7 ?_
   exact hx8 rfl rfl rfl (⟨CoC.refl _,(by rw [List.take_length];exact CoC.refl _),(by rw [List.take_length];exact CoC.refl _),(by rw [List.take_length];exact CoC.refl _),ccb (by first | (simp only [List.length_map,List.take_length];exact aly) | exact (decide_eq_false (by omega)).symm),trivial⟩)
  have h4:=r4
  have h4:=du r3 h4
  have h4:=aa h4
  try simp only [ty] at h4
  (iterate 3 refine k9 (gft r4) ?_);refine rq rfl rfl rfl rfl rfl ?_ (hp:=r4);refine w_6 ?_
  exact hx8 rfl rfl rfl (⟨CoC.refl _,(by rw [List.take_length];exact CoC.refl _),(by rw [List.take_length];exact CoC.refl _),(by rw [List.take_length];exact CoC.refl _),ccb (by first | (simp only [List.length_map,List.take_length];exact aly) | exact (decide_eq_false (by omega)).symm),trivial⟩)
 have h3:=aa r3
 try simp only [ty] at h3
 (iterate 3 refine k9 (gft r3) ?_);refine rq rfl rfl rfl rfl rfl ?_ (hp:=r3);refine qy ?_;(iterate 3 refine k9 rfl ?_);refine w_7 ?_
 exact hx8 rfl rfl rfl (⟨CoC.refl _,(by rw [List.take_length];exact CoC.refl _),(by rw [List.take_length];exact CoC.refl _),(by rw [List.take_length];exact CoC.refl _),ccb (by first | (simp only [List.length_map,List.take_length];exact aly) | exact (decide_eq_false (by omega)).symm),trivial⟩)
end
section
theorem aea {n:Int} {l:List Rw} {p m:List Fd} {mu:Bool} {i a b:Int} (h:¬ ckE n l p m = 0):jy n l p m mu i a b = (0,[],ckE n l p m):=if_neg h
theorem ko {n:Int} {l:List Rw} {p m:List Fd} {mu:Bool} {i a b:Int} (h:ckE n l p m = 0) (h3:dm l p m mu i a b):jy n l p m mu i a b = (0,[],1):=(if_pos h).trans (if_pos h3)
theorem a6s {n:Int} {l:List Rw} {p m:List Fd} {mu:Bool} {i a b:Int} (h:ckE n l p m = 0) (h3:¬ dm l p m mu i a b):jy n l p m mu i a b = ez n l p m (mu,i.toNat,a.toNat,b.toNat):=(if_pos h).trans (if_neg h3)
theorem lx {a b:Int} (h:(if b < a then b else a) < 0):a < 0 ∨ b < 0:=by split at h <;> omega
theorem lz {a b k:Int} (h:k ≤ (if a < b then b else a)):k ≤ a ∨ k ≤ b:=by split at h <;> omega
theorem as9 {a b:Int} (h:¬ (if b < a then b else a) < 0):0 ≤ a ∧ 0 ≤ b:=by split at h <;> omega
theorem aq0 {a b k:Int} (h:¬ k ≤ (if a < b then b else a)):a < k ∧ b < k:=by split at h <;> omega
def stQ (x y:St):Bool:=(x.1 == y.1) && (decide ((x.2.1:Int) = (y.2.1:Int)) && (decide ((x.2.2.1:Int) = (y.2.2.1:Int)) && decide ((x.2.2.2:Int) = (y.2.2.2:Int))))
end
section
open Go.Proofs
theorem azv:goodFn Tryz.prog 129:=wgx Tryz.func129
theorem auf (n:Int) (l:List Rw) (p m:List Fd) (i a b:Int):af Tryz.prog 129 [pT n l,pP (fdl p),pP (fdl m), .agg [.raw (.bool true), .raw (.int .i64 i), .raw (.int .i64 a), .raw (.int .i64 b)]] (aj [pT (jy n l p m true i a b).1 (jy n l p m true i a b).2.1,pI (jy n l p m true i a b).2.2]):=by
 refine a8 (nt:=69) a7 Tryz.func129 rfl rfl l9 ?_;refine sx7 ?_;refine m9 0 ?_;refine m9 1 ?_;refine m9 2 ?_;refine w_8 ?_;refine qcx abh (a81 n l p m) ?_;refine w_7 ?_
 refine a6 _ rfl (fun r0=>?_) (fun r0=>?_)
 ·
  have h0:=r0
  have h0:=aa (au h0)
  try simp only [ty] at h0
  refine w_8 ?_;refine ⟨.inr rfl, ?_⟩
  have he:=aea (n:=n) (l:=l) (p:=p) (m:=m) (mu:=true) (i:=i) (a:=a) (b:=b) (by assumption)
  exact f9 rfl rfl (by rw [he];exact ⟨CoC.agg ⟨CoP.refl _,dv,trivial⟩,CoC.refl _,trivial⟩)
 have h0:=r0
 have h0:=ae (ar h0)
 try simp only [ty] at h0
 have hck:ckE n l p m = 0:=by assumption
 obtain ⟨hT,hbe,hpa⟩:=ag5 hck
 refine kf ?_;refine a6 _ rfl (fun _=>?_) (fun e=>by cases e);refine fc ?_;refine b9 rfl rfl (fun r1=>?_) (fun r1=>?_)
 ·
  have h1:=ae r1
  try simp only [ty] at h1
  (iterate 4 refine k9 (gtf r1) ?_);refine rq rfl rfl rfl rfl rfl ?_ (hp:=r1);refine qy ?_;(iterate 5 refine k9 rfl ?_);refine w_2 ?_;(iterate 6 refine k9 rfl ?_);refine w_2 ?_;(iterate 9 refine k9 rfl ?_);refine w_2 ?_
  refine a6 _ rfl (fun _=>?_) (fun e=>by cases e);refine w_7 ?_;refine ⟨.inr rfl, ?_⟩
  have hbad:dm l p m true i a b:=by
   first
    | (unfold dm;first | exact .inl (by omega) | exact .inr (.inl (by omega)) | exact .inr (.inr (.inl (by omega))) | exact .inr (.inr (.inr (.inl (by omega)))) | exact .inr (.inr (.inr (.inr (.inl (by omega))))) | exact .inr (.inr (.inr (.inr (.inr (.inl (by omega)))))) | exact .inr (.inr (.inr (.inr (.inr (.inr (.inl ⟨rfl,by omega⟩)))))))
    | (refine (lx (a:=a) (b:=b) ?_).elim (fun hq=>?_) (fun hq=>?_) <;> first | assumption | (unfold dm;first | exact .inl (by omega) | exact .inr (.inl (by omega)) | exact .inr (.inr (.inl (by omega))) | exact .inr (.inr (.inr (.inl (by omega)))) | exact .inr (.inr (.inr (.inr (.inl (by omega))))) | exact .inr (.inr (.inr (.inr (.inr (.inl (by omega)))))) | exact .inr (.inr (.inr (.inr (.inr (.inr (.inl ⟨rfl,by omega⟩))))))))
    | (refine (lz (a:=a) (b:=b) (k:=(l.length:Int)) ?_).elim (fun hq=>?_) (fun hq=>?_) <;> first | assumption | (unfold dm;first | exact .inl (by omega) | exact .inr (.inl (by omega)) | exact .inr (.inr (.inl (by omega))) | exact .inr (.inr (.inr (.inl (by omega)))) | exact .inr (.inr (.inr (.inr (.inl (by omega))))) | exact .inr (.inr (.inr (.inr (.inr (.inl (by omega)))))) | exact .inr (.inr (.inr (.inr (.inr (.inr (.inl ⟨rfl,by omega⟩))))))))
  have he:=ko hck hbad
  exact f9 rfl rfl (by rw [he];exact ⟨CoC.agg ⟨CoP.refl _,dv,trivial⟩,CoC.refl _,trivial⟩)
 have h1:=aa r1
 try simp only [ty] at h1
 (iterate 4 refine qy ?_ (hg:=(gff r1)));refine w_2 ?_;refine b9 rfl rfl (fun r2=>?_) (fun r2=>?_)
 ·
  have h2:=r2
  have h2:=c6 r1 h2
  have h2:=ae h2
  try simp only [ty] at h2
  (iterate 5 refine k9 (gtf r2) ?_);refine rq rfl rfl rfl rfl rfl ?_ (hp:=r2);refine qy ?_;(iterate 6 refine k9 rfl ?_);refine w_2 ?_;(iterate 9 refine k9 rfl ?_);refine w_2 ?_
  refine a6 _ rfl (fun _=>?_) (fun e=>by cases e);refine w_7 ?_;refine ⟨.inr rfl, ?_⟩
  have hbad:dm l p m true i a b:=by
   first
    | (unfold dm;first | exact .inl (by omega) | exact .inr (.inl (by omega)) | exact .inr (.inr (.inl (by omega))) | exact .inr (.inr (.inr (.inl (by omega)))) | exact .inr (.inr (.inr (.inr (.inl (by omega))))) | exact .inr (.inr (.inr (.inr (.inr (.inl (by omega)))))) | exact .inr (.inr (.inr (.inr (.inr (.inr (.inl ⟨rfl,by omega⟩)))))))
    | (refine (lx (a:=a) (b:=b) ?_).elim (fun hq=>?_) (fun hq=>?_) <;> first | assumption | (unfold dm;first | exact .inl (by omega) | exact .inr (.inl (by omega)) | exact .inr (.inr (.inl (by omega))) | exact .inr (.inr (.inr (.inl (by omega)))) | exact .inr (.inr (.inr (.inr (.inl (by omega))))) | exact .inr (.inr (.inr (.inr (.inr (.inl (by omega)))))) | exact .inr (.inr (.inr (.inr (.inr (.inr (.inl ⟨rfl,by omega⟩))))))))
    | (refine (lz (a:=a) (b:=b) (k:=(l.length:Int)) ?_).elim (fun hq=>?_) (fun hq=>?_) <;> first | assumption | (unfold dm;first | exact .inl (by omega) | exact .inr (.inl (by omega)) | exact .inr (.inr (.inl (by omega))) | exact .inr (.inr (.inr (.inl (by omega)))) | exact .inr (.inr (.inr (.inr (.inl (by omega))))) | exact .inr (.inr (.inr (.inr (.inr (.inl (by omega)))))) | exact .inr (.inr (.inr (.inr (.inr (.inr (.inl ⟨rfl,by omega⟩))))))))
  have he:=ko hck hbad
  exact f9 rfl rfl (by rw [he];exact ⟨CoC.agg ⟨CoP.refl _,dv,trivial⟩,CoC.refl _,trivial⟩)
 have h2:=r2
 have h2:=c6 r1 h2
 have h2:=aa h2
 try simp only [ty] at h2
 (iterate 5 refine qy ?_ (hg:=(gff r2)));refine w_2 ?_;refine b9 rfl rfl (fun r3=>?_) (fun r3=>?_)
 ·
  have h3:=r3
  have h3:=c6 r2 h3
  have h3:=ae h3
  try simp only [ty] at h3
  (iterate 6 refine k9 (gtf r3) ?_);refine rq rfl rfl rfl rfl rfl ?_ (hp:=r3);refine qy ?_;(iterate 9 refine k9 rfl ?_);refine w_2 ?_;refine a6 _ rfl (fun _=>?_) (fun e=>by cases e);refine w_7 ?_
  refine ⟨.inr rfl, ?_⟩
  have hbad:dm l p m true i a b:=by
   first
    | (unfold dm;first | exact .inl (by omega) | exact .inr (.inl (by omega)) | exact .inr (.inr (.inl (by omega))) | exact .inr (.inr (.inr (.inl (by omega)))) | exact .inr (.inr (.inr (.inr (.inl (by omega))))) | exact .inr (.inr (.inr (.inr (.inr (.inl (by omega)))))) | exact .inr (.inr (.inr (.inr (.inr (.inr (.inl ⟨rfl,by omega⟩)))))))
    | (refine (lx (a:=a) (b:=b) ?_).elim (fun hq=>?_) (fun hq=>?_) <;> first | assumption | (unfold dm;first | exact .inl (by omega) | exact .inr (.inl (by omega)) | exact .inr (.inr (.inl (by omega))) | exact .inr (.inr (.inr (.inl (by omega)))) | exact .inr (.inr (.inr (.inr (.inl (by omega))))) | exact .inr (.inr (.inr (.inr (.inr (.inl (by omega)))))) | exact .inr (.inr (.inr (.inr (.inr (.inr (.inl ⟨rfl,by omega⟩))))))))
    | (refine (lz (a:=a) (b:=b) (k:=(l.length:Int)) ?_).elim (fun hq=>?_) (fun hq=>?_) <;> first | assumption | (unfold dm;first | exact .inl (by omega) | exact .inr (.inl (by omega)) | exact .inr (.inr (.inl (by omega))) | exact .inr (.inr (.inr (.inl (by omega)))) | exact .inr (.inr (.inr (.inr (.inl (by omega))))) | exact .inr (.inr (.inr (.inr (.inr (.inl (by omega)))))) | exact .inr (.inr (.inr (.inr (.inr (.inr (.inl ⟨rfl,by omega⟩))))))))
  have he:=ko hck hbad
  exact f9 rfl rfl (by rw [he];exact ⟨CoC.agg ⟨CoP.refl _,dv,trivial⟩,CoC.refl _,trivial⟩)
 have h3:=r3
 have h3:=c6 r2 h3
 have h3:=aa h3
 try simp only [ty] at h3
 (iterate 6 refine qy ?_ (hg:=(gff r3)));refine w_2 ?_;refine b9 rfl rfl (fun r4=>?_) (fun r4=>?_)
 ·
  have h4:=r4
  have h4:=c6 r3 h4
  have h4:=ae h4
  try simp only [ty] at h4
  (iterate 9 refine k9 (gtf r4) ?_);refine rq rfl rfl rfl rfl rfl ?_ (hp:=r4);refine ax ?_;refine a6 _ rfl (fun _=>?_) (fun e=>by cases e);refine w_7 ?_;refine ⟨.inr rfl, ?_⟩
  have hbad:dm l p m true i a b:=by
   first
    | (unfold dm;first | exact .inl (by omega) | exact .inr (.inl (by omega)) | exact .inr (.inr (.inl (by omega))) | exact .inr (.inr (.inr (.inl (by omega)))) | exact .inr (.inr (.inr (.inr (.inl (by omega))))) | exact .inr (.inr (.inr (.inr (.inr (.inl (by omega)))))) | exact .inr (.inr (.inr (.inr (.inr (.inr (.inl ⟨rfl,by omega⟩)))))))
    | (refine (lx (a:=a) (b:=b) ?_).elim (fun hq=>?_) (fun hq=>?_) <;> first | assumption | (unfold dm;first | exact .inl (by omega) | exact .inr (.inl (by omega)) | exact .inr (.inr (.inl (by omega))) | exact .inr (.inr (.inr (.inl (by omega)))) | exact .inr (.inr (.inr (.inr (.inl (by omega))))) | exact .inr (.inr (.inr (.inr (.inr (.inl (by omega)))))) | exact .inr (.inr (.inr (.inr (.inr (.inr (.inl ⟨rfl,by omega⟩))))))))
    | (refine (lz (a:=a) (b:=b) (k:=(l.length:Int)) ?_).elim (fun hq=>?_) (fun hq=>?_) <;> first | assumption | (unfold dm;first | exact .inl (by omega) | exact .inr (.inl (by omega)) | exact .inr (.inr (.inl (by omega))) | exact .inr (.inr (.inr (.inl (by omega)))) | exact .inr (.inr (.inr (.inr (.inl (by omega))))) | exact .inr (.inr (.inr (.inr (.inr (.inl (by omega)))))) | exact .inr (.inr (.inr (.inr (.inr (.inr (.inl ⟨rfl,by omega⟩))))))))
  have he:=ko hck hbad
  exact f9 rfl rfl (by rw [he];exact ⟨CoC.agg ⟨CoP.refl _,dv,trivial⟩,CoC.refl _,trivial⟩)
 have h4:=r4
 have h4:=c6 r3 h4
 have h4:=aa h4
 try simp only [ty] at h4
 (iterate 9 refine qy ?_ (hg:=(gff r4)));refine w_2 ?_;refine a6 _ rfl (fun r5=>?_) (fun r5=>?_)
 ·
  have h5:=r5
  have h5:=c6 r4 h5
  have h5:=ae h5
  try simp only [ty] at h5
  refine w_7 ?_;refine ⟨.inr rfl, ?_⟩
  have hbad:dm l p m true i a b:=by
   first
    | (unfold dm;first | exact .inl (by omega) | exact .inr (.inl (by omega)) | exact .inr (.inr (.inl (by omega))) | exact .inr (.inr (.inr (.inl (by omega)))) | exact .inr (.inr (.inr (.inr (.inl (by omega))))) | exact .inr (.inr (.inr (.inr (.inr (.inl (by omega)))))) | exact .inr (.inr (.inr (.inr (.inr (.inr (.inl ⟨rfl,by omega⟩)))))))
    | (refine (lx (a:=a) (b:=b) ?_).elim (fun hq=>?_) (fun hq=>?_) <;> first | assumption | (unfold dm;first | exact .inl (by omega) | exact .inr (.inl (by omega)) | exact .inr (.inr (.inl (by omega))) | exact .inr (.inr (.inr (.inl (by omega)))) | exact .inr (.inr (.inr (.inr (.inl (by omega))))) | exact .inr (.inr (.inr (.inr (.inr (.inl (by omega)))))) | exact .inr (.inr (.inr (.inr (.inr (.inr (.inl ⟨rfl,by omega⟩))))))))
    | (refine (lz (a:=a) (b:=b) (k:=(l.length:Int)) ?_).elim (fun hq=>?_) (fun hq=>?_) <;> first | assumption | (unfold dm;first | exact .inl (by omega) | exact .inr (.inl (by omega)) | exact .inr (.inr (.inl (by omega))) | exact .inr (.inr (.inr (.inl (by omega)))) | exact .inr (.inr (.inr (.inr (.inl (by omega))))) | exact .inr (.inr (.inr (.inr (.inr (.inl (by omega)))))) | exact .inr (.inr (.inr (.inr (.inr (.inr (.inl ⟨rfl,by omega⟩))))))))
  have he:=ko hck hbad
  exact f9 rfl rfl (by rw [he];exact ⟨CoC.agg ⟨CoP.refl _,dv,trivial⟩,CoC.refl _,trivial⟩)
 have h5:=r5
 have h5:=c6 r4 h5
 have h5:=aa h5
 try simp only [ty] at h5
 refine w_2 ?_
 obtain ⟨ha0,hb0⟩:=as9 (a:=a) (b:=b) (by assumption)
 obtain ⟨hal,hbl⟩:=aq0 (a:=a) (b:=b) (k:=(l.length:Int)) (by assumption)
 have hnb:¬ dm l p m true i a b:=by
  unfold dm
  rintro (h | h | h | h | h | h | ⟨h,h2⟩ | ⟨h,h2⟩) <;> first | omega | cases h
 have ha:a.toNat < l.length:=by omega
 have hb:b.toNat < l.length:=by omega
 have hi:i.toNat < m.length:=by omega
 refine w_5 ?_
 refine rc rfl rfl rfl rfl rfl rfl abr (aip n l p m i.toNat a.toNat b.toNat hT ha hb hi) (⟨CoC.refl _,CoC.refl _,CoC.refl _,CoC.agg ⟨CoP.refl _,CoP.of_eq (by rw [Int.toNat_of_nonneg (by omega)]),CoP.of_eq (by rw [Int.toNat_of_nonneg (by omega)]),CoP.of_eq (by rw [Int.toNat_of_nonneg (by omega)]),trivial⟩,trivial⟩) rfl rfl ?_
 refine w_6 ?_;refine ⟨.inr rfl, ?_⟩
 have he:=a6s (n:=n) (i:=i) (a:=a) (b:=b) hck hnb
 exact f9 rfl rfl (by rw [he];exact CoL.refl _)
theorem ave (n:Int) (l:List Rw) (p m:List Fd) (i a b:Int):af Tryz.prog 129 [pT n l,pP (fdl p),pP (fdl m), .agg [.raw (.bool false), .raw (.int .i64 i), .raw (.int .i64 a), .raw (.int .i64 b)]] (aj [pT (jy n l p m false i a b).1 (jy n l p m false i a b).2.1,pI (jy n l p m false i a b).2.2]):=by
 refine a8 (nt:=69) a7 Tryz.func129 rfl rfl l9 ?_;refine sx7 ?_;refine m9 0 ?_;refine m9 1 ?_;refine m9 2 ?_;refine w_8 ?_;refine qcx abh (a81 n l p m) ?_;refine w_7 ?_
 refine a6 _ rfl (fun r0=>?_) (fun r0=>?_)
 ·
  have h0:=r0
  have h0:=aa (au h0)
  try simp only [ty] at h0
  refine w_8 ?_;refine ⟨.inr rfl, ?_⟩
  have he:=aea (n:=n) (l:=l) (p:=p) (m:=m) (mu:=false) (i:=i) (a:=a) (b:=b) (by assumption)
  exact f9 rfl rfl (by rw [he];exact ⟨CoC.agg ⟨CoP.refl _,dv,trivial⟩,CoC.refl _,trivial⟩)
 have h0:=r0
 have h0:=ae (ar h0)
 try simp only [ty] at h0
 have hck:ckE n l p m = 0:=by assumption
 obtain ⟨hT,hbe,hpa⟩:=ag5 hck
 refine kf ?_;refine a6 _ rfl (fun e=>by cases e) (fun _=>?_);refine w_8 ?_;refine b9 rfl rfl (fun r1=>?_) (fun r1=>?_)
 ·
  have h1:=ae r1
  try simp only [ty] at h1
  (iterate 4 refine k9 (gtf r1) ?_);refine rq rfl rfl rfl rfl rfl ?_ (hp:=r1);refine qy ?_;(iterate 5 refine k9 rfl ?_);refine w_2 ?_;(iterate 6 refine k9 rfl ?_);refine w_2 ?_;(iterate 9 refine k9 rfl ?_);refine w_2 ?_
  refine a6 _ rfl (fun _=>?_) (fun e=>by cases e);refine w_7 ?_;refine ⟨.inr rfl, ?_⟩
  have hbad:dm l p m false i a b:=by
   first
    | (unfold dm;first | exact .inl (by omega) | exact .inr (.inl (by omega)) | exact .inr (.inr (.inl (by omega))) | exact .inr (.inr (.inr (.inl (by omega)))) | exact .inr (.inr (.inr (.inr (.inl (by omega))))) | exact .inr (.inr (.inr (.inr (.inr (.inl (by omega)))))) | exact .inr (.inr (.inr (.inr (.inr (.inr (.inr ⟨rfl,by omega⟩)))))))
    | (refine (lx (a:=a) (b:=b) ?_).elim (fun hq=>?_) (fun hq=>?_) <;> first | assumption | (unfold dm;first | exact .inl (by omega) | exact .inr (.inl (by omega)) | exact .inr (.inr (.inl (by omega))) | exact .inr (.inr (.inr (.inl (by omega)))) | exact .inr (.inr (.inr (.inr (.inl (by omega))))) | exact .inr (.inr (.inr (.inr (.inr (.inl (by omega)))))) | exact .inr (.inr (.inr (.inr (.inr (.inr (.inr ⟨rfl,by omega⟩))))))))
    | (refine (lz (a:=a) (b:=b) (k:=(l.length:Int)) ?_).elim (fun hq=>?_) (fun hq=>?_) <;> first | assumption | (unfold dm;first | exact .inl (by omega) | exact .inr (.inl (by omega)) | exact .inr (.inr (.inl (by omega))) | exact .inr (.inr (.inr (.inl (by omega)))) | exact .inr (.inr (.inr (.inr (.inl (by omega))))) | exact .inr (.inr (.inr (.inr (.inr (.inl (by omega)))))) | exact .inr (.inr (.inr (.inr (.inr (.inr (.inr ⟨rfl,by omega⟩))))))))
  have he:=ko hck hbad
  exact f9 rfl rfl (by rw [he];exact ⟨CoC.agg ⟨CoP.refl _,dv,trivial⟩,CoC.refl _,trivial⟩)
 have h1:=aa r1
 try simp only [ty] at h1
 (iterate 4 refine qy ?_ (hg:=(gff r1)));refine w_2 ?_;refine b9 rfl rfl (fun r2=>?_) (fun r2=>?_)
 ·
  have h2:=r2
  have h2:=c6 r1 h2
  have h2:=ae h2
  try simp only [ty] at h2
  (iterate 5 refine k9 (gtf r2) ?_);refine rq rfl rfl rfl rfl rfl ?_ (hp:=r2);refine qy ?_;(iterate 6 refine k9 rfl ?_);refine w_2 ?_;(iterate 9 refine k9 rfl ?_);refine w_2 ?_
  refine a6 _ rfl (fun _=>?_) (fun e=>by cases e);refine w_7 ?_;refine ⟨.inr rfl, ?_⟩
  have hbad:dm l p m false i a b:=by
   first
    | (unfold dm;first | exact .inl (by omega) | exact .inr (.inl (by omega)) | exact .inr (.inr (.inl (by omega))) | exact .inr (.inr (.inr (.inl (by omega)))) | exact .inr (.inr (.inr (.inr (.inl (by omega))))) | exact .inr (.inr (.inr (.inr (.inr (.inl (by omega)))))) | exact .inr (.inr (.inr (.inr (.inr (.inr (.inr ⟨rfl,by omega⟩)))))))
    | (refine (lx (a:=a) (b:=b) ?_).elim (fun hq=>?_) (fun hq=>?_) <;> first | assumption | (unfold dm;first | exact .inl (by omega) | exact .inr (.inl (by omega)) | exact .inr (.inr (.inl (by omega))) | exact .inr (.inr (.inr (.inl (by omega)))) | exact .inr (.inr (.inr (.inr (.inl (by omega))))) | exact .inr (.inr (.inr (.inr (.inr (.inl (by omega)))))) | exact .inr (.inr (.inr (.inr (.inr (.inr (.inr ⟨rfl,by omega⟩))))))))
    | (refine (lz (a:=a) (b:=b) (k:=(l.length:Int)) ?_).elim (fun hq=>?_) (fun hq=>?_) <;> first | assumption | (unfold dm;first | exact .inl (by omega) | exact .inr (.inl (by omega)) | exact .inr (.inr (.inl (by omega))) | exact .inr (.inr (.inr (.inl (by omega)))) | exact .inr (.inr (.inr (.inr (.inl (by omega))))) | exact .inr (.inr (.inr (.inr (.inr (.inl (by omega)))))) | exact .inr (.inr (.inr (.inr (.inr (.inr (.inr ⟨rfl,by omega⟩))))))))
  have he:=ko hck hbad
  exact f9 rfl rfl (by rw [he];exact ⟨CoC.agg ⟨CoP.refl _,dv,trivial⟩,CoC.refl _,trivial⟩)
 have h2:=r2
 have h2:=c6 r1 h2
 have h2:=aa h2
 try simp only [ty] at h2
 (iterate 5 refine qy ?_ (hg:=(gff r2)));refine w_2 ?_;refine b9 rfl rfl (fun r3=>?_) (fun r3=>?_)
 ·
  have h3:=r3
  have h3:=c6 r2 h3
  have h3:=ae h3
  try simp only [ty] at h3
  (iterate 6 refine k9 (gtf r3) ?_);refine rq rfl rfl rfl rfl rfl ?_ (hp:=r3);refine qy ?_;(iterate 9 refine k9 rfl ?_);refine w_2 ?_;refine a6 _ rfl (fun _=>?_) (fun e=>by cases e);refine w_7 ?_
  refine ⟨.inr rfl, ?_⟩
  have hbad:dm l p m false i a b:=by
   first
    | (unfold dm;first | exact .inl (by omega) | exact .inr (.inl (by omega)) | exact .inr (.inr (.inl (by omega))) | exact .inr (.inr (.inr (.inl (by omega)))) | exact .inr (.inr (.inr (.inr (.inl (by omega))))) | exact .inr (.inr (.inr (.inr (.inr (.inl (by omega)))))) | exact .inr (.inr (.inr (.inr (.inr (.inr (.inr ⟨rfl,by omega⟩)))))))
    | (refine (lx (a:=a) (b:=b) ?_).elim (fun hq=>?_) (fun hq=>?_) <;> first | assumption | (unfold dm;first | exact .inl (by omega) | exact .inr (.inl (by omega)) | exact .inr (.inr (.inl (by omega))) | exact .inr (.inr (.inr (.inl (by omega)))) | exact .inr (.inr (.inr (.inr (.inl (by omega))))) | exact .inr (.inr (.inr (.inr (.inr (.inl (by omega)))))) | exact .inr (.inr (.inr (.inr (.inr (.inr (.inr ⟨rfl,by omega⟩))))))))
    | (refine (lz (a:=a) (b:=b) (k:=(l.length:Int)) ?_).elim (fun hq=>?_) (fun hq=>?_) <;> first | assumption | (unfold dm;first | exact .inl (by omega) | exact .inr (.inl (by omega)) | exact .inr (.inr (.inl (by omega))) | exact .inr (.inr (.inr (.inl (by omega)))) | exact .inr (.inr (.inr (.inr (.inl (by omega))))) | exact .inr (.inr (.inr (.inr (.inr (.inl (by omega)))))) | exact .inr (.inr (.inr (.inr (.inr (.inr (.inr ⟨rfl,by omega⟩))))))))
  have he:=ko hck hbad
  exact f9 rfl rfl (by rw [he];exact ⟨CoC.agg ⟨CoP.refl _,dv,trivial⟩,CoC.refl _,trivial⟩)
 have h3:=r3
 have h3:=c6 r2 h3
 have h3:=aa h3
 try simp only [ty] at h3
 (iterate 6 refine qy ?_ (hg:=(gff r3)));refine w_2 ?_;refine b9 rfl rfl (fun r4=>?_) (fun r4=>?_)
 ·
  have h4:=r4
  have h4:=c6 r3 h4
  have h4:=ae h4
  try simp only [ty] at h4
  (iterate 9 refine k9 (gtf r4) ?_);refine rq rfl rfl rfl rfl rfl ?_ (hp:=r4);refine ax ?_;refine a6 _ rfl (fun _=>?_) (fun e=>by cases e);refine w_7 ?_;refine ⟨.inr rfl, ?_⟩
  have hbad:dm l p m false i a b:=by
   first
    | (unfold dm;first | exact .inl (by omega) | exact .inr (.inl (by omega)) | exact .inr (.inr (.inl (by omega))) | exact .inr (.inr (.inr (.inl (by omega)))) | exact .inr (.inr (.inr (.inr (.inl (by omega))))) | exact .inr (.inr (.inr (.inr (.inr (.inl (by omega)))))) | exact .inr (.inr (.inr (.inr (.inr (.inr (.inr ⟨rfl,by omega⟩)))))))
    | (refine (lx (a:=a) (b:=b) ?_).elim (fun hq=>?_) (fun hq=>?_) <;> first | assumption | (unfold dm;first | exact .inl (by omega) | exact .inr (.inl (by omega)) | exact .inr (.inr (.inl (by omega))) | exact .inr (.inr (.inr (.inl (by omega)))) | exact .inr (.inr (.inr (.inr (.inl (by omega))))) | exact .inr (.inr (.inr (.inr (.inr (.inl (by omega)))))) | exact .inr (.inr (.inr (.inr (.inr (.inr (.inr ⟨rfl,by omega⟩))))))))
    | (refine (lz (a:=a) (b:=b) (k:=(l.length:Int)) ?_).elim (fun hq=>?_) (fun hq=>?_) <;> first | assumption | (unfold dm;first | exact .inl (by omega) | exact .inr (.inl (by omega)) | exact .inr (.inr (.inl (by omega))) | exact .inr (.inr (.inr (.inl (by omega)))) | exact .inr (.inr (.inr (.inr (.inl (by omega))))) | exact .inr (.inr (.inr (.inr (.inr (.inl (by omega)))))) | exact .inr (.inr (.inr (.inr (.inr (.inr (.inr ⟨rfl,by omega⟩))))))))
  have he:=ko hck hbad
  exact f9 rfl rfl (by rw [he];exact ⟨CoC.agg ⟨CoP.refl _,dv,trivial⟩,CoC.refl _,trivial⟩)
 have h4:=r4
 have h4:=c6 r3 h4
 have h4:=aa h4
 try simp only [ty] at h4
 (iterate 9 refine qy ?_ (hg:=(gff r4)));refine w_2 ?_;refine a6 _ rfl (fun r5=>?_) (fun r5=>?_)
 ·
  have h5:=r5
  have h5:=c6 r4 h5
  have h5:=ae h5
  try simp only [ty] at h5
  refine w_7 ?_;refine ⟨.inr rfl, ?_⟩
  have hbad:dm l p m false i a b:=by
   first
    | (unfold dm;first | exact .inl (by omega) | exact .inr (.inl (by omega)) | exact .inr (.inr (.inl (by omega))) | exact .inr (.inr (.inr (.inl (by omega)))) | exact .inr (.inr (.inr (.inr (.inl (by omega))))) | exact .inr (.inr (.inr (.inr (.inr (.inl (by omega)))))) | exact .inr (.inr (.inr (.inr (.inr (.inr (.inr ⟨rfl,by omega⟩)))))))
    | (refine (lx (a:=a) (b:=b) ?_).elim (fun hq=>?_) (fun hq=>?_) <;> first | assumption | (unfold dm;first | exact .inl (by omega) | exact .inr (.inl (by omega)) | exact .inr (.inr (.inl (by omega))) | exact .inr (.inr (.inr (.inl (by omega)))) | exact .inr (.inr (.inr (.inr (.inl (by omega))))) | exact .inr (.inr (.inr (.inr (.inr (.inl (by omega)))))) | exact .inr (.inr (.inr (.inr (.inr (.inr (.inr ⟨rfl,by omega⟩))))))))
    | (refine (lz (a:=a) (b:=b) (k:=(l.length:Int)) ?_).elim (fun hq=>?_) (fun hq=>?_) <;> first | assumption | (unfold dm;first | exact .inl (by omega) | exact .inr (.inl (by omega)) | exact .inr (.inr (.inl (by omega))) | exact .inr (.inr (.inr (.inl (by omega)))) | exact .inr (.inr (.inr (.inr (.inl (by omega))))) | exact .inr (.inr (.inr (.inr (.inr (.inl (by omega)))))) | exact .inr (.inr (.inr (.inr (.inr (.inr (.inr ⟨rfl,by omega⟩))))))))
  have he:=ko hck hbad
  exact f9 rfl rfl (by rw [he];exact ⟨CoC.agg ⟨CoP.refl _,dv,trivial⟩,CoC.refl _,trivial⟩)
 have h5:=r5
 have h5:=c6 r4 h5
 have h5:=aa h5
 try simp only [ty] at h5
 refine w_2 ?_
 obtain ⟨ha0,hb0⟩:=as9 (a:=a) (b:=b) (by assumption)
 obtain ⟨hal,hbl⟩:=aq0 (a:=a) (b:=b) (k:=(l.length:Int)) (by assumption)
 have hnb:¬ dm l p m false i a b:=by
  unfold dm
  rintro (h | h | h | h | h | h | ⟨h,h2⟩ | ⟨h,h2⟩) <;> first | omega | cases h
 have ha:a.toNat < l.length:=by omega
 have hb:b.toNat < l.length:=by omega
 have hi:i.toNat < p.length:=by omega
 refine w_5 ?_
 refine rc rfl rfl rfl rfl rfl rfl abr (aj6 n l p m i.toNat a.toNat b.toNat hT ha hb hi (List.all_eq_true.1 hpa _ (cu hi))) (⟨CoC.refl _,CoC.refl _,CoC.refl _,CoC.agg ⟨CoP.refl _,CoP.of_eq (by rw [Int.toNat_of_nonneg (by omega)]),CoP.of_eq (by rw [Int.toNat_of_nonneg (by omega)]),CoP.of_eq (by rw [Int.toNat_of_nonneg (by omega)]),trivial⟩,trivial⟩) rfl rfl ?_
 refine w_6 ?_;refine ⟨.inr rfl, ?_⟩
 have he:=a6s (n:=n) (i:=i) (a:=a) (b:=b) hck hnb
 exact f9 rfl rfl (by rw [he];exact CoL.refl _)
end
section
open Go.Proofs
abbrev Rcp.fs (d:Rcp) (k:Nat):List Fd:=d.f.map (Dp.fd (d.num k))
abbrev Rcp.ms (d:Rcp) (k:Nat):List Fd:=d.m.map (Dp.fd (d.num k))
abbrev Rcp.ps (d:Rcp) (k:Nat):List AS:=d.p.map (u8S (d.num k))
abbrev Rcp.t0 (d:Rcp) (k:Nat):List Rw:=c5 (cj (d.num k) (d.ps k))
section
variable {n:Int} {p m:List Fd} {l0 l:List Rw}
end
theorem b0x (n:Int) (l:List Rw) (p m:List Fd) (mu:Bool) (i a b:Int):af Tryz.prog 129 [pT n l,pP (fdl p),pP (fdl m), .agg [.raw (.bool mu), .raw (.int .i64 i), .raw (.int .i64 a), .raw (.int .i64 b)]] (aj [pT (jy n l p m mu i a b).1 (jy n l p m mu i a b).2.1,pI (jy n l p m mu i a b).2.2]):=by
 cases mu with
 | false=>exact ave n l p m i a b
 | true=>exact auf n l p m i a b
theorem ark {n:Int} {l:List Rw} {p m:List Fd} {s:St} (hT:tok n l = true) (hb:d9 n p m = 0) (h:y7 l p m s):jy n l p m s.1 s.2.1 s.2.2.1 s.2.2.2 = ez n l p m s:=by
 obtain ⟨mu,i,a,b⟩:=s
 have hck:ckE n l p m = 0:=(if_pos hT).trans hb
 obtain ⟨ha,hbb,h⟩:=h
 have ha:a < l.length:=ha
 have hbb:b < l.length:=hbb
 have hne:¬ a = b:=by
  rintro rfl
  rcases h with ⟨_,_,h⟩ | ⟨_,_,h⟩
  · rw [show gt l (p.getD i default) a a = false from amg] at h;cases h
  rw [show gr l (m.getD i default) a a = false from amk ha] at h;cases h
 show jy n l p m mu (i:Int) (a:Int) (b:Int) = _
 rw [a6s hck]
 · rfl
 unfold dm
 rcases h with ⟨h1,h2,_⟩ | ⟨h1,h2,_⟩
 · have h1:mu = false:=h1
   subst h1
   have h2:i < p.length:=h2
   rintro (h | h | h | h | h | h | ⟨h,h3⟩ | ⟨h,h3⟩) <;> first | omega | cases h
 have h1:mu = true:=h1
 subst h1
 have h2:i < m.length:=h2
 rintro (h | h | h | h | h | h | ⟨h,h3⟩ | ⟨h,h3⟩) <;> first | omega | cases h
theorem ary (n:Int) (l:List Rw) (p m:List Fd) (s:St) (hT:tok n l = true) (hb:d9 n p m = 0) (h:y7 l p m s) (he:ez n l p m s = (n,(ez n l p m s).2.1,0)):af Tryz.prog 129 [pT n l,pP (fdl p),pP (fdl m),s.pc] (aj [pT n (ez n l p m s).2.1,pI 0]):=by
 have:=b0x n l p m s.1 s.2.1 s.2.2.1 s.2.2.2
 rw [ark hT hb h,he] at this
 exact this
end
section
abbrev Bs:=ByteArray
def bsC:Bs → Nat → PV:=fun b _=>.raw (.string b)
abbrev bsl (l:List Bs):PV:=psl 1 bsC l
abbrev pS (b:Bs):PC:=.one (.raw (.string b))
abbrev vS (b:Bs):HR:=bp (.raw (.string b))
def byC:UInt8 → Nat → PV:=fun x _=>.raw (.int .u8 (x.toNat:Int))
abbrev byl (b:Bs):PV:=psl 1 byC b.data.toList
abbrev pU8 (x:UInt8):PC:=.one (.raw (.int .u8 (x.toNat:Int)))
theorem coN {α:Type} [Inhabited α] {s:Nat} {c:α → Nat → PV} {f:Nat → Nat → PV}:CoP (.sl 0 0 true f) (psl s c []):=CoP.sl rfl (.inr rfl) (fun h=>by cases h) fun i j hi _=>absurd hi (Nat.not_lt_zero i)
def a4b (x:UInt8):Bool:=decide ((x.toNat:Int) ≤ 32) || decide ((x.toNat:Int) = 127)
def j2 (l:List Bs) (i:Nat):Bool:=decide (l.getD i default = ⟨#[]⟩) || ((l.getD i default).data.toList.any a4b || (l.take i).any fun x=>decide (x = l.getD i default))
def j6 (l:List Bs):Int:=if 16 < l.length then 3 else if (List.range l.length).any (j2 l) = true then 1 else 0
theorem a7e {l:List Bs} {i:Nat} (h0:¬ (16:Int) < l.length) (hi:i < l.length) (h:j2 l i = true):j6 l = 1:=by
 unfold j6
 rw [if_neg (by omega),if_pos (List.any_eq_true.2 ⟨i,List.mem_range.2 hi,h⟩)]
theorem b63 {l:List Bs} (h0:¬ (16:Int) < l.length) (h:∀ j,j < l.length → j2 l j = false):j6 l = 0:=by
 unfold j6
 rw [if_neg (by omega),if_neg]
 rw [Bool.not_eq_true,List.any_eq_false]
 intro j hj
 rw [h j (List.mem_range.1 hj)]
 exact Bool.false_ne_true
theorem b4v {l:List Bs} (h:(16:Int) < l.length):j6 l = 3:=if_pos (by omega)
def bOf (l:List UInt8):Bs:=⟨l.toArray⟩
abbrev bL (b:Bs):List UInt8:=b.data.toList
theorem amu (b:Bs):bOf (bL b) = b:=by
 cases b
 simp [bOf]
theorem v8 (l:List UInt8):bL (bOf l) = l:=by simp [bOf]
def lq (l:List Bs) (sep:Bs):Bs:=bOf (Lib.join (l.map bL) (bL sep))
def o5 (l:List Bs) (s:AS):List Bs:=(ap s).map fun i=>l.getD i default
def txT (l:List Bs) (s:AS):Bs:=if (o5 l s).length = 0 then ⟨#[45]⟩ else lq (o5 l s) ⟨#[44]⟩
def szB (l:List Bs):Nat:=(l.map ByteArray.size).sum
theorem aa0 (b:Bs):(bL b).length = b.size:=rfl
theorem aev (l:List Bs) (sep:List UInt8):(Lib.join (l.map bL) sep).length ≤ szB l + sep.length * l.length:=by
 cases l with
 | nil=>simp [Lib.join_nil]
 | cons x r =>
  rw [List.map_cons,Lib.join_cons,List.length_append,Lib.joinTail_length]
  have:Lib.lens (r.map bL) = szB r:=by
   unfold Lib.lens szB
   rw [List.map_map]
   rfl
  rw [this,List.length_map]
  have h2:szB (x :: r) = x.size + szB r:=by simp [szB]
  rw [h2,aa0,List.length_cons,Nat.mul_succ]
  omega
theorem aef {l:List Bs} {s:AS} {m:Nat} (h:∀ b ∈ l,b.size ≤ m):szB (o5 l s) ≤ m * 32:=by
 have key:∀ q:List Nat,szB (q.map fun i=>l.getD i default) ≤ m * q.length:=by
  intro q
  induction q with
  | nil=>simp [szB]
  | cons i q ih =>
   have h1:(l.getD i default).size ≤ m:=by
    rw [List.getD_eq_getElem?_getD]
    cases hi:l[i]? with
    | none=>exact Nat.zero_le _
    | some b=>exact h b (List.mem_of_getElem? hi)
   have h2:szB ((i :: q).map fun i=>l.getD i default) = (l.getD i default).size + szB (q.map fun i=>l.getD i default):=by simp [szB]
   rw [h2,List.length_cons,Nat.mul_succ]
   omega
 exact Nat.le_trans (key _) (Nat.mul_le_mul_left _ (lg s))
theorem b3f {l:List Bs} {s:AS} {m:Nat} (h:∀ b ∈ l,b.size ≤ m):(txT l s).size ≤ m * 32 + 33:=by
 unfold txT
 split
 · show 1 ≤ _
   omega
 show (bOf _).size ≤ _
 have h1:=aev (o5 l s) [44]
 have h2:=aef (s:=s) h
 have h3:(o5 l s).length ≤ 32:=by unfold o5;rw [List.length_map];exact lg s
 have h4:(bOf (Lib.join ((o5 l s).map bL) (bL ⟨#[44]⟩))).size = (Lib.join ((o5 l s).map bL) [44]).length:=rfl
 rw [h4]
 simp only [List.length_singleton,Nat.one_mul] at h1
 omega
end
section
open Go.Proofs Go.Proofs.YtkkenjdfbojdlaaGreatDoor
open Go.RowKit Go.ChangeShapes Go.WideShapes Go.ChangeAt
theorem rd5:Rd Tryz.prog 5 1 u8C:=(b9n Tryz.underlying5).co (fun u=>u.toBitVec) fun a j hj=>CoP.refl _
theorem bbw:RdB Tryz.prog 113 2 Dp.c fun _ _=>True:=by
 intro H enc w sp held fuel cs x h
 obtain ⟨hl,n,hf⟩:=auw Tryz.underlying113 h
 obtain ⟨y0,e0⟩:=hf 0 (by omega)
 obtain ⟨y1,e1⟩:=hf 1 (by omega)
 have hc:Tryz.prog.cellsOf 5 = 1:=by kernel_rfl
 obtain ⟨a0,_,h0⟩:=qn (off:=0) (fun _ _ _ _ _=>trivial) rd5.toB (by simpa using e0)
 obtain ⟨a1,_,h1⟩:=qn (off:=1) (fun _ _ _ _ _=>trivial) rd5.toB (by simpa [hc] using e1)
 refine ⟨hl.trans (by kernel_rfl),(⟨a0,a1⟩:Dp),trivial,fun j hj=>?_⟩
 match j,hj with
 | 0,_=>exact h0 0 (by omega)
 | 1,_=>exact h1 0 (by omega)
theorem b7k:RdB Tryz.prog 22 1 (an9 2 Dp.c) fun b l=>l.length ≤ b :=
 (a2b (B:=fun _ _=>True) (fun _ _ _ _ _=>trivial) Tryz.underlying22 (by kernel_rfl) (by omega) bbw).co id (fun b a h=>h.1) fun a j hj=>CoP.refl _
theorem bc9:RdB Tryz.prog 23 1 (an9 1 u8C) fun b l=>l.length ≤ b :=
 (a2b (B:=fun _ _=>True) (fun _ _ _ _ _=>trivial) Tryz.underlying23 (by kernel_rfl) (by omega) rd5.toB).co id (fun b a h=>h.1) fun a j hj=>CoP.refl _
abbrev Rcp.c (d:Rcp):Nat → PV:=fun j=>[.raw (.int .u8 (d.n.toNat:Int)),dpl d.f,dpl d.m,psl 1 u8C d.p].getD j .any
theorem bbv:RdB Tryz.prog 25 4 Rcp.c fun b d=>d.f.length ≤ b ∧ d.m.length ≤ b ∧ d.p.length ≤ b:=by
 intro H enc w sp held fuel cs x h
 obtain ⟨hl,n,hf⟩:=amm Tryz.underlying25 h
 obtain ⟨y0,e0⟩:=hf 0 _ rfl
 obtain ⟨y1,e1⟩:=hf 1 _ rfl
 obtain ⟨y2,e2⟩:=hf 2 _ rfl
 obtain ⟨y3,e3⟩:=hf 3 _ rfl
 obtain ⟨a0,_,h0⟩:=qn (fun _ _ _ _ _=>trivial) rd5.toB e0
 obtain ⟨a1,b1,h1⟩:=qn (B:=fun b (l:List Dp)=>l.length ≤ b) (fun _ _ _ h k=>Nat.le_trans k h) b7k e1
 obtain ⟨a2,b2,h2⟩:=qn (B:=fun b (l:List Dp)=>l.length ≤ b) (fun _ _ _ h k=>Nat.le_trans k h) b7k e2
 obtain ⟨a3,b3,h3⟩:=qn (B:=fun b (l:List (BitVec 8))=>l.length ≤ b) (fun _ _ _ h k=>Nat.le_trans k h) bc9 e3
 refine ⟨hl.trans (by kernel_rfl),(⟨a0,a1,a2,a3⟩:Rcp),⟨b1,b2,b3⟩,fun j hj=>?_⟩
 match j,hj with
 | 0,_=>exact h0 0 (by omega)
 | 1,_=>exact h1 0 (by omega)
 | 2,_=>exact h2 0 (by omega)
 | 3,_=>exact h3 0 (by omega)
theorem ba9:RdB Tryz.prog 57 1 (an9 1 bsC) fun b l=>l.length ≤ b ∧ ∀ x ∈ l,x.size ≤ b :=
 (a2b (B:=fun b (s:Bs)=>s.size ≤ b) (fun _ _ _ h k=>Nat.le_trans k h) Tryz.underlying57 (by kernel_rfl) (by omega) (ala Tryz.underlying9)).co id (fun b a h=>⟨h.1,fun x (hx:x ∈ a)=>by
  obtain ⟨i,hi,he⟩:=List.getElem_of_mem hx
  have h2:=h.2 i hi
  have e:a.getD i default = x:=by rw [List.getD_eq_getElem?_getD,List.getElem?_eq_getElem hi];exact he
  rw [e] at h2
  exact h2⟩) fun a j hj=>CoP.refl _
theorem b9p:Tryz.prog.readableRec 25 = true ∧ 25 < Tryz.prog.types.size:=⟨by kernel_rfl,of_decide_eq_true (by kernel_rfl)⟩
theorem b8h:Tryz.prog.readableRec 57 = true ∧ 57 < Tryz.prog.types.size:=⟨by kernel_rfl,of_decide_eq_true (by kernel_rfl)⟩
end
section
def a7l (l:List Fd) (ps:List AS) (z:AS):AS:=match ps.find? (ek l z) with | none=>z | some p=>z ||| nn l p z
theorem aop {l:List Fd} {p z:AS}:sub (clo l (z &&& p) &&& p) z ↔ ek l z p = false:=by
 unfold ek nn sub
 rw [BitVec.and_comm (clo l (z &&& p)) p,decide_eq_false_iff_not,Ne,Decidable.not_not]
theorem b91 (z a:AS):z ||| a = z ||| (a &&& ~~~z):=by
 apply BitVec.eq_of_getLsbD_eq
 intro i hi
 simp only [BitVec.getLsbD_or,BitVec.getLsbD_and,BitVec.getLsbD_not,decide_eq_true hi]
 cases z.getLsbD i <;> cases a.getLsbD i <;> rfl
theorem bcd {l:List Fd} {ps:List AS} {z:AS} {i:Nat} (hi:i < ps.length) (hI:∀ j,j < i → ek l z (ps.getD j default) = false) (h:ek l z (ps.getD i default) = true) :
 idx (ek l z) ps = (i:Int) ∧ a7l l ps z = z ||| (clo l (z &&& ps.getD i default) &&& ps.getD i default):=by
 refine ⟨qt hi hI h, ?_⟩
 unfold a7l
 rw [a9c hi hI h,b91 z (clo l (z &&& ps.getD i default) &&& ps.getD i default),BitVec.and_comm (clo l (z &&& ps.getD i default))]
 rfl
theorem bc8 {l:List Fd} {ps:List AS} {z:AS} (hI:∀ j,j < ps.length → ek l z (ps.getD j default) = false):idx (ek l z) ps = -1 ∧ a7l l ps z = z:=by
 refine ⟨re hI, ?_⟩
 unfold a7l
 rw [ag6 hI]
theorem ba4 {l:List Fd} {ps:List AS} {z:AS} {i:Nat} (hi:i < ps.length) (h:ek l z (ps.getD i default) = true) (hI:∀ j,j < i → ek l z (ps.getD j default) = false):a7l l ps z = z ||| nn l (ps.getD i default) z:=by
 unfold a7l
 rw [a9c hi hI h]
end
section
open Go.Proofs
theorem azd:goodFn Tryz.prog 209:=wgx Tryz.func209
theorem ar1 (l:List Fd) (ps:List AS) (z:AS):af Tryz.prog 209 [pP (fdl l),pP (asl ps),pA z] (aj [pI (idx (ek l z) ps),pA (a7l l ps z)]):=by
 refine a8 (nt:=38) a7 Tryz.func209 rfl rfl l9 ?_;refine w_7 ?_
 refine dg 1 rfl fun hbt=>?_
 refine w_4 ?_
 refine ah (ι:=Nat) ⟨[(0,some _),(1,some _),(2,some _)],[]⟩ ⟨⟨c9,c9,c9,trivial⟩,trivial⟩ (fun i=>⟨[(8,some (vI i))],[]⟩) (fun i=>i ≤ ps.length ∧ ∀ j,j < i → ek l z (ps.getD j default) = false) (fun i=>ps.length - i) (0) (⟨Nat.zero_le _,fun j hj=>absurd hj (Nat.not_lt_zero j)⟩) ⟨⟨zy,trivial⟩,trivial⟩ ?_
 rintro i ⟨hi,hI⟩
 refine w_8 ?_;refine a6 _ rfl (fun r0=>?_) (fun r0=>?_)
 ·
  have h0:=ae r0
  try simp only [ty] at h0
  refine w_4 ?_;refine bg (E:=bj) a7 aw [0,1,2,3,4,5,6,7,8,9,10,11,12,13] ?_;refine w_7 ?_
  refine rc rfl rfl rfl rfl rfl rfl ajs (ajh l (z &&& (ps.getD i default))) (⟨CoC.refl _,cci (gl _ _),trivial⟩) rfl rfl ?_;refine w_7 ?_;refine ⟨by kernel_rfl, ?_⟩;refine w_4 ?_
  refine rc rfl rfl rfl rfl rfl rfl qe (xv (clo l (z &&& (ps.getD i default)) &&& (ps.getD i default)) z) (⟨cci (gl _ _),CoC.refl _,trivial⟩) rfl rfl ?_;refine w_2 ?_
  refine a6 _ rfl (fun r1=>?_) (fun r1=>?_)
  ·
   have h1:=r1
   have h1:=au h1
   have hm:ek l z (ps.getD i default) = true:=by
    cases hq:ek l z (ps.getD i default) with
    | true=>rfl
    | false=>exact absurd (aop.2 hq) (aa h1)
   obtain ⟨he1,he2⟩:=bcd (by omega) hI hm
   refine w_9 ?_
   exact hx8 rfl rfl rfl (⟨cci he1.symm,cci (by rw [he2,gl,bOr];rfl),trivial⟩)
  have h1:=r1
  have h1:=ar h1
  have hm:ek l z (ps.getD i default) = false:=aop.1 (ae h1)
  refine w_6 ?_;refine ⟨i + 1, ?_, ?_, ?_⟩
  · refine ⟨by omega,fun j hj=>?_⟩
    by_cases e:j = i
    · rw [e];exact hm
    exact hI j (by omega)
  · first | omega | (dsimp only;omega)
  exact ⟨⟨zy,c9,c9,c9,trivial⟩,trivial⟩
 have h0:=aa r0
 try simp only [ty] at h0
 obtain rfl:i = ps.length:=by omega
 obtain ⟨he1,he2⟩:=bc8 hI
 refine w_7 ?_
 exact hx8 rfl rfl rfl (⟨cci he1.symm,cci (by rw [he2]),trivial⟩)
theorem b0m:goodFn Tryz.prog 161:=wgx Tryz.func161
theorem av7 (l:List Fd) (ps:List AS) (z0:AS):af Tryz.prog 161 [pP (fdl l),pP (asl ps),pA z0] (aj [pA (a1c l ps z0)]):=by
 refine a8 (nt:=20) a7 Tryz.func161 rfl rfl l9 ?_;refine w_5 ?_
 refine ah (ι:=Nat × List Nat × AS) ⟨[(0,some _),(1,some _)],[]⟩ ⟨⟨c9,c9,trivial⟩,trivial⟩ (fun x=>⟨[(2,some (vA x.2.2))],[]⟩) (fun x=>a7j l ps z0 x) (fun x=>x.1) ((4294967297,[],z0)) (ahj l ps z0) ⟨⟨zy,trivial⟩,trivial⟩ ?_
 rintro x hx
 have hpos:=a4h hx
 refine w_6 ?_;refine qcx azd (ar1 l ps x.2.2) ?_;refine fc ?_;refine a6 _ rfl (fun r0=>?_) (fun r0=>?_)
 ·
  have h0:=ae r0
  try simp only [ty] at h0
  refine w_5 ?_
  exact hx8 rfl rfl rfl (⟨cci (congrArg asI (aks hx (by omega))),trivial⟩)
 have h0:=aa r0
 try simp only [ty] at h0
 obtain ⟨i0,hi0,hi1,hi2,hi3⟩:=ww (p:=ek l x.2.2) (l:=ps) (by omega)
 refine w_5 ?_;refine ⟨(x.1 - 1,x.2.1 ++ [i0],x.2.2 ||| nn l (ps.getD i0 default) x.2.2), ?_, ?_, ?_⟩
 · exact ah3 hx hi1 hi2 hi3
 · dsimp only
   omega
 exact ⟨⟨⟨_,rfl,(coi (congrArg asI (ba4 hi1 hi2 hi3)))⟩,c9,c9,trivial⟩,trivial⟩
theorem b1x:goodFn Tryz.prog 110:=wgx Tryz.func110
theorem au3 (l:List Fd) (ps:List AS) (x:Fd):af Tryz.prog 110 [pP (fdl l),pP (asl ps),x.pc] (aj [pB (ux l ps x)]):=by
 refine a8 (nt:=15) a7 Tryz.func110 rfl rfl l9 ?_;refine sx7 ?_;refine m9 0 ?_;refine w_3 ?_;refine bg (E:=bj) a7 aw [0,1,2,3,4,5,6,7,8] ?_;refine w_6 ?_
 refine qcx b0m (av7 l ps x.lhs) ?_;refine qcx qe (xv x.rhs (a1c l ps x.lhs)) ?_;refine w_2 ?_;refine ⟨by kernel_rfl, ?_⟩
 exact hx8 rfl rfl rfl (⟨CoC.refl _,trivial⟩)
theorem b6m:goodFn Tryz.prog 49:=wgx Tryz.func49
theorem au5 (l:List Fd) (ps:List AS) (hl:l.length ≤ 16777216):af Tryz.prog 49 [pP (fdl l),pP (asl ps)] (aj [pP (il (b7 l ps l.length))]):=by
 refine a8 (nt:=26) a7 Tryz.func49 rfl rfl l9 ?_;refine wg ?_
 refine d6 5 900 true 1 3 (lf iC []) (by decide) rfl (CoP.sl rfl (.inr rfl) (fun h=>h) (fun i j hi _=>absurd hi (Nat.not_lt_zero i))) (.inr rfl) rfl ?_
 refine ah (ι:=Nat) ⟨[(0,some _),(1,some _)],[]⟩ ⟨⟨c9,c9,trivial⟩,trivial⟩ (fun i=>⟨[(5,some (.v (.one (.ref 900 (b7 l ps i).length)))),(6,some (vI i))],[(900,some (.arr true 1 3 (b7 l ps i).length (lf iC (b7 l ps i))))]⟩) (fun i=>i ≤ l.length) (fun i=>l.length - i) (0) (Nat.zero_le _) ⟨⟨zy,zy,trivial⟩,⟨u9,trivial⟩⟩ ?_
 rintro i hi
 have hlen:=acq l ps i
 refine w_8 ?_;refine a6 _ rfl (fun r0=>?_) (fun r0=>?_)
 ·
  have h0:=ae r0
  try simp only [ty] at h0
  refine f8 ?_;refine qcx b1x (au3 l ps (l.getD i default)) ?_;refine w_2 ?_;refine a6 _ rfl (fun r1=>?_) (fun r1=>?_)
  ·
   have h1:=r1
   have h1:=au h1
   have hq:=au r1
   refine w_3 ?_;refine m9 0 ?_;refine ra 1 true rfl rfl rfl rfl rfl rfl ?_;refine w_7 ?_
   first | (refine ⟨i + 1, ?_, ?_, ?_⟩
            · show i + 1 ≤ _;omega
            · first | omega | (dsimp only;omega)
            exact ⟨⟨⟨_,rfl,(ca (pn (by assumption)))⟩,zy,c9,c9,trivial⟩,⟨⟨_,rfl,(c7 (pn (by assumption)) (CoP.refl _))⟩,trivial⟩⟩)
         | (refine ⟨i + 1, ?_, ?_, ?_⟩
            · show i + 1 ≤ _;omega
            · first | omega | (dsimp only;omega)
            exact ⟨⟨⟨_,rfl,(cg (qg (by assumption)))⟩,zy,c9,c9,trivial⟩,⟨⟨_,rfl,(cb (qg (by assumption)))⟩,trivial⟩⟩)
  have h1:=r1
  have h1:=ar h1
  have hq:=ar r1
  refine w_6 ?_
  first | (refine ⟨i + 1, ?_, ?_, ?_⟩
           · show i + 1 ≤ _;omega
           · first | omega | (dsimp only;omega)
           exact ⟨⟨⟨_,rfl,(ca (pn (by assumption)))⟩,zy,c9,c9,trivial⟩,⟨⟨_,rfl,(c7 (pn (by assumption)) (CoP.refl _))⟩,trivial⟩⟩)
        | (refine ⟨i + 1, ?_, ?_, ?_⟩
           · show i + 1 ≤ _;omega
           · first | omega | (dsimp only;omega)
           exact ⟨⟨⟨_,rfl,(cg (qg (by assumption)))⟩,zy,c9,c9,trivial⟩,⟨⟨_,rfl,(cb (qg (by assumption)))⟩,trivial⟩⟩)
 have h0:=aa r0
 try simp only [ty] at h0
 obtain rfl:i = l.length:=by omega
 refine w_6 ?_;refine bi 4 rfl rfl rfl ?_
 exact hx8 rfl rfl rfl (CoL.refl _)
end
end Go.Hx

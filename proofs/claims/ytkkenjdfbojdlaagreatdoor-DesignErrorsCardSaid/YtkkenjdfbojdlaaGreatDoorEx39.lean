/- A part of the proof: Dw7. -/
import Derived.Test.YtkkenjdfbojdlaaGreatDoorEx33
import Derived.Test.YtkkenjdfbojdlaaGreatDoorEx35
import Derived.Test.YtkkenjdfbojdlaaGreatDoorEx38
set_option linter.all false
section
namespace Go.Hx
open Go.Proofs
set_option maxRecDepth 100000
set_option maxHeartbeats 1000000
theorem b9a:ae Tryz.prog 40 [pP (asl []),pP (asl [])] (ai [pB true]):=axu []
theorem b8p (a:List AS):ae Tryz.prog 30 [pP (asl a),pP (asl a)] (ai [pB true]):=by
 have h:=bce a a
 rw [decide_eq_true rfl] at h
 exact h
theorem b8g:ae Tryz.prog 12 [pI 3,pP (fdl exC),pP (fdl []),pI 3] (ai [dsn ([3,6],31,(goD 3 exC [] (ju 3 exC [] 3)).2.2),pI 0]):=by
 have h:=aat 3 exC [] 3 (by decide)
 obtain ⟨h1,h2,h3⟩:=bbg
 rw [h3] at h
 unfold dsn at h ⊢
 rw [h1,h2] at h
 exact h
theorem b71:ae Tryz.prog 12 [pI 3,pP (fdl exA),pP (fdl []),pI 4] (ai [dsn ([5,6],29,(goD 3 exA [] (ju 3 exA [] 4)).2.2),pI 0]):=by
 have h:=aat 3 exA [] 4 (by decide)
 obtain ⟨h1,h2,h3⟩:=baq
 rw [h3] at h
 unfold dsn at h ⊢
 rw [h1,h2] at h
 exact h
theorem b6h:ae Tryz.prog 15 [pI 3,pP (fdl exA),pP (fdl [])] (ai [dsn ([7],7,(goD 3 exA [] (m7 3 exA)).2.2),pI 0]):=by
 have h:=bb7 3 exA []
 obtain ⟨h1,h2,h3⟩:=bb9
 rw [h3] at h
 unfold dsn at h ⊢
 rw [h1,h2] at h
 exact h
theorem ba5 (sts:PV):ae Tryz.prog 23 [pP (bsl exN),pP (fdl exC),pP (fdl []), .agg [asl [3,6], .raw (.int .i64 31),sts]] (ai [pS ⟨(List.append avl ay8).toArray⟩,pI 0]):=by
 have h:=b5o exN exC [] [3,6] 31 sts (by decide)
 obtain ⟨h1,h2⟩:=b9y
 rw [h1,show a8s exN exC [] [3,6] 31 = ⟨(List.append avl ay8).toArray⟩ from (if_pos h1).trans (congrArg bOf h2)] at h
 exact h
theorem ae9:goodFn Tryz.prog 11:=⟨Tryz.f11,Tryz.func11,by kernel_rfl,by kernel_rfl⟩
theorem a58  : ae Tryz.prog 11 [] (ai [pB true]):=by
 refine a8 (nt:=84) a7 Tryz.func11 rfl rfl l9 ?_;refine w_8 ?_;refine m9 0 ?_;refine w_6 ?_;refine m9 1 ?_;refine w_3 ?_;refine bt 1 rfl rfl rfl ?_;refine bt 2 rfl rfl rfl ?_;refine w_2 ?_
 refine rc rfl rfl rfl rfl rfl rfl af6 (b8g) (⟨CoC.refl _,(CoC.one (CoP.sl rfl (.inl rfl) (fun h=>(by cases h)) fun i j hi hj=>CoP.of_eq (by have hi:i < 2:=hi;have hj:j < 2:=hj;rcases (show i = 0 ∨ i = 1 by omega) with rfl | rfl <;> rcases (show j = 0 ∨ j = 1 by omega) with rfl | rfl <;> rfl))),CoC.one coN,CoC.refl _,trivial⟩) rfl rfl ?_
 refine w_3 ?_;refine m9 2 ?_;refine w_5 ?_;refine m9 3 ?_;refine w_2 ?_
 refine rc rfl rfl rfl rfl rfl rfl b6b (ba5 _) (⟨(CoC.one (CoP.sl rfl (.inl rfl) (fun h=>(by cases h)) fun i j hi hj=>CoP.of_eq (by have hi:i < 3:=hi;have hj:j < 1:=hj;obtain rfl:j = 0:=(by omega);rcases (show i = 0 ∨ i = 1 ∨ i = 2 by omega) with rfl | rfl | rfl <;> rfl))),(CoC.one (CoP.sl rfl (.inl rfl) (fun h=>(by cases h)) fun i j hi hj=>CoP.of_eq (by have hi:i < 2:=hi;have hj:j < 2:=hj;rcases (show i = 0 ∨ i = 1 by omega) with rfl | rfl <;> rcases (show j = 0 ∨ j = 1 by omega) with rfl | rfl <;> rfl))),CoC.one coN,CoC.refl _,trivial⟩) rfl rfl ?_
 refine w_9 ?_
 refine rc rfl rfl rfl rfl rfl rfl af6 (b71) (⟨CoC.refl _,(CoC.one (CoP.sl rfl (.inl rfl) (fun h=>(by cases h)) fun i j hi hj=>CoP.of_eq (by have hi:i < 2:=hi;have hj:j < 2:=hj;rcases (show i = 0 ∨ i = 1 by omega) with rfl | rfl <;> rcases (show j = 0 ∨ j = 1 by omega) with rfl | rfl <;> rfl))),CoC.one coN,CoC.refl _,trivial⟩) rfl rfl ?_
 refine w_3 ?_;refine m9 4 ?_;refine w_6 ?_
 refine rc rfl rfl rfl rfl rfl rfl aoc (b6h) (⟨CoC.refl _,(CoC.one (CoP.sl rfl (.inl rfl) (fun h=>(by cases h)) fun i j hi hj=>CoP.of_eq (by have hi:i < 2:=hi;have hj:j < 2:=hj;rcases (show i = 0 ∨ i = 1 by omega) with rfl | rfl <;> rcases (show j = 0 ∨ j = 1 by omega) with rfl | rfl <;> rfl))),CoC.one coN,trivial⟩) rfl rfl ?_
 refine w_3 ?_;refine m9 5 ?_;refine fl ?_;(iterate 2 refine rq rfl rfl rfl rfl (gtt (cw rfl rfl)) ?_);refine w_2 ?_;(iterate 2 refine rq rfl rfl rfl rfl (gtt (cw (cw rfl rfl) rfl)) ?_);refine w_2 ?_
 (iterate 3 refine rq rfl rfl rfl rfl (gtt (cw (cw (cw rfl rfl) rfl) rfl)) ?_);refine w_2 ?_;(iterate 2 refine rq rfl rfl rfl rfl (gtt (cw (cw (cw (cw rfl rfl) rfl) rfl) rfl)) ?_);refine w_2 ?_
 refine bc rfl rfl (fun r0=>?_) (fun r0=>?_)
 ·
  have h0:=r0
  have h0:=dc (cw (cw (cw (cw rfl rfl) rfl) rfl) rfl) h0
  have h0:=of_decide_eq_true h0
  try simp only [ty] at h0
  (iterate 2 refine qy ?_ (hg:=(gtt r0)));refine rm 6 rfl rfl rfl rfl rfl (gtt r0) ?_
  refine rc rfl rfl rfl rfl rfl rfl ald (b8p [5,6]) (⟨CoC.refl _,(CoC.one (CoP.sl rfl (.inl rfl) (fun h=>(by cases h)) fun i j hi hj=>CoP.of_eq (by have hi:i < 2:=hi;have hj:j < 1:=hj;obtain rfl:j = 0:=(by omega);rcases (show i = 0 ∨ i = 1 by omega) with rfl | rfl <;> rfl))),trivial⟩) rfl (gtt r0) ?_
  refine w_2 ?_;(iterate 3 refine rq rfl rfl rfl rfl (gtt (cw r0 rfl)) ?_);refine w_2 ?_;(iterate 2 refine rq rfl rfl rfl rfl (gtt (cw (cw r0 rfl) rfl)) ?_)
  refine rm 7 rfl rfl rfl rfl rfl (gtt (cw (cw r0 rfl) rfl)) ?_
  refine rc rfl rfl rfl rfl rfl rfl ald (b8p [7]) (⟨CoC.refl _,(CoC.one (CoP.sl rfl (.inl rfl) (fun h=>(by cases h)) fun i j hi hj=>CoP.of_eq (by have hi:i < 1:=hi;have hj:j < 1:=hj;obtain rfl:j = 0:=(by omega);obtain rfl:i = 0:=(by omega);rfl))),trivial⟩) rfl (gtt (cw (cw r0 rfl) rfl)) ?_
  refine w_2 ?_;(iterate 3 refine rq rfl rfl rfl rfl (gtt (cw (cw (cw r0 rfl) rfl) rfl)) ?_);refine w_3 ?_
  exact hx8 rfl rfl rfl (CoL.refl _)
 have h0:=r0
 have h0:=dc (cw (cw (cw (cw rfl rfl) rfl) rfl) rfl) h0
 have h0:=of_decide_eq_false h0
 try simp only [ty] at h0
 exfalso
 first | exact h0 rfl | exact h0 trivial | cases h0
theorem b6p:goodFn Tryz.prog 41:=⟨Tryz.f41,Tryz.func41,by kernel_rfl,by kernel_rfl⟩
theorem b1l  : ae Tryz.prog 41 [pP (stl []),pP (stl [])] (ai [pB true]):=by
 refine a8 (nt:=26) a7 Tryz.func41 rfl rfl l9 ?_;refine ld ?_;refine a6 _ rfl (fun e=>by cases e) (fun _=>?_);refine w_7 ?_
 refine aj (ι:=Unit) ⟨[(0,some _),(1,some _)],[]⟩ ⟨⟨c9,c9,trivial⟩,trivial⟩ (fun x=>⟨[(5,some (vI 0))],[]⟩) (fun x=>True) (fun x=>0) (()) (trivial) ⟨⟨zy,trivial⟩,trivial⟩ ?_
 rintro _ _
 refine w_8 ?_;refine a6 _ rfl (fun r0=>?_) (fun r0=>?_)
 ·
  have h0:=of_decide_eq_true r0
  try simp only [ty] at h0
  exfalso
  exact absurd h0 (by simp)
 have h0:=of_decide_eq_false r0
 try simp only [ty] at h0
 refine w_5 ?_
 exact hx8 rfl rfl rfl (CoL.refl _)
theorem aqq:goodFn Tryz.prog 14:=⟨Tryz.f14,Tryz.func14,by kernel_rfl,by kernel_rfl⟩
theorem agr  : ae Tryz.prog 14 [dsn ([],0,[]),dsn ([],0,[])] (ai [pB true]):=by
 refine a8 (nt:=24) a7 Tryz.func14 rfl rfl l9 ?_;refine sx7 ?_;refine m9 0 ?_;refine m9 1 ?_;refine w_8 ?_;refine rc rfl rfl rfl rfl rfl rfl b7l (b9a) (CoL.refl _) rfl rfl ?_;refine w_8 ?_
 (iterate 4 refine rq rfl rfl rfl rfl (gtt (cw rfl rfl)) ?_);refine rc rfl rfl rfl rfl rfl rfl b6p (b1l) (CoL.refl _) rfl (gtt (cw rfl rfl)) ?_;refine w_3 ?_
 exact hx8 rfl rfl rfl (CoL.refl _)
theorem lsx {n:Int} {l m:List Fd} {ps:List AS} (hx:¬ lvE n ps = 0 ∨ (lvE n ps = 0 ∧ ¬ bw n l m = 0)):¬ lsC n ps l m = 0 ∧ ¬ lsC n ps l m = 11:=by
 rcases hx with h | ⟨h,h2⟩
 · rw [(azz h).1]
   refine ⟨h, ?_⟩
   unfold lvE
   (repeat' split) <;> omega
 rw [(az9 h h2).1]
 refine ⟨h2, ?_⟩
 unfold bw bg
 (repeat' split) <;> omega
theorem axd (n:Int) (l m:List Fd) (ps:List AS) (hx:¬ lvE n ps = 0 ∨ (lvE n ps = 0 ∧ ¬ bw n l m = 0)):ae Tryz.prog 68 [pI n,pP (asl ps),pP (fdl l),pP (fdl m)] (ai [pP (stl []),pP (psl 2 tbC []),pI (lsC n ps l m)]):=by
 refine a8 (nt:=77) a7 Tryz.func68 rfl rfl l9 ?_;refine ez ?_;refine rc rfl rfl rfl rfl rfl rfl b5y (ay7 n ps) (CoL.refl _) rfl rfl ?_;refine w_7 ?_;refine a6 _ rfl (fun r0=>?_) (fun r0=>?_)
 ·
  have h0:=r0
  have h0:=of_decide_eq_false (ap h0)
  try simp only [ty] at h0
  have hq:=(azz (p:=l) (m:=m) h0).1
  refine w_7 ?_
  exact hx8 rfl rfl rfl (⟨CoC.one coN,CoC.one coN,cci hq.symm,trivial⟩)
 have h0:=r0
 have h0:=of_decide_eq_true (am h0)
 try simp only [ty] at h0
 have hv:lvE n ps = 0:=by assumption
 refine w_7 ?_;refine rc rfl rfl rfl rfl rfl rfl apl (aee n l m) (CoL.refl _) rfl rfl ?_;refine w_7 ?_;refine a6 _ rfl (fun r1=>?_) (fun r1=>?_)
 ·
  have h1:=r1
  have h1:=of_decide_eq_false (ap h1)
  try simp only [ty] at h1
  have hq:=(az9 hv h1).1
  refine w_7 ?_
  exact hx8 rfl rfl rfl (⟨CoC.one coN,CoC.one coN,cci hq.symm,trivial⟩)
 have h1:=r1
 have h1:=of_decide_eq_true (am h1)
 try simp only [ty] at h1
 exfalso
 rcases hx with h | ⟨_,h⟩
 · exact h hv
 exact h (by assumption)
theorem aw6 (n:Int) (l m:List Fd) (ps:List AS) (hx:¬ lvE n ps = 0 ∨ (lvE n ps = 0 ∧ ¬ bw n l m = 0)):ae Tryz.prog 28 [pI n,pP (asl ps),pP (fdl l),pP (fdl m)] (ai [pP (stl []),pI (lsC n ps l m)]):=by
 refine a8 (nt:=42) a7 Tryz.func28 rfl rfl l9 ?_;refine ez ?_;refine rc rfl rfl rfl rfl rfl rfl b6t (axd n l m ps hx) (CoL.refl _) rfl rfl ?_;refine a1x ?_
 refine a6 _ rfl (fun r0=>?_) (fun r0=>?_)
 ·
  have h0:=r0
  have h0:=of_decide_eq_false (ap h0)
  try simp only [ty] at h0
  refine w_6 ?_
  exact hx8 rfl rfl rfl (⟨CoC.one coN,CoC.refl _,trivial⟩)
 have h0:=r0
 have h0:=of_decide_eq_true (am h0)
 try simp only [ty] at h0
 exfalso
 exact (lsx hx).1 (by assumption)
theorem b9w (n:Int) (l m:List Fd) (ps:List AS) (hx:¬ lvE n ps = 0 ∨ (lvE n ps = 0 ∧ ¬ bw n l m = 0)):ae Tryz.prog 47 [pI n,pP (asl ps),pP (fdl l),pP (fdl m)] (ai [pB false,pI (lsC n ps l m)]):=by
 refine a8 (nt:=25) a7 Tryz.func47 rfl rfl l9 ?_;refine ez ?_;refine rc rfl rfl rfl rfl rfl rfl b76 (aw6 n l m ps hx) (CoL.refl _) rfl rfl ?_;refine fl ?_
 refine a6 _ rfl (fun r0=>?_) (fun r0=>?_)
 ·
  have h0:=of_decide_eq_true r0
  try simp only [ty] at h0
  exfalso
  exact (lsx hx).2 (by assumption)
 have h0:=of_decide_eq_false r0
 try simp only [ty] at h0
 refine w_9 ?_
 exact hx8 rfl rfl rfl (⟨ccb (by rw [decide_eq_false (lsx hx).1]),CoC.refl _,trivial⟩)
theorem b6l:goodFn Tryz.prog 19:=⟨Tryz.f19,Tryz.func19,by kernel_rfl,by kernel_rfl⟩
theorem afy (n:Int) (l m:List Fd) (ps:List AS) (hx:¬ lvE n ps = 0 ∨ (lvE n ps = 0 ∧ ¬ bw n l m = 0)):ae Tryz.prog 19 [pI n,pP (fdl l),pP (fdl m),pP (asl ps)] (ai [pI 0,pI (lsC n ps l m)]):=by
 refine a8 (nt:=40) a7 Tryz.func19 rfl rfl l9 ?_;refine ez ?_;refine rc rfl rfl rfl rfl rfl rfl b7j (b9w n l m ps hx) (CoL.refl _) rfl rfl ?_;refine fl ?_;refine a6 _ rfl (fun r0=>?_) (fun r0=>?_)
 ·
  have h0:=r0
  have h0:=of_decide_eq_false (ap h0)
  try simp only [ty] at h0
  refine w_6 ?_
  exact hx8 rfl rfl rfl (CoL.refl _)
 have h0:=r0
 have h0:=of_decide_eq_true (am h0)
 try simp only [ty] at h0
 exfalso
 exact (lsx hx).1 (by assumption)
theorem b9c (n:Int) (q:List Fd) (f:Int):ae Tryz.prog 5 [pI n,pP (fdl q),pI f] (ai [pB true]):=by
 refine a8 (nt:=119) a7 Tryz.func5 rfl rfl l9 ?_;refine w_7 ?_;refine rc rfl rfl rfl rfl rfl rfl ae9 (a58) (CoL.refl _) rfl rfl ?_;refine w_2 ?_;refine bc rfl rfl (fun r0=>?_) (fun r0=>?_)
 ·
  have h0:=r0
  have h0:=ap h0
  (iterate 3 refine k9 (gtf r0) ?_);refine rq rfl rfl rfl rfl rfl ?_ (hp:=r0);refine b8 ?_;refine a6 _ rfl (fun _=>?_) (fun e=>by cases e);refine sx7 ?_
  refine rc rfl rfl rfl rfl rfl rfl ae9 (a58) (CoL.refl _) rfl rfl ?_;refine w_2 ?_
  exact hx8 rfl rfl rfl (⟨ccb (by first | rfl | (rw [hcl];rfl) | simp_all),trivial⟩)
 have h0:=r0
 have h0:=am h0
 (iterate 3 refine qy ?_ (hg:=(gff r0)));refine w_2 ?_;refine a6 _ rfl (fun r1=>?_) (fun r1=>?_)
 ·
  have h1:=r1
  have h1:=bu r0 h1
  have h1:=of_decide_eq_true h1
  try simp only [ty] at h1
  refine sx7 ?_;refine rc rfl rfl rfl rfl rfl rfl ae9 (a58) (CoL.refl _) rfl rfl ?_;refine w_2 ?_
  exact hx8 rfl rfl rfl (⟨ccb (by first | rfl | (rw [hcl];rfl) | simp_all),trivial⟩)
 have h1:=r1
 have h1:=bu r0 h1
 have h1:=of_decide_eq_false h1
 try simp only [ty] at h1
 refine ez ?_
 have hq8:q.length ≤ 8:=by omega
 refine w_6 ?_;refine dy 7 900 true 2 48 (lf Fd.c []) (by decide) rfl (CoP.sl rfl (.inr rfl) (fun h=>h) (fun i j hi _=>absurd hi (Nat.not_lt_zero i))) (.inr rfl) rfl ?_
 refine dy 8 901 true 2 49 (lf Fd.c []) (by decide) rfl (CoP.sl rfl (.inr rfl) (fun h=>h) (fun i j hi _=>absurd hi (Nat.not_lt_zero i))) (.inr rfl) rfl ?_
 refine aj (ι:=Nat) ⟨[(0,some _),(2,some _),(28,some _),(29,some _)],[]⟩ ⟨⟨c9,c9,c9,c9,trivial⟩,trivial⟩ (fun i=>⟨[(7,some (.v (.one (.ref 900 (evT q i).length)))),(8,some (.v (.one (.ref 901 (odT q i).length)))),(30,some (vI i))],[(900,some (.arr true 2 48 (evT q i).length (lf Fd.c (evT q i)))),(901,some (.arr true 2 49 (odT q i).length (lf Fd.c (odT q i))))]⟩) (fun i=>i ≤ q.length) (fun i=>q.length - i) (0) (Nat.zero_le _) ⟨⟨zy,zy,zy,trivial⟩,⟨u9,u9,trivial⟩⟩ ?_
 rintro i hi
 have hle:=b9l (q:=q) (i:=i)
 have hlo:=b7k (q:=q) (i:=i)
 refine w_5 ?_;refine a6 _ rfl (fun r2=>?_) (fun r2=>?_)
 ·
  have h2:=of_decide_eq_true r2
  try simp only [ty] at h2
  have hil:i < q.length:=by omega
  refine w_8 ?_;refine m9 0 ?_;refine w_9 ?_;refine a6 _ rfl (fun r3=>?_) (fun r3=>?_)
  ·
   have h3:=of_decide_eq_true r3
   try simp only [ty] at h3
   obtain ⟨hev,hod⟩:=bco (q:=q) h3
   refine w_7 ?_;refine m9 1 ?_;refine ra 2 true rfl rfl rfl rfl rfl rfl ?_;refine w_6 ?_
   first | (refine ⟨i + 1, ?_, ?_, ?_⟩
            · show i + 1 ≤ _;omega
            · first | omega | (dsimp only;omega)
            exact ⟨⟨⟨_,rfl,(d8 hev)⟩,⟨_,rfl,(cz hod)⟩,zy,c9,c9,c9,c9,trivial⟩,⟨⟨_,rfl,(kf hev (CoP.refl _) (CoP.refl _))⟩,⟨_,rfl,(d4 hod)⟩,trivial⟩⟩)
         | (refine ⟨i + 1, ?_, ?_, ?_⟩
            · show i + 1 ≤ _;omega
            · first | omega | (dsimp only;omega)
            exact ⟨⟨⟨_,rfl,(cz hev)⟩,⟨_,rfl,(d8 hod)⟩,zy,c9,c9,c9,c9,trivial⟩,⟨⟨_,rfl,(d4 hev)⟩,⟨_,rfl,(kf hod (CoP.refl _) (CoP.refl _))⟩,trivial⟩⟩)
  have h3:=of_decide_eq_false r3
  try simp only [ty] at h3
  obtain ⟨hev,hod⟩:=bch (q:=q) h3
  refine w_7 ?_;refine m9 3 ?_;refine ra 4 true rfl rfl rfl rfl rfl rfl ?_;refine w_6 ?_
  first | (refine ⟨i + 1, ?_, ?_, ?_⟩
           · show i + 1 ≤ _;omega
           · first | omega | (dsimp only;omega)
           exact ⟨⟨⟨_,rfl,(d8 hev)⟩,⟨_,rfl,(cz hod)⟩,zy,c9,c9,c9,c9,trivial⟩,⟨⟨_,rfl,(kf hev (CoP.refl _) (CoP.refl _))⟩,⟨_,rfl,(d4 hod)⟩,trivial⟩⟩)
        | (refine ⟨i + 1, ?_, ?_, ?_⟩
           · show i + 1 ≤ _;omega
           · first | omega | (dsimp only;omega)
           exact ⟨⟨⟨_,rfl,(cz hev)⟩,⟨_,rfl,(d8 hod)⟩,zy,c9,c9,c9,c9,trivial⟩,⟨⟨_,rfl,(d4 hev)⟩,⟨_,rfl,(kf hod (CoP.refl _) (CoP.refl _))⟩,trivial⟩⟩)
 have h2:=of_decide_eq_false r2
 try simp only [ty] at h2
 obtain rfl:i = q.length:=by omega
 refine w_2 ?_;refine bt 7 rfl rfl rfl ?_;refine bt 8 rfl rfl rfl ?_;refine w_4 ?_;refine rc rfl rfl rfl rfl rfl rfl b8a (b5k n (evT q q.length) (odT q q.length)) (CoL.refl _) rfl rfl ?_;refine w_8 ?_
 refine a6 _ rfl (fun r4=>?_) (fun r4=>?_)
 ·
  have h4:=of_decide_eq_true r4
  try simp only [ty] at h4
  refine w_4 ?_
  exact hx8 rfl rfl rfl (⟨ccb (by first | rfl | (rw [hcl];rfl) | simp_all),trivial⟩)
 have h4:=of_decide_eq_false r4
 try simp only [ty] at h4
 have hx:¬ jq n (evT q q.length) (odT q q.length) = 0:=h4
 have hls:=b83 hx
 have hcl:qe n (evT q q.length) (odT q q.length) [1] = 0:=az5 hls
 have hx2:¬ lvE n [1] = 0 ∨ (lvE n [1] = 0 ∧ ¬ bw n (evT q q.length) (odT q q.length) = 0):=by
  by_cases hv:lvE n [1] = 0
  · refine .inr ⟨hv, ?_⟩
    obtain ⟨h0,h8,_⟩:=kw hv
    rwa [abm (by omega)] at hx
  exact .inl hv
 refine w_7 ?_;refine rc rfl rfl rfl rfl rfl rfl af6 (aqi n (evT q q.length) (odT q q.length) f hx) (CoL.refl _) rfl rfl ?_;refine w_3 ?_;refine m9 5 ?_;refine w_8 ?_
 refine rc rfl rfl rfl rfl rfl rfl aoc (b7o n (evT q q.length) (odT q q.length) hx) (CoL.refl _) rfl rfl ?_;refine w_3 ?_;refine m9 6 ?_;refine w_8 ?_;refine m9 7 ?_
 refine rc rfl rfl rfl rfl rfl rfl aok (aip n (evT q q.length) (odT q q.length) [1]) (⟨CoC.refl _,CoC.refl _,CoC.refl _,(CoC.one (CoP.sl rfl (.inl rfl) (fun h=>(by cases h)) fun i j hi hj=>CoP.of_eq (by have hi:i < 1:=hi;have hj:j < 1:=hj;obtain rfl:j = 0:=(by omega);obtain rfl:i = 0:=(by omega);rfl))),trivial⟩) rfl rfl ?_
 refine ez ?_;refine m9 8 ?_
 refine rc rfl rfl rfl rfl rfl rfl b6l (afy n (evT q q.length) (odT q q.length) [1] hx2) (⟨CoC.refl _,CoC.refl _,CoC.refl _,(CoC.one (CoP.sl rfl (.inl rfl) (fun h=>(by cases h)) fun i j hi hj=>CoP.of_eq (by have hi:i < 1:=hi;have hj:j < 1:=hj;obtain rfl:j = 0:=(by omega);obtain rfl:i = 0:=(by omega);rfl))),trivial⟩) rfl rfl ?_
 refine fl ?_;refine bc rfl rfl (fun r5=>?_) (fun r5=>?_)
 ·
  have h5:=of_decide_eq_true r5
  try simp only [ty] at h5
  (iterate 3 refine qy ?_ (hg:=(gtt r5)));refine w_2 ?_;refine bc rfl rfl (fun r6=>?_) (fun r6=>?_)
  ·
   have h6:=r6
   have h6:=dc r5 h6
   have h6:=of_decide_eq_true h6
   try simp only [ty] at h6
   (iterate 3 refine qy ?_ (hg:=(gtt r6)));refine w_2 ?_;refine bc rfl rfl (fun r7=>?_) (fun r7=>?_)
   ·
    have h7:=r7
    have h7:=dc r6 h7
    have h7:=of_decide_eq_true h7
    try simp only [ty] at h7
    (iterate 2 refine qy ?_ (hg:=(gtt r7)));refine rc rfl rfl rfl rfl rfl rfl aqq (agr) (⟨CoC.refl _,CoC.agg ⟨coN,CoP.refl _,coN,trivial⟩,trivial⟩) rfl (gtt r7) ?_;refine w_2 ?_
    refine bc rfl rfl (fun r8=>?_) (fun r8=>?_)
    ·
     have h8:=r8
     have h8:=dc r7 h8
     (iterate 2 refine qy ?_ (hg:=(gtt r8)));refine rc rfl rfl rfl rfl rfl rfl aqq (agr) (⟨CoC.refl _,CoC.agg ⟨coN,CoP.refl _,coN,trivial⟩,trivial⟩) rfl (gtt r8) ?_;refine w_2 ?_
     refine bc rfl rfl (fun r9=>?_) (fun r9=>?_)
     ·
      have h9:=r9
      have h9:=dc r8 h9
      (iterate 2 refine qy ?_ (hg:=(gtt r9)));refine w_3 ?_
      exact hx8 rfl rfl rfl (⟨ccb (by first | rfl | (rw [hcl];rfl) | simp_all),trivial⟩)
     have h9:=r9
     have h9:=dc r8 h9
     exfalso
     first | exact h9 rfl | exact h9 trivial | cases h9
    have h8:=r8
    have h8:=dc r7 h8
    (iterate 3 refine k9 (gft r8) ?_);refine rq rfl rfl rfl rfl rfl ?_ (hp:=r8);refine qy ?_;(iterate 2 refine k9 rfl ?_);refine w_3 ?_
    exact hx8 rfl rfl rfl (⟨ccb (by first | rfl | (rw [hcl];rfl) | simp_all),trivial⟩)
   have h7:=r7
   have h7:=dc r6 h7
   have h7:=of_decide_eq_false h7
   try simp only [ty] at h7
   exfalso
   first | exact h7 rfl | exact h7 trivial | cases h7
  have h6:=r6
  have h6:=dc r5 h6
  have h6:=of_decide_eq_false h6
  try simp only [ty] at h6
  exfalso
  first | exact h6 rfl | exact h6 trivial | cases h6
 have h5:=of_decide_eq_false r5
 try simp only [ty] at h5
 exfalso
 first | exact h5 rfl | exact h5 trivial | cases h5
end Go.Hx
end

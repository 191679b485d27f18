/- A part of the proof: Y2 Y3 Bz5 Rb25 Rb26. -/
import Derived.Test.YtidophngianjiaaDoorDx15
import Derived.Test.YtidophngianjiaaDoorDx18
import Derived.Test.YtidophngianjiaaDoorDx19
import Derived.Test.YtidophngianjiaaDoorDx21
import Derived.Test.YtidophngianjiaaDoorDx22
import Derived.Test.YtidophngianjiaaDoorDx24
set_option linter.all false
section
namespace Go.Hx
open Go.Proofs
set_option maxRecDepth 100000
set_option maxHeartbeats 1000000
theorem a1y:al Tryd.prog 10:=⟨Tryd.f10,Tryd.func10,by kernel_rfl,by kernel_rfl⟩
theorem afr (n:Nat) (c:Bool) (f:Nat → Nat → PV) (hn:n ≤ 17592186044416) :
 eq Tryd.prog 10 [.one (.p (.sl n 2 c f))] [] (.v (.one (.ref 0 n))) [(0, .arr true 2 44 n f)] []:=by
 refine j2 (nt:=8) ai Tryd.func10 rfl rfl l9 rfl ?_;refine sx7 ?_;refine bv true rfl rfl rfl rfl rfl trivial ?_;refine a6 ?_
 refine xi (ι:=Bool) (fun c=>⟨[(0,some (bd (.sl n 2 c f)))],[]⟩) (fun _=>True) ?_ fun c _=>?_
 · rcases Nat.eq_zero_or_pos n with hz | h0
   · subst hz
     refine hw_exact' 0 rfl fun ad cap hcap=>?_
     refine sx7 ?_;(iterate 2 refine bv true rfl rfl rfl rfl rfl trivial ?_);refine a6 ?_;refine a8 ad.isNone rfl (fun hc=>?_) (fun hc=>?_)
     · refine sx7 ?_
       refine bv true rfl rfl rfl rfl rfl trivial ?_;refine a6 ?_;refine dm 2 0 true 2 44 f (by decide) rfl (CoP.sl rfl (.inr rfl) (fun h=>h) fun i j hi _=>absurd hi (Nat.not_lt_zero i)) (.inr rfl) rfl ?_
       refine dc ?_;refine ⟨.inr rfl, ?_⟩
       exact ⟨_,_,rfl,trivial,CoR.refl _,⟨u9,trivial⟩⟩
     · refine aa ?_
       exact ⟨false,trivial,⟨⟨_,rfl,CoP.raw_sl hcap⟩,trivial⟩,trivial⟩
   · refine sx7 ?_
     refine bv true rfl rfl rfl rfl rfl trivial ?_;refine bv true rfl rfl rfl rfl rfl h0 ?_;refine a6 ?_;refine a8 false rfl (fun hc=>by cases hc) (fun hc=>?_);refine aa ?_
     exact ⟨c,trivial,⟨c9,trivial⟩,trivial⟩
 · refine sx7 ?_
   refine sr 0 rfl rfl rfl rfl rfl rfl trivial ?_;refine bv true rfl rfl rfl rfl rfl trivial ?_
   refine a1x 0 true rfl rfl rfl rfl rfl rfl ⟨trivial,rfl,rfl,rfl, .inl rfl,by show 0 + n ≤ 9223372036854775807;omega,by show (0 + n) * 8 ≤ 140737488355328;omega,fun _=>.inl rfl⟩ ?_
   refine bv true rfl rfl rfl rfl rfl trivial ?_;refine a6 ?_;refine dc ?_;refine ⟨.inr rfl, ?_⟩
   refine ⟨_,_,rfl,trivial,CoR.of_eq (by show HR.v (.one (.ref 0 (0 + n))) = _;rw [Nat.zero_add]),⟨⟨_,rfl, ?_⟩,trivial⟩⟩
   exact ⟨fun h=>h,rfl,rfl,(Nat.zero_add n).symm,fun i j _ _=>CoP.of_eq (by simp [er])⟩
theorem a2o (n:Nat) (c:Bool) (f:Nat → Nat → PV) (hn:n ≤ 17592186044416):ao Tryd.prog 10 [.one (.sl n 2 c f)] (.v (.one (.sl n 2 false f))) :=
 eq.pure (args:=[.one (.sl n 2 c f)]) (l:=[.one (.ref 0 n)]) (afr n c f hn) rfl ⟨rfl,trivial⟩
theorem ach:al Tryd.prog 34:=⟨Tryd.f34,Tryd.func34,by kernel_rfl,by kernel_rfl⟩
theorem a9y (n:Int) (l m:List Fd) (x:AS):ao Tryd.prog 34 [pI n,pP (fdl l),pP (fdl m),pA x] (ay [pI (ckB n l m x)]):=by
 refine am (nt:=21) ai Tryd.func34 rfl rfl l9 ?_;refine sx7 ?_;refine qy ?_;refine a6 ?_;refine a7 ?_;refine sx7 ?_;(iterate 3 refine qy ?_)
 refine rc rfl rfl rfl rfl rfl rfl afp (a9o n l m) (CoL.refl _) rfl rfl ?_;refine qy ?_;refine a6 ?_;refine sx7 ?_;(iterate 2 refine qy ?_);refine a6 ?_;refine a8 _ rfl (fun r0=>?_) (fun r0=>?_)
 ·
  have h0:=r0
  have h0:=of_decide_eq_false (cb h0)
  try simp only [ty] at h0
  refine sx7 ?_;(iterate 2 refine qy ?_);refine a6 ?_
  exact hx8 rfl rfl rfl (⟨cci (aks (by assumption)).symm,trivial⟩)
 ·
  have h0:=r0
  have h0:=of_decide_eq_true (ce h0)
  try simp only [ty] at h0
  have hb:ec n l m = 0:=h0
  obtain ⟨hn0,hn1,_⟩:=y8 hb
  refine aa ?_;refine a7 ?_;refine sx7 ?_;(iterate 2 refine qy ?_);refine rq rfl rfl rfl rfl rfl ?_ (hp:=hn0);refine qy ?_;refine a6 ?_;refine a8 _ rfl (fun r1=>?_) (fun r1=>?_)
  ·
   have h1:=r1
   have h1:=of_decide_eq_false (cb h1)
   try simp only [ty] at h1
   refine sx7 ?_;refine qy ?_;refine a6 ?_
   exact hx8 rfl rfl rfl (⟨cci (alp hb (fun e=>(by assumption:¬ _ = _) ((un x n.toNat).trans (congrArg asI e)))).symm,trivial⟩)
  ·
   have h1:=r1
   have h1:=of_decide_eq_true (ce h1)
   try simp only [ty] at h1
   refine aa ?_;refine sx7 ?_;refine qy ?_;refine a6 ?_
   exact hx8 rfl rfl rfl (⟨cci (yd hb (dt.1 ((un x n.toNat).symm.trans (by assumption)))).symm,trivial⟩)
theorem aej:al Tryd.prog 36:=⟨Tryd.f36,Tryd.func36,by kernel_rfl,by kernel_rfl⟩
theorem ald (l m:List Fd) (hl:l.length ≤ 64) (hm:m.length ≤ 64):ao Tryd.prog 36 [pP (fdl l),pP (fdl m)] (ay [pP (fdl (ep l m))]):=by
 refine am (nt:=37) ai Tryd.func36 rfl rfl l9 ?_;refine sx7 ?_;refine qy ?_;refine a6 ?_;refine sx7 ?_;refine qy ?_
 refine dn rfl rfl rfl rfl rfl rfl a1y ((afr m.length false (lf Fd.c m) (by omega)).swap 0 900) (fh.refl _) trivial rfl rfl ?_;refine qy ?_;refine a6 ?_;refine a7 ?_;refine sx7 ?_
 (iterate 3 refine qy ?_);refine a6 ?_;refine af ?_
 refine av (ι:=Nat) ⟨[(12,some _),(13,some _)],[]⟩ ⟨⟨c9,c9,trivial⟩,trivial⟩ (fun i=>⟨[(5,some (.v (.one (.ref 900 (gh l m i 0).length)))),(14,some (vI i))],[(900,some (.arr true 2 44 (gh l m i 0).length (lf Fd.c (gh l m i 0))))]⟩) (fun i=>i ≤ l.length) (fun i=>l.length - i) (0) (Nat.zero_le _) ⟨⟨⟨_,rfl,(bn (a4e l m))⟩,⟨_,rfl,(CoR.refl _)⟩,trivial⟩,⟨⟨_,rfl,(bo (a4e l m))⟩,trivial⟩⟩ ?_
 rintro i hi
 have hmb:=a7e (l.getD i default).rhs
 refine sx7 ?_;refine qy ?_;refine a6 ?_;refine a7 ?_;refine a8 _ rfl (fun r0=>?_) (fun r0=>?_)
 ·
  have h0:=of_decide_eq_true r0
  try simp only [ty] at h0
  refine aa ?_;refine a7 ?_;refine af ?_;refine sx7 ?_;(iterate 2 refine qy ?_);refine m9 0 ?_;refine s9 ?_;refine a6 ?_;refine sx7 ?_;(iterate 2 refine qy ?_)
  refine rc rfl rfl rfl rfl rfl rfl aq9 (ase (l.getD i default).rhs) (CoL.refl _) rfl rfl ?_;(iterate 2 refine qy ?_);refine a6 ?_;refine af ?_
  refine av (ι:=Nat) ⟨[(7,some _),(12,some _),(13,some _),(14,some _),(20,some _),(21,some _)],[(0,some _)]⟩ ⟨⟨c9,c9,c9,c9,c9,c9,trivial⟩,⟨u9,trivial⟩⟩ (fun k=>⟨[(5,some (.v (.one (.ref 900 (gh l m i k).length)))),(22,some (vI k))],[(900,some (.arr true 2 44 (gh l m i k).length (lf Fd.c (gh l m i k))))]⟩) (fun k=>k ≤ (bi (l.getD i default).rhs).length) (fun k=>(bi (l.getD i default).rhs).length - k) (0) (Nat.zero_le _) ⟨⟨zy,⟨_,rfl,(CoR.refl _)⟩,trivial⟩,⟨u9,trivial⟩⟩ ?_
  rintro k hk
  have hal:=ai9 (fs:=l) (ms:=m) (i:=i) (k:=k)
  refine sx7 ?_;refine qy ?_;refine a6 ?_;refine a7 ?_;refine a8 _ rfl (fun r1=>?_) (fun r1=>?_)
  ·
   have h1:=of_decide_eq_true r1
   try simp only [ty] at h1
   refine aa ?_;refine a7 ?_;refine af ?_;refine sx7 ?_;(iterate 3 refine qy ?_);refine a6 ?_;refine d8 (E:=dg) ai c7 [0,1,2,3,4,5,6,7,8] ?_;(iterate 6 refine qy ?_)
   refine m9 1 ?_;refine ra 2 true rfl rfl rfl rfl rfl rfl ?_;refine qy ?_;refine a6 ?_;refine ⟨by kernel_rfl, ?_⟩;refine gy ?_;(iterate 2 refine qy ?_);refine a6 ?_;refine ⟨k + 1, ?_, ?_, ?_⟩
   · show k + 1 ≤ _;omega
   · first | omega | (dsimp only;omega)
   · exact ⟨⟨⟨_,rfl,(ck (a9n (by omega)))⟩,zy,c9,c9,c9,c9,c9,c9,trivial⟩,⟨⟨_,rfl,(a00 (a9n (by omega)) (CoP.refl _) (CoP.of_eq (congrArg (fun z=>PV.raw (.int .u32 z)) (ahr 1 _))))⟩,u9,trivial⟩⟩
  ·
   have h1:=of_decide_eq_false r1
   try simp only [ty] at h1
   obtain rfl:k = (bi (l.getD i default).rhs).length:=by omega
   refine au ?_;refine gy ?_;(iterate 2 refine qy ?_);refine a6 ?_;refine ⟨i + 1, ?_, ?_, ?_⟩
   · show i + 1 ≤ _;omega
   · first | omega | (dsimp only;omega)
   · exact ⟨⟨⟨_,rfl,(bn (aa3 (by omega)))⟩,zy,c9,c9,trivial⟩,⟨⟨_,rfl,(bo (aa3 (by omega)))⟩,trivial⟩⟩
 ·
  have h0:=of_decide_eq_false r0
  try simp only [ty] at h0
  obtain rfl:i = l.length:=by omega
  refine au ?_;refine sx7 ?_;(iterate 2 refine qy ?_);refine a6 ?_;refine c8 4 rfl rfl rfl ?_
  exact hx8 rfl rfl rfl (⟨CoC.one (CoP.of_eq (by rw [ahi];rfl)),trivial⟩)
theorem apa:al Tryd.prog 21:=⟨Tryd.f21,Tryd.func21,by kernel_rfl,by kernel_rfl⟩
theorem am0 (n:Int) (l m:List Fd) (x:AS):ao Tryd.prog 21 [pI n,pP (fdl l),pP (fdl m),pA x] (ay [pP (asl (ai2 n l m x)),pI (ckB n l m x)]):=by
 refine am (nt:=25) ai Tryd.func21 rfl rfl l9 ?_;refine sx7 ?_;(iterate 2 refine qy ?_);refine a6 ?_;refine a7 ?_;refine sx7 ?_;(iterate 4 refine qy ?_)
 refine rc rfl rfl rfl rfl rfl rfl ach (a9y n l m x) (CoL.refl _) rfl rfl ?_;refine qy ?_;refine a6 ?_;refine sx7 ?_;(iterate 2 refine qy ?_);refine a6 ?_;refine a8 _ rfl (fun r0=>?_) (fun r0=>?_)
 ·
  have h0:=r0
  have h0:=of_decide_eq_false (cb h0)
  try simp only [ty] at h0
  refine sx7 ?_;(iterate 3 refine qy ?_);refine a6 ?_
  exact hx8 rfl rfl rfl (⟨CoC.one (a7r (if_neg (by assumption))),CoC.refl _,trivial⟩)
 ·
  have h0:=r0
  have h0:=of_decide_eq_true (ce h0)
  try simp only [ty] at h0
  have hz:ckB n l m x = 0:=h0
  have hb:=sn hz
  obtain ⟨hn0,hn1,hl64,_,hm64,_⟩:=y8 hb.1
  refine aa ?_;refine sx7 ?_;(iterate 3 refine qy ?_);refine rc rfl rfl rfl rfl rfl rfl aej (ald l m hl64 hm64) (CoL.refl _) rfl rfl ?_;refine qy ?_
  refine rc rfl rfl rfl rfl rfl rfl afm (a9q n (ep l m) x hn0 hn1) (CoL.refl _) rfl rfl ?_;(iterate 2 refine qy ?_);refine a6 ?_
  exact hx8 rfl rfl rfl (⟨CoC.one (CoP.of_eq (by rw [show ai2 n l m x = bp n l m x from if_pos hz];rfl)),cci hz.symm,trivial⟩)
theorem ap1:al Tryd.prog 48:=⟨Tryd.f48,Tryd.func48,by kernel_rfl,by kernel_rfl⟩
theorem aq7 (f:Fd) (b:AS):ao Tryd.prog 48 [f.pc,pP (bx (asC b))] (ay [pB (ow b f)]):=by
 refine am (nt:=12) ai Tryd.func48 rfl rfl l9 ?_;refine sx7 ?_;refine m9 0 ?_;refine qy ?_;refine a6 ?_;refine sx7 ?_;(iterate 9 refine qy ?_);refine a6 ?_
 exact hx8 rfl rfl rfl (⟨ccb (by unfold ow;rw [fw,a7u]),trivial⟩)
theorem apn:al Tryd.prog 26:=⟨Tryd.f26,Tryd.func26,by kernel_rfl,by kernel_rfl⟩
theorem amo (n:Int) (l m:List Fd) (x:AS):ao Tryd.prog 26 [pI n,pP (fdl l),pP (fdl m),pA x] (ay [pA (aaq n l m x),pI (ckB n l m x)]):=by
 refine am (nt:=45) ai Tryd.func26 rfl rfl l9 ?_;refine sx7 ?_;(iterate 2 refine qy ?_);refine a6 ?_;refine a7 ?_;refine sx7 ?_;(iterate 4 refine qy ?_)
 refine rc rfl rfl rfl rfl rfl rfl ach (a9y n l m x) (CoL.refl _) rfl rfl ?_;refine qy ?_;refine a6 ?_;refine sx7 ?_;(iterate 2 refine qy ?_);refine a6 ?_;refine a8 _ rfl (fun r0=>?_) (fun r0=>?_)
 ·
  have h0:=r0
  have h0:=of_decide_eq_false (cb h0)
  try simp only [ty] at h0
  refine sx7 ?_;(iterate 3 refine qy ?_);refine a6 ?_
  exact hx8 rfl rfl rfl (⟨cci (congrArg asI (show (0:AS) = aaq n l m x from (if_neg (by assumption)).symm)),CoC.refl _,trivial⟩)
 ·
  have h0:=r0
  have h0:=of_decide_eq_true (ce h0)
  try simp only [ty] at h0
  have hz:ckB n l m x = 0:=h0
  have hb:=sn hz
  obtain ⟨hn0,hn1,hl64,_,hm64,_⟩:=y8 hb.1
  refine aa ?_;refine sx7 ?_;(iterate 2 refine qy ?_);refine a6 ?_;refine a7 ?_;refine sx7 ?_;(iterate 3 refine qy ?_);refine rc rfl rfl rfl rfl rfl rfl aej (ald l m hl64 hm64) (CoL.refl _) rfl rfl ?_
  refine qy ?_;refine rc rfl rfl rfl rfl rfl rfl afm (a9q n (ep l m) x hn0 hn1) (CoL.refl _) rfl rfl ?_;(iterate 2 refine qy ?_);refine a6 ?_;refine af ?_
  have hbl:=uj n l m x
  refine av (ι:=Nat) ⟨[(1,some _),(28,some _),(29,some _)],[]⟩ ⟨⟨c9,c9,c9,trivial⟩,trivial⟩ (fun i=>⟨[(11,some (vA (ly l x ((bp n l m x).take i)))),(30,some (vI i))],[]⟩) (fun i=>i ≤ (bp n l m x).length) (fun i=>(bp n l m x).length - i) (0) (Nat.zero_le _) ⟨⟨⟨_,rfl,(CoR.refl _)⟩,⟨_,rfl,(CoR.refl _)⟩,trivial⟩,trivial⟩ ?_
  rintro i hi
  refine sx7 ?_;refine qy ?_;refine a6 ?_;refine a7 ?_;refine a8 _ rfl (fun r1=>?_) (fun r1=>?_)
  ·
   have h1:=of_decide_eq_true r1
   try simp only [ty] at h1
   have hil:i < (bp n l m x).length:=Int.ofNat_lt.1 h1
   refine aa ?_;refine a7 ?_;refine af ?_;refine sx7 ?_;(iterate 2 refine qy ?_);refine m9 0 ?_;refine s9 ?_;refine a6 ?_;refine a7 ?_;refine sx7 ?_;refine qy ?_
   refine rc rfl rfl rfl rfl rfl rfl a15 (a57 ((bp n l m x).getD i default)) (CoL.refl _) rfl rfl ?_;refine qy ?_;refine a6 ?_;refine a8 _ rfl (fun r2=>?_) (fun r2=>?_)
   ·
    have h2:=r2
    have h2:=of_decide_eq_false (cb h2)
    try simp only [ty] at h2
    have hq:¬ bsz ((bp n l m x).getD i default) = 1:=fun e=>h2 (by rw [e];rfl)
    refine au ?_;refine gy ?_;(iterate 2 refine qy ?_);refine a6 ?_;refine ⟨i + 1, ?_, ?_, ?_⟩
    · show i + 1 ≤ _;omega
    · first | omega | (dsimp only;omega)
    · exact ⟨⟨⟨_,rfl,(by first | exact fg (congrArg asI (a81 hil hq)) | exact fg (congrArg asI (a83 hil hq ha)) | exact fg ((bOr _ _).trans (congrArg asI (a5e hil hq ha))))⟩,zy,c9,c9,c9,trivial⟩,trivial⟩
   ·
    have h2:=r2
    have h2:=of_decide_eq_true (ce h2)
    try simp only [ty] at h2
    have hq:bsz ((bp n l m x).getD i default) = 1:=Int.ofNat_inj.1 h2
    refine aa ?_;refine a7 ?_;refine ko 13 rfl rfl rfl ?_;refine gy ?_;(iterate 2 refine qy ?_)
    refine rc rfl rfl rfl rfl rfl rfl aor (arx l 48 1 (fun j=>[bx (asC ((bp n l m x).getD i default))].getD j .any) (ow ((bp n l m x).getD i default)) ap1 (fun f=>aq7 f ((bp n l m x).getD i default))) (CoL.refl _) rfl rfl ?_
    refine a6 ?_;refine a8 _ rfl (fun r3=>?_) (fun r3=>?_)
    ·
     have h3:=r3
     have ha:l.any (ow ((bp n l m x).getD i default)) = true:=r3
     refine gy ?_;(iterate 4 refine qy ?_);refine a6 ?_;refine gy ?_;(iterate 2 refine qy ?_);refine a6 ?_;refine ⟨i + 1, ?_, ?_, ?_⟩
     · show i + 1 ≤ _;omega
     · first | omega | (dsimp only;omega)
     · exact ⟨⟨⟨_,rfl,(by first | exact fg (congrArg asI (a81 hil hq)) | exact fg (congrArg asI (a83 hil hq ha)) | exact fg ((bOr _ _).trans (congrArg asI (a5e hil hq ha))))⟩,zy,c9,c9,c9,trivial⟩,trivial⟩
    ·
     have h3:=r3
     have ha:l.any (ow ((bp n l m x).getD i default)) = false:=r3
     refine aa ?_;refine gy ?_;(iterate 2 refine qy ?_);refine a6 ?_;refine ⟨i + 1, ?_, ?_, ?_⟩
     · show i + 1 ≤ _;omega
     · first | omega | (dsimp only;omega)
     · exact ⟨⟨⟨_,rfl,(by first | exact fg (congrArg asI (a81 hil hq)) | exact fg (congrArg asI (a83 hil hq ha)) | exact fg ((bOr _ _).trans (congrArg asI (a5e hil hq ha))))⟩,zy,c9,c9,c9,trivial⟩,trivial⟩
  ·
   have h1:=of_decide_eq_false r1
   try simp only [ty] at h1
   obtain rfl:i = (bp n l m x).length:=Nat.le_antisymm hi (Nat.le_of_not_lt fun q=>h1 (Int.ofNat_lt.2 q))
   rw [show (bp n l m x).take (bp n l m x).length = (bp n l m x) from List.take_length]
   refine au ?_;refine sx7 ?_;(iterate 3 refine qy ?_);refine a6 ?_
   exact hx8 rfl rfl rfl (⟨cci (congrArg asI (show je n l m x = aaq n l m x from (if_pos hz).symm)),cci hz.symm,trivial⟩)
theorem a19:al Tryd.prog 20:=⟨Tryd.f20,Tryd.func20,by kernel_rfl,by kernel_rfl⟩
theorem xh (n:Int) (l m:List Fd) (s:AS):ao Tryd.prog 20 [pI n,pP (fdl l),pP (fdl m),pA s] (ay [pI (ck4 n l m s)]):=by
 refine am (nt:=27) ai Tryd.func20 rfl rfl l9 ?_;refine sx7 ?_;refine qy ?_;refine a6 ?_;refine a7 ?_;refine sx7 ?_;(iterate 3 refine qy ?_);refine ct rfl rfl (fun r0=>?_) (fun r0=>?_)
 ·
  have h0:=of_decide_eq_true r0
  try simp only [ty] at h0
  (iterate 2 refine k9 (gtf r0) ?_);refine rq rfl rfl rfl rfl rfl ?_ (hp:=r0);refine a6 ?_;refine a8 _ rfl (fun _=>?_) (fun e=>by cases e);refine sx7 ?_;refine qy ?_;refine a6 ?_
  exact hx8 rfl rfl rfl (⟨cci (alk (by omega)).symm,trivial⟩)
 ·
  have h0:=of_decide_eq_false r0
  try simp only [ty] at h0
  (iterate 2 refine qy ?_ (hg:=(gff r0)));refine qy ?_;refine a6 ?_;refine a8 _ rfl (fun r1=>?_) (fun r1=>?_)
  ·
   have h1:=r1
   have h1:=qo r0 h1
   have h1:=of_decide_eq_true h1
   try simp only [ty] at h1
   refine sx7 ?_;refine qy ?_;refine a6 ?_
   exact hx8 rfl rfl rfl (⟨cci (alk (by omega)).symm,trivial⟩)
  ·
   have h1:=r1
   have h1:=qo r0 h1
   have h1:=of_decide_eq_false h1
   try simp only [ty] at h1
   refine aa ?_;refine a7 ?_;refine sx7 ?_;(iterate 3 refine qy ?_);refine rc rfl rfl rfl rfl rfl rfl afp (a9o n l m) (CoL.refl _) rfl rfl ?_;refine qy ?_;refine a6 ?_;refine sx7 ?_
   (iterate 2 refine qy ?_);refine a6 ?_;refine a8 _ rfl (fun r2=>?_) (fun r2=>?_)
   ·
    have h2:=r2
    have h2:=of_decide_eq_false (cb h2)
    try simp only [ty] at h2
    have hc:¬ (n < 0 ∨ 8 < n):=by omega
    refine sx7 ?_;(iterate 2 refine qy ?_);refine a6 ?_
    exact hx8 rfl rfl rfl (⟨cci ((v2 hc).trans (aks (by assumption))).symm,trivial⟩)
   ·
    have h2:=r2
    have h2:=of_decide_eq_true (ce h2)
    try simp only [ty] at h2
    have hb:ec n l m = 0:=h2
    obtain ⟨hn0,hn1,_⟩:=y8 hb
    have hc:¬ (n < 0 ∨ 8 < n):=by omega
    refine aa ?_;refine a7 ?_;refine sx7 ?_;(iterate 2 refine qy ?_);refine rq rfl rfl rfl rfl rfl ?_ (hp:=hn0);refine qy ?_;refine a6 ?_;refine a8 _ rfl (fun r3=>?_) (fun r3=>?_)
    ·
     have h3:=r3
     have h3:=of_decide_eq_false (cb h3)
     try simp only [ty] at h3
     refine sx7 ?_;refine qy ?_;refine a6 ?_
     exact hx8 rfl rfl rfl (⟨cci ((v2 hc).trans (alp hb (fun e=>(by assumption:¬ _ = _) ((un s n.toNat).trans (congrArg asI e))))).symm,trivial⟩)
    ·
     have h3:=r3
     have h3:=of_decide_eq_true (ce h3)
     try simp only [ty] at h3
     refine aa ?_;refine sx7 ?_;refine qy ?_;refine a6 ?_
     exact hx8 rfl rfl rfl (⟨cci ((v2 hc).trans (yd hb (dt.1 ((un s n.toNat).symm.trans (by assumption))))).symm,trivial⟩)
end Go.Hx
end
section
namespace Go.Hx
open Go.Proofs
set_option maxRecDepth 100000
set_option maxHeartbeats 1000000
theorem um {n:Int} (h:n ≤ 16):ah n >>> n.toNat = 0:=by
 unfold ah
 rw [show min n.toNat 32 = n.toNat by omega]
 exact (ua (by omega)).1 (gt _)
theorem ahe {n:Int} {l m:List Fd} {x:AS} (h:ckB n l m x = 0):ao Tryd.prog 21 [pI n,pP (fdl l),pP (fdl m),pA x] (ay [pP (asl (bp n l m x)),pI 0]):=by
 have:=am0 n l m x
 rw [h,show ai2 n l m x = bp n l m x from if_pos h] at this
 exact this
theorem ajr {n:Int} {l m:List Fd} {x:AS} (h:ckB n l m x = 0):ao Tryd.prog 26 [pI n,pP (fdl l),pP (fdl m),pA x] (ay [pA (je n l m x),pI 0]):=by
 have:=amo n l m x
 rw [h,show aaq n l m x = je n l m x from if_pos h] at this
 exact this
theorem a20 {n:Int} {l m:List Fd} {p x:AS} (h:p &&& ~~~(je n l m x) = 0):ud n l m p x = none:=if_pos h
theorem a16 {n:Int} {l m:List Fd} {p x:AS} (h:¬ p &&& ~~~(je n l m x) = 0) (h2:¬ 1 < (dx n l m x p).length):ud n l m p x = none:=by unfold ud;rw [if_neg h,if_neg h2]
theorem ad9 {n:Int} {l m:List Fd} {p x:AS} (h:¬ p &&& ~~~(je n l m x) = 0) (h2:1 < (dx n l m x p).length):ud n l m p x = some ⟨x,(dx n l m x p).getD 0 default⟩:=by unfold ud;rw [if_neg h,if_pos h2]
def is4 (n:Int) (l m:List Fd):Bool:=if ck4 n l m 0 = 0 then !(tu n l m (ah n)).2 else false
theorem akr:al Tryd.prog 8:=⟨Tryd.f8,Tryd.func8,by kernel_rfl,by kernel_rfl⟩
theorem arj (n:Int) (l m:List Fd) (x p:AS):ao Tryd.prog 8 [pI n,pP (fdl l),pP (fdl m),pA x,pA p] (ay [pP (asl (agt n l m x p)),pI (ck4 n l m (x ||| p))]):=by
 refine am (nt:=58) ai Tryd.func8 rfl rfl l9 ?_;refine sx7 ?_;(iterate 2 refine qy ?_);refine a6 ?_;refine a7 ?_;refine sx7 ?_;(iterate 6 refine qy ?_)
 refine rc rfl rfl rfl rfl rfl rfl a19 (xh n l m (x ||| p)) (⟨CoC.refl _,CoC.refl _,CoC.refl _,cci (bOr _ _),trivial⟩) rfl rfl ?_;refine qy ?_;refine a6 ?_;refine sx7 ?_;(iterate 2 refine qy ?_)
 refine a6 ?_;refine a8 _ rfl (fun r0=>?_) (fun r0=>?_)
 ·
  have h0:=r0
  have h0:=of_decide_eq_false (cb h0)
  try simp only [ty] at h0
  refine sx7 ?_;(iterate 3 refine qy ?_);refine a6 ?_
  exact hx8 rfl rfl rfl (⟨CoC.one (a7r (if_neg (by assumption))),CoC.refl _,trivial⟩)
 ·
  have h0:=r0
  have h0:=of_decide_eq_true (ce h0)
  try simp only [ty] at h0
  have hz:ck4 n l m (x ||| p) = 0:=h0
  have hx:=a2n (wc hz).2.2 (ui (a:=x) (b:=p))
  refine aa ?_;refine sx7 ?_;(iterate 4 refine qy ?_);refine rc rfl rfl rfl rfl rfl rfl apa (ahe hx) (CoL.refl _) rfl rfl ?_;(iterate 5 refine qy ?_);refine a6 ?_;refine a7 ?_;refine sx7 ?_
  (iterate 2 refine qy ?_);refine a6 ?_;refine a8 _ rfl (fun e=>by cases e) (fun _=>?_);refine aa ?_;refine sx7 ?_;refine qy ?_;refine a6 ?_;refine a7 ?_;refine sx7 ?_;(iterate 3 refine qy ?_)
  refine a6 ?_;refine af ?_;refine dm 15 900 true 1 34 (lf sC []) (by decide) rfl (CoP.sl rfl (.inr rfl) (fun h=>h) (fun i j hi _=>absurd hi (Nat.not_lt_zero i))) (.inr rfl) rfl ?_
  have hbl:=uj n l m x
  refine av (ι:=Nat) ⟨[(4,some _),(39,some _),(40,some _)],[]⟩ ⟨⟨c9,c9,c9,trivial⟩,trivial⟩ (fun i=>⟨[(15,some (.v (.one (.ref 900 (gd p ((bp n l m x).take i)).length)))),(41,some (vI i))],[(900,some (.arr true 1 34 (gd p ((bp n l m x).take i)).length (lf sC (gd p ((bp n l m x).take i)))))]⟩) (fun i=>i ≤ (bp n l m x).length) (fun i=>(bp n l m x).length - i) (0) (Nat.zero_le _) ⟨⟨⟨_,rfl,(CoR.refl _)⟩,⟨_,rfl,(CoR.refl _)⟩,trivial⟩,⟨u9,trivial⟩⟩ ?_
  rintro i hi
  have hcl:(gd p ((bp n l m x).take i)).length ≤ i:=Nat.le_trans (a0w _ _) (by rw [List.length_take];omega)
  refine sx7 ?_;refine qy ?_;refine a6 ?_;refine a7 ?_;refine a8 _ rfl (fun r1=>?_) (fun r1=>?_)
  ·
   have h1:=of_decide_eq_true r1
   try simp only [ty] at h1
   refine aa ?_;refine a7 ?_;refine af ?_;refine sx7 ?_;(iterate 3 refine qy ?_);refine a6 ?_;refine sx7 ?_;(iterate 4 refine qy ?_);refine a6 ?_;refine a8 _ rfl (fun r2=>?_) (fun r2=>?_)
   ·
    have h2:=r2
    have h2:=of_decide_eq_false (cb h2)
    try simp only [ty] at h2
    have hq:¬ (bp n l m x).getD i default &&& p = 0:=jd h2
    refine gy ?_;(iterate 4 refine qy ?_);refine m9 0 ?_;refine ra 1 true rfl rfl rfl rfl rfl rfl ?_;refine qy ?_;refine a6 ?_;refine gy ?_;(iterate 2 refine qy ?_);refine a6 ?_
    first | (refine ⟨i + 1, ?_, ?_, ?_⟩
             · show i + 1 ≤ _;omega
             · first | omega | (dsimp only;omega)
             · exact ⟨⟨⟨_,rfl,(ck (nj (by omega) hq))⟩,⟨_,rfl,(CoR.refl _)⟩,c9,c9,c9,trivial⟩,⟨⟨_,rfl,(ca (nj (by omega) hq) (CoP.of_eq (congrArg (fun z=>PV.raw (.int .u32 z)) (fc _ _))))⟩,trivial⟩⟩)
          | (refine ⟨i + 1, ?_, ?_, ?_⟩
             · show i + 1 ≤ _;omega
             · first | omega | (dsimp only;omega)
             · exact ⟨⟨⟨_,rfl,(bn (nn (by omega) hq))⟩,⟨_,rfl,(CoR.refl _)⟩,c9,c9,c9,trivial⟩,⟨⟨_,rfl,(bo (nn (by omega) hq))⟩,trivial⟩⟩)
   ·
    have h2:=r2
    have h2:=of_decide_eq_true (ce h2)
    try simp only [ty] at h2
    have hq:(bp n l m x).getD i default &&& p = 0:=lr h2
    refine aa ?_;refine gy ?_;(iterate 2 refine qy ?_);refine a6 ?_
    first | (refine ⟨i + 1, ?_, ?_, ?_⟩
             · show i + 1 ≤ _;omega
             · first | omega | (dsimp only;omega)
             · exact ⟨⟨⟨_,rfl,(ck (nj (by omega) hq))⟩,⟨_,rfl,(CoR.refl _)⟩,c9,c9,c9,trivial⟩,⟨⟨_,rfl,(ca (nj (by omega) hq) (CoP.of_eq (congrArg (fun z=>PV.raw (.int .u32 z)) (fc _ _))))⟩,trivial⟩⟩)
          | (refine ⟨i + 1, ?_, ?_, ?_⟩
             · show i + 1 ≤ _;omega
             · first | omega | (dsimp only;omega)
             · exact ⟨⟨⟨_,rfl,(bn (nn (by omega) hq))⟩,⟨_,rfl,(CoR.refl _)⟩,c9,c9,c9,trivial⟩,⟨⟨_,rfl,(bo (nn (by omega) hq))⟩,trivial⟩⟩)
  ·
   have h1:=of_decide_eq_false r1
   try simp only [ty] at h1
   obtain rfl:i = (bp n l m x).length:=by omega
   rw [show (bp n l m x).take (bp n l m x).length = (bp n l m x) from List.take_length]
   refine au ?_;refine a7 ?_;refine c8 15 rfl rfl rfl ?_;refine gy ?_;refine qy ?_;refine rc rfl rfl rfl rfl rfl rfl a10 (a1j (gd p (bp n l m x)) (yn n l m x p)) (CoL.refl _) rfl rfl ?_
   (iterate 2 refine qy ?_);refine a6 ?_
   exact hx8 rfl rfl rfl (⟨CoC.one (CoP.of_eq (by rw [show agt n l m x p = dx n l m x p from if_pos hz];rfl)),cci hz.symm,trivial⟩)
theorem ada {n:Int} {l m:List Fd} {x p:AS} (h:ck4 n l m (x ||| p) = 0):ao Tryd.prog 8 [pI n,pP (fdl l),pP (fdl m),pA x,pA p] (ay [pP (asl (dx n l m x p)),pI 0]):=by
 have:=arj n l m x p
 rw [h,show agt n l m x p = dx n l m x p from if_pos h] at this
 exact this
theorem x3:al Tryd.prog 13:=⟨Tryd.f13,Tryd.func13,by kernel_rfl,by kernel_rfl⟩
theorem abk (n:Int) (l m:List Fd) (p:AS):ao Tryd.prog 13 [pI n,pP (fdl l),pP (fdl m),pA p] (ay [(tu n l m p).1.pc,pB (tu n l m p).2,pI (ck4 n l m p)]):=by
 refine am (nt:=72) ai Tryd.func13 rfl rfl l9 ?_;refine sx7 ?_;refine m9 0 ?_;(iterate 2 refine qy ?_);refine a6 ?_;refine a7 ?_;refine sx7 ?_;(iterate 4 refine qy ?_)
 refine rc rfl rfl rfl rfl rfl rfl a19 (xh n l m p) (CoL.refl _) rfl rfl ?_;refine qy ?_;refine a6 ?_;refine sx7 ?_;(iterate 2 refine qy ?_);refine a6 ?_;refine a8 _ rfl (fun r0=>?_) (fun r0=>?_)
 ·
  have h0:=r0
  have h0:=of_decide_eq_false (cb h0)
  try simp only [ty] at h0
  refine sx7 ?_;(iterate 2 refine qy ?_);refine s9 ?_;(iterate 2 refine qy ?_);refine a6 ?_
  exact hx8 rfl rfl rfl (by rw [aoh (by assumption)];exact ⟨CoC.agg ⟨CoP.of_eq rfl,CoP.of_eq rfl,trivial⟩,CoC.refl _,CoC.refl _,trivial⟩)
 ·
  have h0:=r0
  have h0:=of_decide_eq_true (ce h0)
  try simp only [ty] at h0
  have hz:ck4 n l m p = 0:=h0
  have hsl:=a48 p
  refine aa ?_;refine a7 ?_;refine sx7 ?_;refine qy ?_;refine rc rfl rfl rfl rfl rfl rfl aqi (ara p) (CoL.refl _) rfl rfl ?_;(iterate 2 refine qy ?_);refine a6 ?_;refine af ?_
  refine av (ι:=Nat) ⟨[(0,some _),(1,some _),(2,some _),(3,some _),(8,some _),(27,some _),(28,some _)],[(0,some _)]⟩ ⟨⟨c9,c9,c9,c9,c9,c9,c9,trivial⟩,⟨u9,trivial⟩⟩ (fun i=>⟨[(29,some (vI i))],[]⟩) (fun i=>i ≤ (bg p).length ∧ ((bg p).take i).findSome? (ud n l m p) = none) (fun i=>(bg p).length - i) (0) (⟨Nat.zero_le _,rfl⟩) ⟨⟨⟨_,rfl,(CoR.refl _)⟩,trivial⟩,trivial⟩ ?_
  rintro i ⟨hi,hI⟩
  refine sx7 ?_;refine qy ?_;refine a6 ?_;refine a7 ?_;refine a8 _ rfl (fun r1=>?_) (fun r1=>?_)
  ·
   have h1:=of_decide_eq_true r1
   try simp only [ty] at h1
   have hil:i < (bg p).length:=by omega
   have hxs:sub ((bg p).getD i default) p:=vg (it hil)
   have hX:ckB n l m ((bg p).getD i default) = 0:=a2n (wc hz).2.2 hxs
   have hXp:ck4 n l m (((bg p).getD i default) ||| p) = 0:=xv hz (pn hxs (gt p))
   refine aa ?_;refine a7 ?_;refine af ?_;refine sx7 ?_;(iterate 3 refine qy ?_);refine a6 ?_;refine sx7 ?_;(iterate 4 refine qy ?_)
   refine rc rfl rfl rfl rfl rfl rfl apn (ajr hX) (CoL.refl _) rfl rfl ?_;(iterate 5 refine qy ?_);refine a6 ?_;refine a7 ?_;refine sx7 ?_;(iterate 2 refine qy ?_);refine a6 ?_
   refine a8 _ rfl (fun e=>by cases e) (fun _=>?_);refine aa ?_;refine a7 ?_;refine sx7 ?_;(iterate 4 refine qy ?_);refine a6 ?_;refine a8 _ rfl (fun r2=>?_) (fun r2=>?_)
   ·
    have h2:=of_decide_eq_true r2
    try simp only [ty] at h2
    have hq:p &&& ~~~(je n l m ((bg p).getD i default)) = 0:=abi h2
    refine au ?_;refine gy ?_;(iterate 2 refine qy ?_);refine a6 ?_;refine ⟨i + 1, ?_, ?_, ?_⟩
    · exact ⟨by omega,(ey hil hI).trans (by first | exact a20 hq | exact a16 hq hc)⟩
    · first | omega | (dsimp only;omega)
    · exact ⟨⟨⟨_,rfl,(CoR.refl _)⟩,c9,c9,c9,c9,c9,c9,c9,trivial⟩,⟨u9,trivial⟩⟩
   ·
    have h2:=of_decide_eq_false r2
    try simp only [ty] at h2
    have hq:¬ p &&& ~~~(je n l m ((bg p).getD i default)) = 0:=a68 h2
    refine aa ?_;refine sx7 ?_;(iterate 5 refine qy ?_);refine rc rfl rfl rfl rfl rfl rfl akr (ada hXp) (CoL.refl _) rfl rfl ?_;(iterate 5 refine qy ?_);refine a6 ?_;refine a7 ?_;refine sx7 ?_
    (iterate 2 refine qy ?_);refine a6 ?_;refine a8 _ rfl (fun e=>by cases e) (fun _=>?_);refine aa ?_;refine sx7 ?_;(iterate 3 refine qy ?_);refine a6 ?_
    refine a8 _ rfl (fun r3=>?_) (fun r3=>?_)
    ·
     have h3:=of_decide_eq_true r3
     try simp only [ty] at h3
     have hc:1 < (dx n l m ((bg p).getD i default) p).length:=by omega
     have hcl:(dx n l m ((bg p).getD i default) p).length ≤ 8589934592:=Nat.le_trans (md _) (yn n l m ((bg p).getD i default) p)
     refine sx7 ?_;(iterate 5 refine qy ?_);refine s9 ?_;(iterate 2 refine qy ?_);refine a6 ?_;refine dc ?_;refine ⟨.inr rfl, ?_⟩
     have he:tu n l m p = (⟨((bg p).getD i default),(dx n l m ((bg p).getD i default) p).getD 0 default⟩,true):=by
      rw [x7 hz,show cw n l m p = some _ from ld hil hI (ad9 hq hc)]
      rfl
     exact f9 rfl rfl (by rw [he];exact ⟨CoC.agg ⟨CoP.refl _,CoP.refl _,trivial⟩,CoC.refl _,cci hz.symm,trivial⟩)
    ·
     have h3:=of_decide_eq_false r3
     try simp only [ty] at h3
     have hc:¬ 1 < (dx n l m ((bg p).getD i default) p).length:=by omega
     refine aa ?_;refine gy ?_;(iterate 2 refine qy ?_);refine a6 ?_;refine ⟨i + 1, ?_, ?_, ?_⟩
     · exact ⟨by omega,(ey hil hI).trans (by first | exact a20 hq | exact a16 hq hc)⟩
     · first | omega | (dsimp only;omega)
     · exact ⟨⟨⟨_,rfl,(CoR.refl _)⟩,c9,c9,c9,c9,c9,c9,c9,trivial⟩,⟨u9,trivial⟩⟩
  ·
   have h1:=of_decide_eq_false r1
   try simp only [ty] at h1
   obtain rfl:i = (bg p).length:=by omega
   rw [show (bg p).take (bg p).length = (bg p) from List.take_length] at hI
   refine au ?_;refine sx7 ?_;refine qy ?_;refine s9 ?_;(iterate 2 refine qy ?_);refine a6 ?_;refine dc ?_;refine ⟨.inr rfl, ?_⟩
   have he:tu n l m p = (⟨0,0⟩,false):=by
    rw [x7 hz,show cw n l m p = none from hI]
    rfl
   exact f9 rfl rfl (by rw [he];exact ⟨CoC.agg ⟨CoP.of_eq rfl,CoP.of_eq rfl,trivial⟩,CoC.refl _,cci hz.symm,trivial⟩)
theorem a87 {n:Int} {l m:List Fd} {p:AS} (h:ck4 n l m p = 0):ao Tryd.prog 13 [pI n,pP (fdl l),pP (fdl m),pA p] (ay [(vF (cw n l m) p).pc,pB (vBo (cw n l m) p),pI 0]):=by
 have:=abk n l m p
 rw [h,x7 h] at this
 exact this
theorem aps:al Tryd.prog 15:=⟨Tryd.f15,Tryd.func15,by kernel_rfl,by kernel_rfl⟩
theorem as8 (n:Int) (l m:List Fd):ao Tryd.prog 15 [pI n,pP (fdl l),pP (fdl m)] (ay [pB (is4 n l m),pI (ck4 n l m 0)]):=by
 refine am (nt:=37) ai Tryd.func15 rfl rfl l9 ?_;refine sx7 ?_;(iterate 2 refine qy ?_);refine a6 ?_;refine a7 ?_;refine sx7 ?_;(iterate 3 refine qy ?_)
 refine rc rfl rfl rfl rfl rfl rfl a19 (xh n l m 0) (CoL.refl _) rfl rfl ?_;refine qy ?_;refine a6 ?_;refine sx7 ?_;(iterate 2 refine qy ?_);refine a6 ?_;refine a8 _ rfl (fun r0=>?_) (fun r0=>?_)
 ·
  have h0:=r0
  have h0:=of_decide_eq_false (cb h0)
  try simp only [ty] at h0
  refine sx7 ?_;(iterate 3 refine qy ?_);refine a6 ?_
  exact hx8 rfl rfl rfl (⟨ccb (show false = is4 n l m from (if_neg (by assumption)).symm),CoC.refl _,trivial⟩)
 ·
  have h0:=r0
  have h0:=of_decide_eq_true (ce h0)
  try simp only [ty] at h0
  have hz:ck4 n l m 0 = 0:=h0
  obtain ⟨hn0,hn8,hb⟩:=wc hz
  have hn1:n ≤ 16:=by omega
  have hf:ck4 n l m (ah n) = 0:=by rw [v2 (by omega)];exact yd (sn hb).1 (um hn1)
  refine aa ?_;refine sx7 ?_;(iterate 5 refine qy ?_);refine rq rfl rfl rfl rfl rfl ?_ (hp:=⟨a0j hn0 hn1,wa hn0 hn1⟩)
  refine rc rfl rfl rfl rfl rfl rfl x3 (a87 hf) (⟨CoC.refl _,CoC.refl _,CoC.refl _,cci (xb hn0 hn1),trivial⟩) rfl rfl ?_;(iterate 4 refine qy ?_);refine m9 0 ?_;refine s9 ?_;(iterate 2 refine qy ?_)
  refine a6 ?_;refine sx7 ?_;(iterate 9 refine qy ?_);refine a6 ?_
  exact hx8 rfl rfl rfl (⟨ccb (by unfold is4;rw [if_pos hz,x7 hf];rfl),cci hz.symm,trivial⟩)
theorem aec {V:AS → Option Fd} {t:List AS} {i j:Nat} (h:i = j):PV.raw (.int .u32 (bz .andNot .u32 (asI (t.getD i default)) (asI (vF V (t.getD j default)).rhs))) = sC (qg V (t.getD j default)) 0:=by
 subst h
 exact congrArg (fun z=>PV.raw (.int .u32 z)) (fw _ _)
theorem a9d {n:Int} {l m:List Fd} {t:List AS} {s:AS} (ht:∀ q ∈ t,ck4 n l m q = 0) (hv:vBo (cw n l m) s = true) (hs:ck4 n l m s = 0):∀ q ∈ t ++ [mn (cw n l m) s,qg (cw n l m) s],ck4 n l m q = 0:=by
 intro q hq
 rcases List.mem_append.1 hq with hq | hq
 · exact ht q hq
 · obtain ⟨h1,h2,h3⟩:=py n l m s _ (a0q hv)
   simp only [List.mem_cons,List.not_mem_nil,or_false] at hq
   rcases hq with rfl | rfl
   · exact xv hs h1
   · exact xv hs qq
theorem afs:al Tryd.prog 19:=⟨Tryd.f19,Tryd.func19,by kernel_rfl,by kernel_rfl⟩
theorem aku (n:Int) (l m:List Fd):ao Tryd.prog 19 [pI n,pP (fdl l),pP (fdl m)] (ay [pP (asl (a7v n l m)),pI (ck4 n l m 0)]):=by
 refine am (nt:=71) ai Tryd.func19 rfl rfl l9 ?_;refine sx7 ?_;(iterate 2 refine qy ?_);refine a6 ?_;refine a7 ?_;refine sx7 ?_;(iterate 3 refine qy ?_)
 refine rc rfl rfl rfl rfl rfl rfl a19 (xh n l m 0) (CoL.refl _) rfl rfl ?_;refine qy ?_;refine a6 ?_;refine sx7 ?_;(iterate 2 refine qy ?_);refine a6 ?_;refine a8 _ rfl (fun r0=>?_) (fun r0=>?_)
 ·
  have h0:=r0
  have h0:=of_decide_eq_false (cb h0)
  try simp only [ty] at h0
  refine sx7 ?_;(iterate 3 refine qy ?_);refine a6 ?_
  exact hx8 rfl rfl rfl (⟨CoC.one (a7r (aph (by assumption))),CoC.refl _,trivial⟩)
 ·
  have h0:=r0
  have h0:=of_decide_eq_true (ce h0)
  try simp only [ty] at h0
  have hz:ck4 n l m 0 = 0:=h0
  obtain ⟨hn0,hn8,hb⟩:=wc hz
  have hn1:n ≤ 16:=by omega
  have hf:ck4 n l m (ah n) = 0:=by rw [v2 (by omega)];exact yd (sn hb).1 (um hn1)
  refine aa ?_;refine sx7 ?_;(iterate 2 refine qy ?_);refine rq rfl rfl rfl rfl rfl ?_ (hp:=⟨a0j hn0 hn1,wa hn0 hn1⟩);refine m9 0 ?_;refine qy ?_;refine a6 ?_;refine sx7 ?_;refine qy ?_
  refine a6 ?_;refine a7 ?_;refine af ?_;refine dm 10 900 true 1 34 (lf sC []) (by decide) rfl (CoP.sl rfl (.inr rfl) (fun h=>h) (fun i j hi _=>absurd hi (Nat.not_lt_zero i))) (.inr rfl) rfl ?_
  refine ww 9 901 rfl rfl rfl rfl ?_
  refine av (ι := Nat × List AS × List AS) ⟨[(0, some _), (1, some _), (2, some _)], []⟩ ⟨⟨c9, c9, c9, trivial⟩, trivial⟩ (fun x => ⟨[(10, some (.v (.one (.ref 900 x.2.2.length)))), (9, some (.v (.one (.ref 901 x.2.1.length))))], [(900, some (.arr true 1 34 x.2.2.length (lf sC x.2.2))), (901, some (.arr true 1 34 x.2.1.length (lf sC x.2.1)))]⟩) (fun x => ve (cw n l m) (ah n) x ∧ ∀ q ∈ x.2.1, ck4 n l m q = 0) (fun x => x.1) ((6562, [ah n], [])) (⟨ad8 hn8, fun q hq => by
        simp only [List.mem_singleton] at hq
        rw [hq];exact hf⟩) ⟨⟨zy,zy,trivial⟩,⟨u9,⟨_,rfl,(a0k (CoP.of_eq (congrArg (fun z=>PV.raw (.int .u32 z)) (xb hn0 hn1))))⟩,trivial⟩⟩ ?_
  rintro x ⟨hx,hk⟩
  have hlen:=ut hx
  refine ww 9 902 rfl rfl rfl rfl ?_;refine a7 ?_;refine sx7 ?_;(iterate 3 refine qy ?_);refine a6 ?_;refine a8 _ rfl (fun r1=>?_) (fun r1=>?_)
  ·
   have h1:=of_decide_eq_true r1
   try simp only [ty] at h1
   have hs:ck4 n l m (x.2.1.getD (x.2.1.length - 1) default) = 0:=hk _ (it (by omega))
   refine aa ?_;refine af ?_;refine sx7 ?_;(iterate 7 refine qy ?_);refine a6 ?_;refine sx7 ?_;(iterate 6 refine qy ?_);refine a6 ?_
   refine a0p ⟨[(0,some _),(1,some _),(2,some _),(9,some _),(10,some _),(11,some _)],[(900,some _),(902,some _)]⟩ (by exact ⟨⟨c9,c9,c9,c9,c9,c9,trivial⟩,⟨u9,u9,trivial⟩⟩) ?_
   refine ahd 9 901 rfl rfl rfl rfl (by simp only [eo,bt,Int.toNat_natCast];omega) rfl ?_;refine sx7 ?_;(iterate 4 refine qy ?_)
   refine rc rfl rfl rfl rfl rfl rfl x3 (a87 (p:=(x.2.1.getD (x.2.1.length - 1) default)) hs) (⟨CoC.refl _,CoC.refl _,CoC.refl _,CoC.one (CoP.of_eq (congrArg (fun i=>asC (x.2.1.getD i default)) (by omega))),trivial⟩) rfl rfl ?_
   (iterate 4 refine qy ?_);refine m9 1 ?_;refine s9 ?_;(iterate 2 refine qy ?_);refine a6 ?_;refine a7 ?_;refine sx7 ?_;(iterate 2 refine qy ?_);refine a6 ?_
   refine a8 _ rfl (fun e=>by cases e) (fun _=>?_);refine aa ?_;refine sx7 ?_;refine qy ?_;refine a6 ?_;refine a8 _ rfl (fun r2=>?_) (fun r2=>?_)
   ·
    have h2:=r2
    have hv:vBo (cw n l m) (x.2.1.getD (x.2.1.length - 1) default) = true:=r2
    refine gy ?_;(iterate 10 refine qy ?_);refine m9 2 ?_;refine ra 3 true rfl rfl rfl rfl rfl rfl ?_;refine qy ?_;refine a6 ?_
    first | (refine ⟨(x.1 - 1, (x.2.1.take (x.2.1.length - 1)) ++ [mn (cw n l m) (x.2.1.getD (x.2.1.length - 1) default), qg (cw n l m) (x.2.1.getD (x.2.1.length - 1) default)], x.2.2), ?_, ?_, ?_⟩
             · exact ⟨af1 (py n l m) hx (by omega) hv,a9d (fun q hq=>hk q (List.mem_of_mem_take hq)) hv hs⟩
             · dsimp only
               omega
             · exact ⟨⟨zy,⟨_,rfl,(a11 (by simp only [eo,bt,List.length_append,List.length_cons,List.length_nil,List.length_take];omega))⟩,c9,c9,c9,trivial⟩,⟨u9,⟨_,rfl,(aa9 (by simp only [eo,bt,List.length_append,List.length_cons,List.length_nil,List.length_take];omega) (fun i hi=>CoP.of_eq (a80 hi)) (CoP.of_eq (congrArg (fun z=>PV.raw (.int .u32 z)) (bOr _ _))) (CoP.of_eq (aec (by omega))) rfl)⟩,trivial⟩⟩)
          | (refine ⟨(x.1 - 1,(x.2.1.take (x.2.1.length - 1)),x.2.2 ++ [(x.2.1.getD (x.2.1.length - 1) default)]), ?_, ?_, ?_⟩
             · exact ⟨adt hx (by omega) hv,fun q hq=>hk q (List.mem_of_mem_take hq)⟩
             · dsimp only
               omega
             · exact ⟨⟨⟨_,rfl,(ck rfl)⟩,⟨_,rfl,(a11 (by simp only [eo,bt,List.length_append,List.length_cons,List.length_nil,List.length_take];omega))⟩,c9,c9,c9,trivial⟩,⟨⟨_,rfl,(ca rfl (CoP.of_eq (congrArg (fun i=>asC (x.2.1.getD i default)) (by omega))))⟩,⟨_,rfl,(a7d (by omega) (by simp only [eo,bt];omega))⟩,trivial⟩⟩)
   ·
    have h2:=r2
    have hv:vBo (cw n l m) (x.2.1.getD (x.2.1.length - 1) default) = false:=r2
    refine gy ?_;(iterate 2 refine qy ?_);refine m9 4 ?_;refine ra 5 true rfl rfl rfl rfl rfl rfl ?_;refine qy ?_;refine a6 ?_
    first | (refine ⟨(x.1 - 1, (x.2.1.take (x.2.1.length - 1)) ++ [mn (cw n l m) (x.2.1.getD (x.2.1.length - 1) default), qg (cw n l m) (x.2.1.getD (x.2.1.length - 1) default)], x.2.2), ?_, ?_, ?_⟩
             · exact ⟨af1 (py n l m) hx (by omega) hv,a9d (fun q hq=>hk q (List.mem_of_mem_take hq)) hv hs⟩
             · dsimp only
               omega
             · exact ⟨⟨zy,⟨_,rfl,(a11 (by simp only [eo,bt,List.length_append,List.length_cons,List.length_nil,List.length_take];omega))⟩,c9,c9,c9,trivial⟩,⟨u9,⟨_,rfl,(aa9 (by simp only [eo,bt,List.length_append,List.length_cons,List.length_nil,List.length_take];omega) (fun i hi=>CoP.of_eq (a80 hi)) (CoP.of_eq (congrArg (fun z=>PV.raw (.int .u32 z)) (bOr _ _))) (CoP.of_eq (aec (by omega))) rfl)⟩,trivial⟩⟩)
          | (refine ⟨(x.1 - 1,(x.2.1.take (x.2.1.length - 1)),x.2.2 ++ [(x.2.1.getD (x.2.1.length - 1) default)]), ?_, ?_, ?_⟩
             · exact ⟨adt hx (by omega) hv,fun q hq=>hk q (List.mem_of_mem_take hq)⟩
             · dsimp only
               omega
             · exact ⟨⟨⟨_,rfl,(ck rfl)⟩,⟨_,rfl,(a11 (by simp only [eo,bt,List.length_append,List.length_cons,List.length_nil,List.length_take];omega))⟩,c9,c9,c9,trivial⟩,⟨⟨_,rfl,(ca rfl (CoP.of_eq (congrArg (fun i=>asC (x.2.1.getD i default)) (by omega))))⟩,⟨_,rfl,(a7d (by omega) (by simp only [eo,bt];omega))⟩,trivial⟩⟩)
  ·
   have h1:=of_decide_eq_false r1
   try simp only [ty] at h1
   refine au ?_;refine a7 ?_;refine c8 10 rfl rfl rfl ?_
   have hx0:x.2.1.length = 0:=by omega
   refine gy ?_;refine qy ?_;refine rc rfl rfl rfl rfl rfl rfl apw (ah2 x.2.2 (by omega)) (CoL.refl _) rfl rfl ?_;(iterate 2 refine qy ?_);refine a6 ?_
   exact hx8 rfl rfl rfl (⟨CoC.one (CoP.of_eq (by rw [aq1 hz,ajq hx hx0];rfl)),cci hz.symm,trivial⟩)
end Go.Hx
end
section
namespace Go.Hx
theorem ann:tu 3 [] [⟨1,2⟩] 7 = (⟨1,2⟩,true) ∧ ck4 3 [] [⟨1,2⟩] 7 = 0:=by decide +kernel
theorem ao1:a7v 3 [] [⟨1,2⟩] = [3,5] ∧ ck4 3 [] [⟨1,2⟩] 0 = 0:=by decide +kernel
theorem ape:tu 3 [⟨2,4⟩] [] 7 = (⟨2,1⟩,true) ∧ ck4 3 [⟨2,4⟩] [] 7 = 0:=by decide +kernel
theorem aq4:a7v 3 [⟨2,4⟩] [] = [3,6] ∧ ck4 3 [⟨2,4⟩] [] 0 = 0:=by decide +kernel
structure Mx where
 d:Dps
 m:List Dp
deriving Inhabited
def Mx.mv (x:Mx):List Fd:=x.m.map (Dp.fd x.d.num)
def Mx.c (x:Mx):Nat → PV
 | 0=>x.d.c 0
 | 1=>x.d.c 1
 | 2=>dpl x.m
 | _=>.any
abbrev Mx.pc (x:Mx):PC:=.agg [x.c 0,x.c 1,x.c 2]
def Mx.ok (x:Mx):Bool:=decide (x.d.l.length ≤ 6) && decide (x.m.length ≤ 4)
theorem aaw {x:Mx} (h:x.ok = true):x.d.l.length ≤ 6 ∧ x.m.length ≤ 4 ∧ ec x.d.num x.d.fds x.mv = 0:=by
 unfold Mx.ok at h
 rw [Bool.and_eq_true,decide_eq_true_eq,decide_eq_true_eq] at h
 refine ⟨h.1,h.2, ?_⟩
 have hv:=apu h.1
 obtain ⟨h0,h1⟩:=x5 x.d
 refine (adp hv (by unfold Mx.mv;rw [List.length_map];omega) fun j hj=>?_).symm
 have hm:=it hj
 unfold Mx.mv at hm
 obtain ⟨y,hy,e⟩:=List.mem_map.1 hm
 have e:Dp.fd x.d.num y = x.mv.getD j default:=e
 rw [← e]
 exact (a3h h0 (by omega)).2 ⟨l5,l5⟩
theorem anu {a b:List AS} (hl:a.length = b.length) (h:∀ j,j < a.length → a.getD j default = b.getD j default):a = b:=by
 apply List.ext_getElem hl
 intro i h1 h2
 have:=h i h1
 rw [List.getD_eq_getElem?_getD,List.getD_eq_getElem?_getD,List.getElem?_eq_getElem h1,List.getElem?_eq_getElem h2] at this
 simpa using this
def aud (n:Int) (l m:List Fd) (ps:List AS):Int:=if ck4 n l m 0 = 0 then lsC n ps l m else ck4 n l m 0
def auk (n:Int) (l m:List Fd) (ps:List AS):Bool:=if ck4 n l m 0 = 0 then (if lsC n ps l m = 0 then lsB n ps l m && ps.all (fun p=>!vBo (cw n l m) p) else false) else false
end Go.Hx
end
section
namespace Go.Hx
open Go.Proofs Go.Proofs.YtidophngianjiaaDoor
open Go.RowKit Go.ChangeShapes Go.WideShapes Go.ChangeAt
theorem aoi:RdB Tryd.prog 26 3 Mx.c fun b x=>x.d.l.length ≤ b ∧ x.m.length ≤ b:=by
 intro H enc w sp held fuel cs x h
 obtain ⟨hl,n,hf⟩:=a28 Tryd.underlying26 h
 obtain ⟨y0,e0⟩:=hf 0 _ rfl
 obtain ⟨y1,e1⟩:=hf 1 _ rfl
 obtain ⟨a0,b0,h0⟩:=lc (B:=fun b (d:Dps)=>d.l.length ≤ b) (fun _ _ _ h k=>Nat.le_trans k h) as4 e0
 obtain ⟨a1,b1,h1⟩:=lc (B:=fun b (l:List Dp)=>l.length ≤ b) (fun _ _ _ h k=>Nat.le_trans k h) al8 e1
 refine ⟨hl.trans (by kernel_rfl),(⟨a0,a1⟩:Mx),⟨b0,b1⟩,fun j hj=>?_⟩
 match j,hj with
 | 0,_=>exact h0 0 (by omega)
 | 1,_=>exact h0 1 (by omega)
 | 2,_=>exact h1 0 (by omega)
def s2C (x:AS × AS):Nat → PV
 | 0=>asC x.1
 | 1=>asC x.2
 | _=>.any
theorem akp:Tryd.prog.readableRec 26 = true ∧ 26 < Tryd.prog.types.size:=⟨by kernel_rfl,of_decide_eq_true (by kernel_rfl)⟩
end Go.Hx
end
section
namespace Go.Hx
open Go.Proofs Go.Proofs.YtidophngianjiaaDoor
open Go.RowKit Go.ChangeShapes Go.WideShapes Go.ChangeAt
def s8C (x:BitVec 8 × BitVec 8):Nat → PV
 | 0=>u8C x.1 0
 | 1=>u8C x.2 0
 | _=>.any
theorem at1:RdB Tryd.prog 27 2 s8C fun _ _=>True:=by
 intro H enc w sp held fuel cs x h
 obtain ⟨hl,n,hf⟩:=agu Tryd.underlying27 h
 obtain ⟨y0,e0⟩:=hf 0 (by omega)
 obtain ⟨y1,e1⟩:=hf 1 (by omega)
 have hc:Tryd.prog.cellsOf 5 = 1:=by kernel_rfl
 obtain ⟨a0,_,h0⟩:=lc (off:=0) (fun _ _ _ _ _=>trivial) rd5.toB (by simpa using e0)
 obtain ⟨a1,_,h1⟩:=lc (off:=1) (fun _ _ _ _ _=>trivial) rd5.toB (by simpa [hc] using e1)
 refine ⟨hl.trans (by kernel_rfl),((a0,a1):BitVec 8 × BitVec 8),trivial,fun j hj=>?_⟩
 match j,hj with
 | 0,_=>exact h0 0 (by omega)
 | 1,_=>exact h1 0 (by omega)
theorem asd:Tryd.prog.readableRec 5 = true ∧ 5 < Tryd.prog.types.size:=⟨by kernel_rfl,of_decide_eq_true (by kernel_rfl)⟩
theorem ar1:Tryd.prog.readableRec 27 = true ∧ 27 < Tryd.prog.types.size:=⟨by kernel_rfl,of_decide_eq_true (by kernel_rfl)⟩
end Go.Hx
end

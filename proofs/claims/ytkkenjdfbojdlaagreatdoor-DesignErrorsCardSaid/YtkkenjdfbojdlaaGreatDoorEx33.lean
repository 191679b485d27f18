/- A part of the proof: Y2 Y3 Bz5 Bz6 Ch15 Y4 Bz7 Bz8 Bz9 Ls6 Ls8. -/
import Derived.Test.YtkkenjdfbojdlaaGreatDoorEx16
import Derived.Test.YtkkenjdfbojdlaaGreatDoorEx17
import Derived.Test.YtkkenjdfbojdlaaGreatDoorEx18
import Derived.Test.YtkkenjdfbojdlaaGreatDoorEx21
import Derived.Test.YtkkenjdfbojdlaaGreatDoorEx22
import Derived.Test.YtkkenjdfbojdlaaGreatDoorEx23
import Derived.Test.YtkkenjdfbojdlaaGreatDoorEx26
import Derived.Test.YtkkenjdfbojdlaaGreatDoorEx30
import Derived.Test.YtkkenjdfbojdlaaGreatDoorEx31
import Derived.Test.YtkkenjdfbojdlaaGreatDoorEx32
set_option linter.all false
section
namespace Go.Hx
open Go.Proofs
set_option maxRecDepth 100000
set_option maxHeartbeats 1000000
theorem b1i:goodFn Tryz.prog 234:=⟨Tryz.f234,Tryz.func234,by kernel_rfl,by kernel_rfl⟩
theorem b7g (n:Nat) (c:Bool) (f:Nat → Nat → PV) (hn:n ≤ 17592186044416) :
 dj Tryz.prog 234 [.one (.p (.sl n 2 c f))] [] (.v (.one (.ref 0 n))) [(0, .arr true 2 49 n f)] []:=by
 refine fu (nt:=8) a7 Tryz.func234 rfl rfl l9 rfl ?_;refine sx7 ?_;refine d5 true rfl rfl rfl rfl rfl trivial ?_;refine b8 ?_
 refine a2l (ι:=Bool) (fun c=>⟨[(0,some (be (.sl n 2 c f)))],[]⟩) (fun _=>True) ?_ fun c _=>?_
 · rcases Nat.eq_zero_or_pos n with hz | h0
   · subst hz
     refine hw_exact' 0 rfl fun ad cap hcap=>?_
     refine sx7 ?_;(iterate 2 refine d5 true rfl rfl rfl rfl rfl trivial ?_);refine b8 ?_;refine a6 ad.isNone rfl (fun hc=>?_) (fun hc=>?_)
     · refine sx7 ?_
       refine d5 true rfl rfl rfl rfl rfl trivial ?_;refine b8 ?_;refine dy 2 0 true 2 49 f (by decide) rfl (CoP.sl rfl (.inr rfl) (fun h=>h) fun i j hi _=>absurd hi (Nat.not_lt_zero i)) (.inr rfl) rfl ?_
       refine gn ?_;refine ⟨.inr rfl, ?_⟩
       exact ⟨_,_,rfl,trivial,CoR.refl _,⟨u9,trivial⟩⟩
     refine dp ?_
     exact ⟨false,trivial,⟨⟨_,rfl,CoP.raw_sl hcap⟩,trivial⟩,trivial⟩
   refine sx7 ?_;refine d5 true rfl rfl rfl rfl rfl trivial ?_;refine d5 true rfl rfl rfl rfl rfl h0 ?_;refine b8 ?_;refine a6 false rfl (fun hc=>by cases hc) (fun hc=>?_);refine dp ?_
   exact ⟨c,trivial,⟨c9,trivial⟩,trivial⟩
 refine sx7 ?_;refine xm 0 rfl rfl rfl rfl rfl rfl trivial ?_;refine d5 true rfl rfl rfl rfl rfl trivial ?_
 refine a6z 0 true rfl rfl rfl rfl rfl rfl ⟨trivial,rfl,rfl,rfl, .inl rfl,by show 0 + n ≤ 9223372036854775807;omega,by show (0 + n) * 8 ≤ 140737488355328;omega,fun _=>.inl rfl⟩ ?_
 refine d5 true rfl rfl rfl rfl rfl trivial ?_;refine w_2 ?_;refine ⟨.inr rfl, ?_⟩;refine ⟨_,_,rfl,trivial,CoR.of_eq (by show HR.v (.one (.ref 0 (0 + n))) = _;rw [Nat.zero_add]),⟨⟨_,rfl, ?_⟩,trivial⟩⟩
 exact ⟨fun h=>h,rfl,rfl,(Nat.zero_add n).symm,fun i j _ _=>CoP.of_eq (by simp [i9])⟩
theorem agz:goodFn Tryz.prog 187:=⟨Tryz.f187,Tryz.func187,by kernel_rfl,by kernel_rfl⟩
theorem ags (n:Int) (l m:List Fd) (x:AS):ae Tryz.prog 187 [pI n,pP (fdl l),pP (fdl m),pA x] (ai [pI (ckB n l m x)]):=by
 refine a8 (nt:=21) a7 Tryz.func187 rfl rfl l9 ?_;refine d7 ?_;refine rc rfl rfl rfl rfl rfl rfl y4 (uc n l m) (CoL.refl _) rfl rfl ?_;refine w_7 ?_;refine a6 _ rfl (fun r0=>?_) (fun r0=>?_)
 ·
  have h0:=r0
  have h0:=of_decide_eq_false (ap h0)
  try simp only [ty] at h0
  refine w_5 ?_
  exact hx8 rfl rfl rfl (⟨cci (azd (by assumption)).symm,trivial⟩)
 have h0:=r0
 have h0:=of_decide_eq_true (am h0)
 try simp only [ty] at h0
 have hb:bw n l m = 0:=h0
 obtain ⟨hn0,hn1,_⟩:=mi hb
 refine w_6 ?_;refine rq rfl rfl rfl rfl rfl ?_ (hp:=hn0);refine w_2 ?_;refine a6 _ rfl (fun r1=>?_) (fun r1=>?_)
 ·
  have h1:=r1
  have h1:=of_decide_eq_false (ap h1)
  try simp only [ty] at h1
  refine w_4 ?_
  exact hx8 rfl rfl rfl (⟨cci (azp hb (fun e=>(by assumption:¬ _ = _) ((sy x n.toNat).trans (congrArg asI e)))).symm,trivial⟩)
 have h1:=r1
 have h1:=of_decide_eq_true (am h1)
 try simp only [ty] at h1
 refine w_5 ?_
 exact hx8 rfl rfl rfl (⟨cci (akg hb (c6.1 ((sy x n.toNat).symm.trans (by assumption)))).symm,trivial⟩)
theorem aho:goodFn Tryz.prog 189:=⟨Tryz.f189,Tryz.func189,by kernel_rfl,by kernel_rfl⟩
theorem azo (l m:List Fd) (hl:l.length ≤ 64) (hm:m.length ≤ 64):ae Tryz.prog 189 [pP (fdl l),pP (fdl m)] (ai [pP (fdl (a36 l m))]):=by
 refine a8 (nt:=37) a7 Tryz.func189 rfl rfl l9 ?_;refine w_7 ?_;refine b5 rfl rfl rfl rfl rfl rfl b1i ((b7g m.length false (lf Fd.c m) (by omega)).swap 0 900) (cn.refl _) trivial rfl rfl ?_
 refine d7 ?_
 refine aj (ι:=Nat) ⟨[(12,some _),(13,some _)],[]⟩ ⟨⟨c9,c9,trivial⟩,trivial⟩ (fun i=>⟨[(5,some (.v (.one (.ref 900 (je l m i 0).length)))),(14,some (vI i))],[(900,some (.arr true 2 49 (je l m i 0).length (lf Fd.c (je l m i 0))))]⟩) (fun i=>i ≤ l.length) (fun i=>l.length - i) (0) (Nat.zero_le _) ⟨⟨⟨_,rfl,(cz (aa9 l m))⟩,⟨_,rfl,(CoR.refl _)⟩,trivial⟩,⟨⟨_,rfl,(d4 (aa9 l m))⟩,trivial⟩⟩ ?_
 rintro i hi
 have hmb:=ko (l.getD i default).rhs
 refine w_5 ?_;refine a6 _ rfl (fun r0=>?_) (fun r0=>?_)
 ·
  have h0:=of_decide_eq_true r0
  try simp only [ty] at h0
  refine w_7 ?_;refine m9 0 ?_;refine w_6 ?_;refine rc rfl rfl rfl rfl rfl rfl xk (a9y (l.getD i default).rhs) (CoL.refl _) rfl rfl ?_;refine w_4 ?_
  refine aj (ι:=Nat) ⟨[(7,some _),(12,some _),(13,some _),(14,some _),(20,some _),(21,some _)],[(0,some _)]⟩ ⟨⟨c9,c9,c9,c9,c9,c9,trivial⟩,⟨u9,trivial⟩⟩ (fun k=>⟨[(5,some (.v (.one (.ref 900 (je l m i k).length)))),(22,some (vI k))],[(900,some (.arr true 2 49 (je l m i k).length (lf Fd.c (je l m i k))))]⟩) (fun k=>k ≤ (al (l.getD i default).rhs).length) (fun k=>(al (l.getD i default).rhs).length - k) (0) (Nat.zero_le _) ⟨⟨zy,⟨_,rfl,(CoR.refl _)⟩,trivial⟩,⟨u9,trivial⟩⟩ ?_
  rintro k hk
  have hal:=awl (fs:=l) (ms:=m) (i:=i) (k:=k)
  refine w_5 ?_;refine a6 _ rfl (fun r1=>?_) (fun r1=>?_)
  ·
   have h1:=of_decide_eq_true r1
   try simp only [ty] at h1
   refine w_9 ?_;refine bp (E:=bm) a7 ax [0,1,2,3,4,5,6,7,8] ?_;refine w_6 ?_;refine m9 1 ?_;refine ra 2 true rfl rfl rfl rfl rfl rfl ?_;refine w_2 ?_;refine ⟨by kernel_rfl, ?_⟩;refine w_4 ?_
   refine ⟨k + 1, ?_, ?_, ?_⟩
   · show k + 1 ≤ _;omega
   · first | omega | (dsimp only;omega)
   exact ⟨⟨⟨_,rfl,(d8 (agu (by omega)))⟩,zy,c9,c9,c9,c9,c9,c9,trivial⟩,⟨⟨_,rfl,(kf (agu (by omega)) (CoP.refl _) (CoP.of_eq (congrArg (fun z=>PV.raw (.int .u32 z)) (ac2 1 _))))⟩,u9,trivial⟩⟩
  have h1:=of_decide_eq_false r1
  try simp only [ty] at h1
  obtain rfl:k = (al (l.getD i default).rhs).length:=by omega
  refine w_5 ?_;refine ⟨i + 1, ?_, ?_, ?_⟩
  · show i + 1 ≤ _;omega
  · first | omega | (dsimp only;omega)
  exact ⟨⟨⟨_,rfl,(cz (ai9 (by omega)))⟩,zy,c9,c9,trivial⟩,⟨⟨_,rfl,(d4 (ai9 (by omega)))⟩,trivial⟩⟩
 have h0:=of_decide_eq_false r0
 try simp only [ty] at h0
 obtain rfl:i = l.length:=by omega
 refine w_6 ?_;refine bt 4 rfl rfl rfl ?_
 exact hx8 rfl rfl rfl (⟨CoC.one (CoP.of_eq (by rw [aun];rfl)),trivial⟩)
theorem b3f:goodFn Tryz.prog 192:=⟨Tryz.f192,Tryz.func192,by kernel_rfl,by kernel_rfl⟩
theorem b1y (n:Int) (l m:List Fd) (x:AS):ae Tryz.prog 192 [pI n,pP (fdl l),pP (fdl m),pA x] (ai [pP (asl (aw3 n l m x)),pI (ckB n l m x)]):=by
 refine a8 (nt:=25) a7 Tryz.func192 rfl rfl l9 ?_;refine fl ?_;refine rc rfl rfl rfl rfl rfl rfl agz (ags n l m x) (CoL.refl _) rfl rfl ?_;refine w_7 ?_;refine a6 _ rfl (fun r0=>?_) (fun r0=>?_)
 ·
  have h0:=r0
  have h0:=of_decide_eq_false (ap h0)
  try simp only [ty] at h0
  refine w_6 ?_
  exact hx8 rfl rfl rfl (⟨CoC.one (a0k (if_neg (by assumption))),CoC.refl _,trivial⟩)
 have h0:=r0
 have h0:=of_decide_eq_true (am h0)
 try simp only [ty] at h0
 have hz:ckB n l m x = 0:=h0
 have hb:=a71 hz
 obtain ⟨hn0,hn1,hl64,_,hm64,_⟩:=mi hb.1
 refine w_6 ?_;refine rc rfl rfl rfl rfl rfl rfl aho (azo l m hl64 hm64) (CoL.refl _) rfl rfl ?_;refine qy ?_;refine rc rfl rfl rfl rfl rfl rfl ai1 (aht n (a36 l m) x hn0 hn1) (CoL.refl _) rfl rfl ?_
 refine w_3 ?_
 exact hx8 rfl rfl rfl (⟨CoC.one (CoP.of_eq (by rw [show aw3 n l m x = en n l m x from if_pos hz];rfl)),cci hz.symm,trivial⟩)
theorem b2u:goodFn Tryz.prog 191:=⟨Tryz.f191,Tryz.func191,by kernel_rfl,by kernel_rfl⟩
theorem b9j (f:Fd) (b:AS):ae Tryz.prog 191 [f.pc,pP (bx (asC b))] (ai [pB (a0j b f)]):=by
 refine a8 (nt:=12) a7 Tryz.func191 rfl rfl l9 ?_;refine sx7 ?_;refine m9 0 ?_;refine a1x ?_
 exact hx8 rfl rfl rfl (⟨ccb (by unfold a0j;rw [jd,ac3]),trivial⟩)
theorem b50:goodFn Tryz.prog 139:=⟨Tryz.f139,Tryz.func139,by kernel_rfl,by kernel_rfl⟩
theorem b2k (n:Int) (l m:List Fd) (x:AS):ae Tryz.prog 139 [pI n,pP (fdl l),pP (fdl m),pA x] (ai [pA (ajg n l m x),pI (ckB n l m x)]):=by
 refine a8 (nt:=45) a7 Tryz.func139 rfl rfl l9 ?_;refine fl ?_;refine rc rfl rfl rfl rfl rfl rfl agz (ags n l m x) (CoL.refl _) rfl rfl ?_;refine w_7 ?_;refine a6 _ rfl (fun r0=>?_) (fun r0=>?_)
 ·
  have h0:=r0
  have h0:=of_decide_eq_false (ap h0)
  try simp only [ty] at h0
  refine w_6 ?_
  exact hx8 rfl rfl rfl (⟨cci (congrArg asI (show (0:AS) = ajg n l m x from (if_neg (by assumption)).symm)),CoC.refl _,trivial⟩)
 have h0:=r0
 have h0:=of_decide_eq_true (am h0)
 try simp only [ty] at h0
 have hz:ckB n l m x = 0:=h0
 have hb:=a71 hz
 obtain ⟨hn0,hn1,hl64,_,hm64,_⟩:=mi hb.1
 refine fl ?_;refine rc rfl rfl rfl rfl rfl rfl aho (azo l m hl64 hm64) (CoL.refl _) rfl rfl ?_;refine qy ?_;refine rc rfl rfl rfl rfl rfl rfl ai1 (aht n (a36 l m) x hn0 hn1) (CoL.refl _) rfl rfl ?_
 refine w_4 ?_
 have hbl:=a54 n l m x
 refine aj (ι:=Nat) ⟨[(1,some _),(28,some _),(29,some _)],[]⟩ ⟨⟨c9,c9,c9,trivial⟩,trivial⟩ (fun i=>⟨[(11,some (vA (uj l x ((en n l m x).take i)))),(30,some (vI i))],[]⟩) (fun i=>i ≤ (en n l m x).length) (fun i=>(en n l m x).length - i) (0) (Nat.zero_le _) ⟨⟨⟨_,rfl,(CoR.refl _)⟩,⟨_,rfl,(CoR.refl _)⟩,trivial⟩,trivial⟩ ?_
 rintro i hi
 refine w_5 ?_;refine a6 _ rfl (fun r1=>?_) (fun r1=>?_)
 ·
  have h1:=of_decide_eq_true r1
  try simp only [ty] at h1
  have hil:i < (en n l m x).length:=Int.ofNat_lt.1 h1
  refine w_7 ?_;refine m9 0 ?_;refine w_6 ?_;refine rc rfl rfl rfl rfl rfl rfl tv (a3k ((en n l m x).getD i default)) (CoL.refl _) rfl rfl ?_;refine w_2 ?_;refine a6 _ rfl (fun r2=>?_) (fun r2=>?_)
  ·
   have h2:=r2
   have h2:=of_decide_eq_false (ap h2)
   try simp only [ty] at h2
   have hq:¬ bsz ((en n l m x).getD i default) = 1:=fun e=>h2 (by rw [e];rfl)
   refine w_5 ?_;refine ⟨i + 1, ?_, ?_, ?_⟩
   · show i + 1 ≤ _;omega
   · first | omega | (dsimp only;omega)
   exact ⟨⟨⟨_,rfl,(by first | exact dv (congrArg asI (adh hil hq)) | exact dv (congrArg asI (ace hil hq ha)) | exact dv ((bOr _ _).trans (congrArg asI (af8 hil hq ha))))⟩,zy,c9,c9,c9,trivial⟩,trivial⟩
  have h2:=r2
  have h2:=of_decide_eq_true (am h2)
  try simp only [ty] at h2
  have hq:bsz ((en n l m x).getD i default) = 1:=Int.ofNat_inj.1 h2
  refine w_2 ?_;refine cg 13 rfl rfl rfl ?_;refine w_3 ?_
  refine rc rfl rfl rfl rfl rfl rfl b0k (b9u l 191 1 (fun j=>[bx (asC ((en n l m x).getD i default))].getD j .any) (a0j ((en n l m x).getD i default)) b2u (fun f=>b9j f ((en n l m x).getD i default))) (CoL.refl _) rfl rfl ?_
  refine b8 ?_;refine a6 _ rfl (fun r3=>?_) (fun r3=>?_)
  ·
   have h3:=r3
   have ha:l.any (a0j ((en n l m x).getD i default)) = true:=r3
   refine d7 ?_;refine ⟨i + 1, ?_, ?_, ?_⟩
   · show i + 1 ≤ _;omega
   · first | omega | (dsimp only;omega)
   exact ⟨⟨⟨_,rfl,(by first | exact dv (congrArg asI (adh hil hq)) | exact dv (congrArg asI (ace hil hq ha)) | exact dv ((bOr _ _).trans (congrArg asI (af8 hil hq ha))))⟩,zy,c9,c9,c9,trivial⟩,trivial⟩
  have h3:=r3
  have ha:l.any (a0j ((en n l m x).getD i default)) = false:=r3
  refine w_5 ?_;refine ⟨i + 1, ?_, ?_, ?_⟩
  · show i + 1 ≤ _;omega
  · first | omega | (dsimp only;omega)
  exact ⟨⟨⟨_,rfl,(by first | exact dv (congrArg asI (adh hil hq)) | exact dv (congrArg asI (ace hil hq ha)) | exact dv ((bOr _ _).trans (congrArg asI (af8 hil hq ha))))⟩,zy,c9,c9,c9,trivial⟩,trivial⟩
 have h1:=of_decide_eq_false r1
 try simp only [ty] at h1
 obtain rfl:i = (en n l m x).length:=Nat.le_antisymm hi (Nat.le_of_not_lt fun q=>h1 (Int.ofNat_lt.2 q))
 rw [show (en n l m x).take (en n l m x).length = (en n l m x) from List.take_length]
 refine w_7 ?_
 exact hx8 rfl rfl rfl (⟨cci (congrArg asI (show wz n l m x = ajg n l m x from (if_pos hz).symm)),cci hz.symm,trivial⟩)
theorem asv:goodFn Tryz.prog 79:=⟨Tryz.f79,Tryz.func79,by kernel_rfl,by kernel_rfl⟩
theorem ahw (n:Int) (l m:List Fd) (s:AS):ae Tryz.prog 79 [pI n,pP (fdl l),pP (fdl m),pA s] (ai [pI (ck4 n l m s)]):=by
 refine a8 (nt:=27) a7 Tryz.func79 rfl rfl l9 ?_;refine d7 ?_;refine bc rfl rfl (fun r0=>?_) (fun r0=>?_)
 ·
  have h0:=of_decide_eq_true r0
  try simp only [ty] at h0
  (iterate 2 refine k9 (gtf r0) ?_);refine rq rfl rfl rfl rfl rfl ?_ (hp:=r0);refine b8 ?_;refine a6 _ rfl (fun _=>?_) (fun e=>by cases e);refine w_4 ?_
  exact hx8 rfl rfl rfl (⟨cci (azv (by omega)).symm,trivial⟩)
 have h0:=of_decide_eq_false r0
 try simp only [ty] at h0
 (iterate 2 refine qy ?_ (hg:=(gff r0)));refine w_2 ?_;refine a6 _ rfl (fun r1=>?_) (fun r1=>?_)
 ·
  have h1:=r1
  have h1:=bu r0 h1
  have h1:=of_decide_eq_true h1
  try simp only [ty] at h1
  refine w_4 ?_
  exact hx8 rfl rfl rfl (⟨cci (azv (by omega)).symm,trivial⟩)
 have h1:=r1
 have h1:=bu r0 h1
 have h1:=of_decide_eq_false h1
 try simp only [ty] at h1
 refine w_7 ?_;refine rc rfl rfl rfl rfl rfl rfl y4 (uc n l m) (CoL.refl _) rfl rfl ?_;refine w_7 ?_;refine a6 _ rfl (fun r2=>?_) (fun r2=>?_)
 ·
  have h2:=r2
  have h2:=of_decide_eq_false (ap h2)
  try simp only [ty] at h2
  have hc:¬ (n < 0 ∨ 8 < n):=by omega
  refine w_5 ?_
  exact hx8 rfl rfl rfl (⟨cci ((abn hc).trans (azd (by assumption))).symm,trivial⟩)
 have h2:=r2
 have h2:=of_decide_eq_true (am h2)
 try simp only [ty] at h2
 have hb:bw n l m = 0:=h2
 obtain ⟨hn0,hn1,_⟩:=mi hb
 have hc:¬ (n < 0 ∨ 8 < n):=by omega
 refine w_6 ?_;refine rq rfl rfl rfl rfl rfl ?_ (hp:=hn0);refine w_2 ?_;refine a6 _ rfl (fun r3=>?_) (fun r3=>?_)
 ·
  have h3:=r3
  have h3:=of_decide_eq_false (ap h3)
  try simp only [ty] at h3
  refine w_4 ?_
  exact hx8 rfl rfl rfl (⟨cci ((abn hc).trans (azp hb (fun e=>(by assumption:¬ _ = _) ((sy s n.toNat).trans (congrArg asI e))))).symm,trivial⟩)
 have h3:=r3
 have h3:=of_decide_eq_true (am h3)
 try simp only [ty] at h3
 refine w_5 ?_
 exact hx8 rfl rfl rfl (⟨cci ((abn hc).trans (akg hb (c6.1 ((sy s n.toNat).symm.trans (by assumption))))).symm,trivial⟩)
end Go.Hx
end
section
namespace Go.Hx
open Go.Proofs
set_option maxRecDepth 100000
set_option maxHeartbeats 1000000
theorem az0 {n:Int} {l m:List Fd} {x:AS} (h:ckB n l m x = 0):ae Tryz.prog 192 [pI n,pP (fdl l),pP (fdl m),pA x] (ai [pP (asl (en n l m x)),pI 0]):=by
 have:=b1y n l m x
 rw [h,show aw3 n l m x = en n l m x from if_pos h] at this
 exact this
theorem awy {n:Int} {l m:List Fd} {x:AS} (h:ckB n l m x = 0):ae Tryz.prog 139 [pI n,pP (fdl l),pP (fdl m),pA x] (ai [pA (wz n l m x),pI 0]):=by
 have:=b2k n l m x
 rw [h,show ajg n l m x = wz n l m x from if_pos h] at this
 exact this
theorem apd {n:Int} {l m:List Fd} {p x:AS} (h:p &&& ~~~(wz n l m x) = 0):a5k n l m p x = none:=if_pos h
theorem asa {n:Int} {l m:List Fd} {p x:AS} (h:¬ p &&& ~~~(wz n l m x) = 0) (h2:¬ 1 < (qr n l m x p).length):a5k n l m p x = none:=by unfold a5k;rw [if_neg h,if_neg h2]
theorem b96 {n:Int} {l m:List Fd} {p x:AS} (h:¬ p &&& ~~~(wz n l m x) = 0) (h2:1 < (qr n l m x p).length):a5k n l m p x = some ⟨x,(qr n l m x p).getD 0 default⟩:=by unfold a5k;rw [if_neg h,if_pos h2]
def is4 (n:Int) (l m:List Fd):Bool:=if ck4 n l m 0 = 0 then !(a1y n l m (ar n)).2 else false
theorem b0v:goodFn Tryz.prog 140:=⟨Tryz.f140,Tryz.func140,by kernel_rfl,by kernel_rfl⟩
theorem bbc (n:Int) (l m:List Fd) (x p:AS):ae Tryz.prog 140 [pI n,pP (fdl l),pP (fdl m),pA x,pA p] (ai [pP (asl (atw n l m x p)),pI (ck4 n l m (x ||| p))]):=by
 refine a8 (nt:=58) a7 Tryz.func140 rfl rfl l9 ?_;refine a1x ?_;refine rc rfl rfl rfl rfl rfl rfl asv (ahw n l m (x ||| p)) (⟨CoC.refl _,CoC.refl _,CoC.refl _,cci (bOr _ _),trivial⟩) rfl rfl ?_
 refine w_7 ?_;refine a6 _ rfl (fun r0=>?_) (fun r0=>?_)
 ·
  have h0:=r0
  have h0:=of_decide_eq_false (ap h0)
  try simp only [ty] at h0
  refine w_6 ?_
  exact hx8 rfl rfl rfl (⟨CoC.one (a0k (if_neg (by assumption))),CoC.refl _,trivial⟩)
 have h0:=r0
 have h0:=of_decide_eq_true (am h0)
 try simp only [ty] at h0
 have hz:ck4 n l m (x ||| p) = 0:=h0
 have hx:=a99 (afk hz).2.2 (un (a:=x) (b:=p))
 refine w_7 ?_;refine rc rfl rfl rfl rfl rfl rfl b3f (az0 hx) (CoL.refl _) rfl rfl ?_;refine fl ?_;refine a6 _ rfl (fun e=>by cases e) (fun _=>?_);refine ld ?_
 refine dy 15 900 true 1 46 (lf sC []) (by decide) rfl (CoP.sl rfl (.inr rfl) (fun h=>h) (fun i j hi _=>absurd hi (Nat.not_lt_zero i))) (.inr rfl) rfl ?_
 have hbl:=a54 n l m x
 refine aj (ι:=Nat) ⟨[(4,some _),(39,some _),(40,some _)],[]⟩ ⟨⟨c9,c9,c9,trivial⟩,trivial⟩ (fun i=>⟨[(15,some (.v (.one (.ref 900 (o9 p ((en n l m x).take i)).length)))),(41,some (vI i))],[(900,some (.arr true 1 46 (o9 p ((en n l m x).take i)).length (lf sC (o9 p ((en n l m x).take i)))))]⟩) (fun i=>i ≤ (en n l m x).length) (fun i=>(en n l m x).length - i) (0) (Nat.zero_le _) ⟨⟨⟨_,rfl,(CoR.refl _)⟩,⟨_,rfl,(CoR.refl _)⟩,trivial⟩,⟨u9,trivial⟩⟩ ?_
 rintro i hi
 have hcl:(o9 p ((en n l m x).take i)).length ≤ i:=Nat.le_trans (acz _ _) (by rw [List.length_take];omega)
 refine w_5 ?_;refine a6 _ rfl (fun r1=>?_) (fun r1=>?_)
 ·
  have h1:=of_decide_eq_true r1
  try simp only [ty] at h1
  refine a52 ?_;refine a6 _ rfl (fun r2=>?_) (fun r2=>?_)
  ·
   have h2:=r2
   have h2:=of_decide_eq_false (ap h2)
   try simp only [ty] at h2
   have hq:¬ (en n l m x).getD i default &&& p = 0:=yd h2
   refine w_5 ?_;refine m9 0 ?_;refine ra 1 true rfl rfl rfl rfl rfl rfl ?_;refine w_6 ?_
   first | (refine ⟨i + 1, ?_, ?_, ?_⟩
            · show i + 1 ≤ _;omega
            · first | omega | (dsimp only;omega)
            exact ⟨⟨⟨_,rfl,(d8 (a6l (by omega) hq))⟩,⟨_,rfl,(CoR.refl _)⟩,c9,c9,c9,trivial⟩,⟨⟨_,rfl,(dt (a6l (by omega) hq) (CoP.of_eq (congrArg (fun z=>PV.raw (.int .u32 z)) (i6 _ _))))⟩,trivial⟩⟩)
         | (refine ⟨i + 1, ?_, ?_, ?_⟩
            · show i + 1 ≤ _;omega
            · first | omega | (dsimp only;omega)
            exact ⟨⟨⟨_,rfl,(cz (a7u (by omega) hq))⟩,⟨_,rfl,(CoR.refl _)⟩,c9,c9,c9,trivial⟩,⟨⟨_,rfl,(d4 (a7u (by omega) hq))⟩,trivial⟩⟩)
  have h2:=r2
  have h2:=of_decide_eq_true (am h2)
  try simp only [ty] at h2
  have hq:(en n l m x).getD i default &&& p = 0:=a2n h2
  refine w_5 ?_
  first | (refine ⟨i + 1, ?_, ?_, ?_⟩
           · show i + 1 ≤ _;omega
           · first | omega | (dsimp only;omega)
           exact ⟨⟨⟨_,rfl,(d8 (a6l (by omega) hq))⟩,⟨_,rfl,(CoR.refl _)⟩,c9,c9,c9,trivial⟩,⟨⟨_,rfl,(dt (a6l (by omega) hq) (CoP.of_eq (congrArg (fun z=>PV.raw (.int .u32 z)) (i6 _ _))))⟩,trivial⟩⟩)
        | (refine ⟨i + 1, ?_, ?_, ?_⟩
           · show i + 1 ≤ _;omega
           · first | omega | (dsimp only;omega)
           exact ⟨⟨⟨_,rfl,(cz (a7u (by omega) hq))⟩,⟨_,rfl,(CoR.refl _)⟩,c9,c9,c9,trivial⟩,⟨⟨_,rfl,(d4 (a7u (by omega) hq))⟩,trivial⟩⟩)
 have h1:=of_decide_eq_false r1
 try simp only [ty] at h1
 obtain rfl:i = (en n l m x).length:=by omega
 rw [show (en n l m x).take (en n l m x).length = (en n l m x) from List.take_length]
 refine w_2 ?_;refine bt 15 rfl rfl rfl ?_;refine w_2 ?_;refine rc rfl rfl rfl rfl rfl rfl uh (a28 (o9 p (en n l m x)) (ai4 n l m x p)) (CoL.refl _) rfl rfl ?_;refine w_3 ?_
 exact hx8 rfl rfl rfl (⟨CoC.one (CoP.of_eq (by rw [show atw n l m x p = qr n l m x p from if_pos hz];rfl)),cci hz.symm,trivial⟩)
theorem b8n {n:Int} {l m:List Fd} {x p:AS} (h:ck4 n l m (x ||| p) = 0):ae Tryz.prog 140 [pI n,pP (fdl l),pP (fdl m),pA x,pA p] (ai [pP (asl (qr n l m x p)),pI 0]):=by
 have:=bbc n l m x p
 rw [h,show atw n l m x p = qr n l m x p from if_pos h] at this
 exact this
theorem b6n:goodFn Tryz.prog 80:=⟨Tryz.f80,Tryz.func80,by kernel_rfl,by kernel_rfl⟩
theorem ba4 (n:Int) (l m:List Fd) (p:AS):ae Tryz.prog 80 [pI n,pP (fdl l),pP (fdl m),pA p] (ai [(a1y n l m p).1.pc,pB (a1y n l m p).2,pI (ck4 n l m p)]):=by
 refine a8 (nt:=72) a7 Tryz.func80 rfl rfl l9 ?_;refine sx7 ?_;refine m9 0 ?_;refine d7 ?_;refine rc rfl rfl rfl rfl rfl rfl asv (ahw n l m p) (CoL.refl _) rfl rfl ?_;refine w_7 ?_
 refine a6 _ rfl (fun r0=>?_) (fun r0=>?_)
 ·
  have h0:=r0
  have h0:=of_decide_eq_false (ap h0)
  try simp only [ty] at h0
  refine w_8 ?_
  exact hx8 rfl rfl rfl (by rw [b62 (by assumption)];exact ⟨CoC.agg ⟨CoP.of_eq rfl,CoP.of_eq rfl,trivial⟩,CoC.refl _,CoC.refl _,trivial⟩)
 have h0:=r0
 have h0:=of_decide_eq_true (am h0)
 try simp only [ty] at h0
 have hz:ck4 n l m p = 0:=h0
 have hsl:=w8 p
 refine w_5 ?_;refine rc rfl rfl rfl rfl rfl rfl a2o (azw p) (CoL.refl _) rfl rfl ?_;refine w_4 ?_
 refine aj (ι:=Nat) ⟨[(0,some _),(1,some _),(2,some _),(3,some _),(8,some _),(27,some _),(28,some _)],[(0,some _)]⟩ ⟨⟨c9,c9,c9,c9,c9,c9,c9,trivial⟩,⟨u9,trivial⟩⟩ (fun i=>⟨[(29,some (vI i))],[]⟩) (fun i=>i ≤ (bi p).length ∧ ((bi p).take i).findSome? (a5k n l m p) = none) (fun i=>(bi p).length - i) (0) (⟨Nat.zero_le _,rfl⟩) ⟨⟨⟨_,rfl,(CoR.refl _)⟩,trivial⟩,trivial⟩ ?_
 rintro i ⟨hi,hI⟩
 refine w_5 ?_;refine a6 _ rfl (fun r1=>?_) (fun r1=>?_)
 ·
  have h1:=of_decide_eq_true r1
  try simp only [ty] at h1
  have hil:i < (bi p).length:=by omega
  have hxs:sub ((bi p).getD i default) p:=at6 (a1m hil)
  have hX:ckB n l m ((bi p).getD i default) = 0:=a99 (afk hz).2.2 hxs
  have hXp:ck4 n l m (((bi p).getD i default) ||| p) = 0:=b0r hz (xr hxs (j5 p))
  refine o0 ?_;refine rc rfl rfl rfl rfl rfl rfl b50 (awy hX) (CoL.refl _) rfl rfl ?_;refine fl ?_;refine a6 _ rfl (fun e=>by cases e) (fun _=>?_);refine w_9 ?_
  refine a6 _ rfl (fun r2=>?_) (fun r2=>?_)
  ·
   have h2:=of_decide_eq_true r2
   try simp only [ty] at h2
   have hq:p &&& ~~~(wz n l m ((bi p).getD i default)) = 0:=b03 h2
   refine w_5 ?_;refine ⟨i + 1, ?_, ?_, ?_⟩
   · exact ⟨by omega,(a1a hil hI).trans (by first | exact apd hq | exact asa hq hc)⟩
   · first | omega | (dsimp only;omega)
   exact ⟨⟨⟨_,rfl,(CoR.refl _)⟩,c9,c9,c9,c9,c9,c9,c9,trivial⟩,⟨u9,trivial⟩⟩
  have h2:=of_decide_eq_false r2
  try simp only [ty] at h2
  have hq:¬ p &&& ~~~(wz n l m ((bi p).getD i default)) = 0:=amv h2
  refine w_8 ?_;refine rc rfl rfl rfl rfl rfl rfl b0v (b8n hXp) (CoL.refl _) rfl rfl ?_;refine fl ?_;refine a6 _ rfl (fun e=>by cases e) (fun _=>?_);refine w_7 ?_
  refine a6 _ rfl (fun r3=>?_) (fun r3=>?_)
  ·
   have h3:=of_decide_eq_true r3
   try simp only [ty] at h3
   have hc:1 < (qr n l m ((bi p).getD i default) p).length:=by omega
   have hcl:(qr n l m ((bi p).getD i default) p).length ≤ 8589934592:=Nat.le_trans (mo _) (ai4 n l m ((bi p).getD i default) p)
   refine fl ?_;refine ⟨.inr rfl, ?_⟩
   have he:a1y n l m p = (⟨((bi p).getD i default),(qr n l m ((bi p).getD i default) p).getD 0 default⟩,true):=by
    rw [as4 hz,show a88 n l m p = some _ from at2 hil hI (b96 hq hc)]
    rfl
   exact f9 rfl rfl (by rw [he];exact ⟨CoC.agg ⟨CoP.refl _,CoP.refl _,trivial⟩,CoC.refl _,cci hz.symm,trivial⟩)
  have h3:=of_decide_eq_false r3
  try simp only [ty] at h3
  have hc:¬ 1 < (qr n l m ((bi p).getD i default) p).length:=by omega
  refine w_5 ?_;refine ⟨i + 1, ?_, ?_, ?_⟩
  · exact ⟨by omega,(a1a hil hI).trans (by first | exact apd hq | exact asa hq hc)⟩
  · first | omega | (dsimp only;omega)
  exact ⟨⟨⟨_,rfl,(CoR.refl _)⟩,c9,c9,c9,c9,c9,c9,c9,trivial⟩,⟨u9,trivial⟩⟩
 have h1:=of_decide_eq_false r1
 try simp only [ty] at h1
 obtain rfl:i = (bi p).length:=by omega
 rw [show (bi p).take (bi p).length = (bi p) from List.take_length] at hI
 refine w_9 ?_;refine ⟨.inr rfl, ?_⟩
 have he:a1y n l m p = (⟨0,0⟩,false):=by
  rw [as4 hz,show a88 n l m p = none from hI]
  rfl
 exact f9 rfl rfl (by rw [he];exact ⟨CoC.agg ⟨CoP.of_eq rfl,CoP.of_eq rfl,trivial⟩,CoC.refl _,cci hz.symm,trivial⟩)
end Go.Hx
end
section
namespace Go.Hx
structure Mx where
 d:Dps
 m:List Dp
deriving Inhabited
def Mx.mv (x:Mx):List Fd:=x.m.map (Dp.fd x.d.num)
def Mx.c (x:Mx):Nat → PV
 | 0=>x.d.c 0
 | 1=>x.d.c 1
 | 2=>dpl x.m
 | _=>.any
abbrev Mx.pc (x:Mx):PC:=.agg [x.c 0,x.c 1,x.c 2]
def Mx.ok (x:Mx):Bool:=decide (x.d.l.length ≤ 6) && decide (x.m.length ≤ 4)
theorem b9k {a b:List AS} (hl:a.length = b.length) (h:∀ j,j < a.length → a.getD j default = b.getD j default):a = b:=by
 apply List.ext_getElem hl
 intro i h1 h2
 have:=h i h1
 rw [List.getD_eq_getElem?_getD,List.getD_eq_getElem?_getD,List.getElem?_eq_getElem h1,List.getElem?_eq_getElem h2] at this
 simpa using this
def bea (n:Int) (l m:List Fd) (ps:List AS):Int:=if ck4 n l m 0 = 0 then lsC n ps l m else ck4 n l m 0
def bec (n:Int) (l m:List Fd) (ps:List AS):Bool:=if ck4 n l m 0 = 0 then (if lsC n ps l m = 0 then lsB n ps l m && ps.all (fun p=>!vBo (a88 n l m) p) else false) else false
end Go.Hx
end
section
namespace Go.Hx
def fdP (d:Fd) (r k:AS):Option AS:=if (r ^^^ k) &&& d.lhs = 0 then (if (r ^^^ k) &&& d.rhs = 0 then none else some ((r ^^^ k) &&& d.rhs)) else none
def fdQ (d:Fd) (T:List AS) (r:AS):Option AS:=T.findSome? (fdP d r)
def fdT (d:Fd) (T:List AS):Option AS:=T.findSome? (fdQ d T)
theorem awg {d:Fd} {T:List AS} {s:AS} (h:fdT d T = some s):∃ r ∈ T,∃ k ∈ T,agB d r k = true ∧ s = (r ^^^ k) &&& d.rhs ∧ s ≠ 0:=by
 unfold fdT at h
 obtain ⟨r,hr,h⟩:=List.exists_of_findSome?_eq_some h
 unfold fdQ at h
 obtain ⟨k,hk,h⟩:=List.exists_of_findSome?_eq_some h
 unfold fdP at h
 split at h
 · rename_i h1
   split at h
   · cases h
   rename_i h2
   cases h
   exact ⟨r,hr,k,hk,decide_eq_true h1,rfl,h2⟩
 cases h
theorem w7 {T:List AS} (h:T.Nodup):T.length ≤ 4294967296:=by
 have h1:(T.map BitVec.toNat).Nodup:=List.Pairwise.map _ (fun a b hab e=>hab (BitVec.eq_of_toNat_eq e)) h
 have h2:∀ x ∈ T.map BitVec.toNat,x < 4294967296:=by
  intro x hx
  obtain ⟨a,_,rfl⟩:=List.mem_map.1 hx
  exact a.isLt
 have hlen:(T.map BitVec.toNat).length = T.length:=List.length_map _
 rw [← hlen]
 have key:∀ (N:Nat) (l:List Nat),l.Nodup → (∀ x ∈ l,x < N) → l.length ≤ N:=by
  intro N
  induction N with
  | zero =>
   intro l _ hl
   cases l with
   | nil=>exact Nat.le_refl _
   | cons a l=>exact absurd (hl a (by simp)) (Nat.not_lt_zero _)
  | succ N ih =>
   intro l hn hl
   have h3:=ih (l.filter fun x=>!decide (x = N)) (hn.filter _) fun x hx=>by
    rw [List.mem_filter] at hx
    have:=hl x hx.1
    have hx2:¬ x = N:=by simpa using hx.2
    omega
   have h4:l.length ≤ (l.filter fun x=>!decide (x = N)).length + 1:=by
    have h5:∀ l:List Nat,l.length = (l.filter fun x=>!decide (x = N)).length + l.countP fun x=>decide (x = N):=by
     intro l
     induction l with
     | nil=>rfl
     | cons a l ih =>
      by_cases e:a = N
      · simp [List.filter_cons,List.countP_cons,e,ih];omega
      simp [List.filter_cons,List.countP_cons,e,ih];omega
    have h6:=h5 l
    have h7:(l.countP fun x=>decide (x = N)) ≤ 1:=by
     have:=hn.count (a:=N)
     have e:(l.countP fun x=>decide (x = N)) = l.count N:=by
      unfold List.count
      congr 1
     rw [e]
     first | exact List.nodup_iff_count.1 hn N | (rw [this];split <;> omega)
    omega
   omega
 exact key _ _ h1 h2
theorem uo {T:List AS} {i:Nat} (hi:i < 32):(orL T).getLsbD i = T.any fun r=>r.getLsbD i:=by
 unfold orL
 have:∀ (T:List AS) (o:AS),(T.foldl (· ||| ·) o).getLsbD i = (o.getLsbD i || T.any fun r=>r.getLsbD i):=by
  intro T
  induction T with
  | nil=>intro o;simp
  | cons a T ih=>intro o;rw [List.foldl_cons,ih,BitVec.getLsbD_or,List.any_cons,Bool.or_assoc]
 rw [this]
 simp
theorem b17 {T:List AS} {s:AS}:orL (o4 T s) = orL T &&& ~~~s:=by
 apply xv
 intro i hi
 rw [uo hi,kj hi,uo hi]
 cases hs:s.getLsbD i with
 | true =>
  simp only [Bool.not_true,Bool.and_false]
  rw [List.any_eq_false]
  intro z hz
  obtain ⟨r,hr,rfl⟩:=a4w.1 hz
  rw [kj hi,hs]
  simp
 | false =>
  simp only [Bool.not_false,Bool.and_true]
  rw [Bool.eq_iff_iff,List.any_eq_true,List.any_eq_true]
  constructor
  · rintro ⟨z,hz,hb⟩
    obtain ⟨r,hr,rfl⟩:=a4w.1 hz
    rw [kj hi,Bool.and_eq_true] at hb
    exact ⟨r,hr,hb.1⟩
  rintro ⟨r,hr,hb⟩
  exact ⟨r &&& ~~~s,a4w.2 ⟨r,hr,rfl⟩,by rw [kj hi,hb,hs];rfl⟩
theorem a9x {d:Fd} {T:List AS} {s:AS} (h:fdT d T = some s):(orL (o4 T s)).toNat < (orL T).toNat:=by
 obtain ⟨r,hr,k,hk,_,rfl,hz⟩:=awg h
 rw [b17]
 refine xz sb fun e=>?_
 obtain ⟨i,hi,hb⟩:=b6w hz
 have h1:=congrArg (fun z:AS=>z.getLsbD i) e
 simp only [kj hi,hb,Bool.not_true,Bool.and_false] at h1
 have h1:(orL T).getLsbD i = false:=h1.symm
 rw [uo hi,List.any_eq_false] at h1
 rw [BitVec.getLsbD_and,BitVec.getLsbD_xor,Bool.and_eq_true] at hb
 have h2:r.getLsbD i = false:=by simpa using h1 r hr
 have h3:k.getLsbD i = false:=by simpa using h1 k hk
 rw [h2,h3] at hb
 simp at hb
def mz (d:Fd):Nat → List AS → List AS
 | 0,T=>T
 | f + 1,T=>match fdT d T with
  | none=>T
  | some s=>mz d f (o4 T s)
def mvS (d:Fd) (T:List AS) (i k:Nat):List AS:=if agB d (T.getD i default) (T.getD k default) = true then mq T (x3 d (T.getD i default) (T.getD k default)) else T
def mvI (d:Fd):Nat → List AS → Nat → Nat → List AS
 | 0,T,_,_=>T
 | f + 1,T,i,k=>if k < T.length then mvI d f (mvS d T i k) i (k + 1) else T
def mvO (d:Fd):Nat → List AS → Nat → List AS
 | 0,T,_=>T
 | f + 1,T,i=>if i < T.length then mvO d f (mvI d 8589934592 T i 0) (i + 1) else T
theorem a2g (d:Fd) (T:List AS) (i k:Nat):T <+: mvS d T i k:=by
 unfold mvS mq
 split
 · split
   · exact List.prefix_refl _
   exact List.prefix_append _ _
 exact List.prefix_refl _
theorem a2m (d:Fd):∀ (f:Nat) (T:List AS) (i k:Nat),T <+: mvI d f T i k
 | 0,T,_,_=>List.prefix_refl _
 | f + 1,T,i,k=>by
  unfold mvI
  split
  · exact (a2g d T i k).trans (a2m d f _ i (k + 1))
  exact List.prefix_refl _
theorem ahn (d:Fd):∀ (f:Nat) (T:List AS) (i:Nat),T <+: mvO d f T i
 | 0,T,_=>List.prefix_refl _
 | f + 1,T,i=>by
  unfold mvO
  split
  · exact (a2m d _ T i 0).trans (ahn d f _ (i + 1))
  exact List.prefix_refl _
theorem asr {d:Fd} {T:List AS} {i k:Nat} (h:T.Nodup):(mvS d T i k).Nodup:=by
 unfold mvS
 split
 · exact t7 h
 exact h
theorem ac7 {d:Fd}:∀ {f:Nat} {T:List AS} {i k:Nat},T.Nodup → (mvI d f T i k).Nodup
 | 0,T,_,_,h=>h
 | f + 1,T,i,k,h=>by
  unfold mvI
  split
  · exact ac7 (asr h)
  exact h
theorem afo {d:Fd}:∀ {f:Nat} {T:List AS} {i:Nat},T.Nodup → (mvO d f T i).Nodup
 | 0,T,_,h=>h
 | f + 1,T,i,h=>by
  unfold mvO
  split
  · exact afo (ac7 h)
  exact h
abbrev TC:=List AS × Bool
def FU2:Nat:=8589934592
def fdR (x:TC) (d:Fd):TC:=(mz d FU2 x.1,x.2 || (fdT d x.1).isSome)
def mvR (x:TC) (d:Fd):TC:=(mvO d FU2 x.1 0,x.2 || decide (x.1.length < (mvO d FU2 x.1 0).length))
def su (fs ms:List Fd) (T:List AS):TC:=ms.foldl mvR (fs.foldl fdR (T,false))
def chF (fs ms:List Fd):Nat → List AS → List AS
 | 0,T=>T
 | f + 1,T=>if (su fs ms T).2 = true then chF fs ms f (su fs ms T).1 else (su fs ms T).1
def muT (T:List AS):Nat:=(orL T).toNat * FU2 + (4294967296 - T.length)
theorem wg {d:Fd} {f:Nat} {T:List AS} {s:AS} (h:fdT d T = some s):mz d (f + 1) T = mz d f (o4 T s):=by
 show (match fdT d T with | none=>T | some s=>mz d f (o4 T s)) = _
 rw [h]
theorem a0b {d:Fd} {f:Nat} {T:List AS} (h:fdT d T = none):mz d f T = T:=by
 cases f with
 | zero=>rfl
 | succ f =>
  show (match fdT d T with | none=>T | some s=>mz d f (o4 T s)) = _
  rw [h]
theorem ac0 {d:Fd} {P:List AS → Prop} (hP:∀ T s,P T → fdT d T = some s → P (o4 T s)):∀ (f:Nat) (T:List AS),P T → P (mz d f T)
 | 0,T,h=>h
 | f + 1,T,h=>by
  cases hq:fdT d T with
  | none=>rw [a0b hq];exact h
  | some s=>rw [wg hq];exact ac0 hP f _ (hP T s h hq)
theorem ah9 {d:Fd} {P:List AS → Prop} (hP:∀ T r k,P T → r ∈ T → k ∈ T → agB d r k = true → P (mq T (x3 d r k))):∀ (f:Nat) (T:List AS) (i k:Nat),i < T.length → P T → P (mvI d f T i k)
 | 0,T,_,_,_,h=>h
 | f + 1,T,i,k,hi,h=>by
  unfold mvI
  split
  · rename_i hk
    refine ah9 hP f _ i (k + 1) (Nat.lt_of_lt_of_le hi (a2g d T i k).length_le) ?_
    unfold mvS
    split
    · rename_i ha
      exact hP T _ _ h (a1m hi) (a1m hk) ha
    exact h
  exact h
theorem a8w {d:Fd} {P:List AS → Prop} (hP:∀ T r k,P T → r ∈ T → k ∈ T → agB d r k = true → P (mq T (x3 d r k))):∀ (f:Nat) (T:List AS) (i:Nat),P T → P (mvO d f T i)
 | 0,T,_,h=>h
 | f + 1,T,i,h=>by
  unfold mvO
  split
  · rename_i hi
    exact a8w hP f _ (i + 1) (ah9 hP _ T i 0 hi h)
  exact h
theorem a8c {P:List AS → Prop} {fs:List Fd} (hP:∀ d ∈ fs,∀ T s,P T → fdT d T = some s → P (o4 T s)):∀ (ds:List Fd) (x:TC),(∀ d ∈ ds,d ∈ fs) → P x.1 → P (ds.foldl fdR x).1
 | [],x,_,h=>h
 | d :: ds,x,hd,h=>a8c hP ds (fdR x d) (fun e he=>hd e (by simp [he])) (ac0 (hP d (hd d (by simp))) _ _ h)
theorem aim {P:List AS → Prop} {ms:List Fd} (hP:∀ d ∈ ms,∀ T r k,P T → r ∈ T → k ∈ T → agB d r k = true → P (mq T (x3 d r k))):∀ (ds:List Fd) (x:TC),(∀ d ∈ ds,d ∈ ms) → P x.1 → P (ds.foldl mvR x).1
 | [],x,_,h=>h
 | d :: ds,x,hd,h=>aim hP ds (mvR x d) (fun e he=>hd e (by simp [he])) (a8w (hP d (hd d (by simp))) _ _ _ h)
theorem b3q {P:List AS → Prop} {fs ms:List Fd} (h1:∀ d ∈ fs,∀ T s,P T → fdT d T = some s → P (o4 T s)) (h2:∀ d ∈ ms,∀ T r k,P T → r ∈ T → k ∈ T → agB d r k = true → P (mq T (x3 d r k))) {T:List AS} (h:P T):P (su fs ms T).1 :=
 aim h2 ms _ (fun _ h=>h) (a8c h1 fs (T,false) (fun _ h=>h) h)
theorem b08 {fs:List Fd}:∀ d ∈ fs,∀ (T:List AS) (s:AS),T.Nodup → fdT d T = some s → (o4 T s).Nodup:=fun _ _ T s _ _=>a68 T s
theorem bb5 {ms:List Fd}:∀ d ∈ ms,∀ (T:List AS) (r k:AS),T.Nodup → r ∈ T → k ∈ T → agB d r k = true → (mq T (x3 d r k)).Nodup:=fun _ _ _ _ _ h _ _ _=>t7 h
theorem atc {A B:List AS} (h:(orL B).toNat < (orL A).toNat):muT B < muT A:=by
 unfold muT
 have h1:((orL B).toNat + 1) * FU2 ≤ (orL A).toNat * FU2:=Nat.mul_le_mul_right _ h
 rw [Nat.add_mul] at h1
 have:FU2 = 8589934592:=rfl
 omega
theorem b32 {A B:List AS} (hp:A <+: B) (ho:(orL B).toNat = (orL A).toNat) (hB:B.length ≤ 4294967296):muT B ≤ muT A ∧ (A.length < B.length → muT B < muT A):=by
 unfold muT
 rw [ho]
 have:=hp.length_le
 omega
theorem b1w {T:List AS} {d:Fd} {r k:AS} (hr:r ∈ T) (hk:k ∈ T):orL (mq T (x3 d r k)) = orL T:=by
 apply xv
 intro i hi
 rw [uo hi,uo hi,Bool.eq_iff_iff,List.any_eq_true,List.any_eq_true]
 constructor
 · rintro ⟨z,hz,hb⟩
   rcases a4r.1 hz with hz | rfl
   · exact ⟨z,hz,hb⟩
   rw [az1 hi] at hb
   split at hb
   · exact ⟨r,hr,hb⟩
   exact ⟨k,hk,hb⟩
 rintro ⟨z,hz,hb⟩
 exact ⟨z,a4r.2 (.inl hz),hb⟩
theorem b13 {d:Fd} {f:Nat} {T:List AS} {i:Nat}:orL (mvO d f T i) = orL T :=
 a8w (P:=fun X=>orL X = orL T) (fun X r k h hr hk _=>(b1w hr hk).trans h) f T i rfl
theorem ahk {d:Fd} {T0:List AS} (f:Nat):∀ (T:List AS),muT T ≤ muT T0 → muT (mz d f T) ≤ muT T0:=by
 induction f with
 | zero=>intro T h;exact h
 | succ f ih =>
  intro T h
  cases hq:fdT d T with
  | none=>rw [a0b hq];exact h
  | some s =>
   rw [wg hq]
   have h1:=atc (a9x hq)
   exact ih _ (by omega)
theorem b73 (x:TC) (d:Fd):muT (fdR x d).1 ≤ muT x.1 ∧ (x.2 = false → (fdR x d).2 = true → muT (fdR x d).1 < muT x.1):=by
 refine ⟨ahk _ _ (Nat.le_refl _),fun h1 h2=>?_⟩
 unfold fdR at h2 ⊢
 rw [h1,Bool.false_or,Option.isSome_iff_exists] at h2
 obtain ⟨s,hs⟩:=h2
 show muT (mz d FU2 x.1) < _
 rw [show FU2 = 8589934591 + 1 from rfl,wg hs]
 exact Nat.lt_of_le_of_lt (ahk _ _ (Nat.le_refl _)) (atc (a9x hs))
theorem b8z {x:TC} (hn:x.1.Nodup) (d:Fd):muT (mvR x d).1 ≤ muT x.1 ∧ (x.2 = false → (mvR x d).2 = true → muT (mvR x d).1 < muT x.1):=by
 have h:=b32 (ahn d FU2 x.1 0) (congrArg BitVec.toNat b13) (w7 (afo hn))
 refine ⟨h.1,fun h1 h2=>h.2 ?_⟩
 unfold mvR at h2
 rw [h1,Bool.false_or] at h2
 exact of_decide_eq_true h2
theorem ahr:∀ (ds:List Fd) (x:TC),muT (ds.foldl fdR x).1 ≤ muT x.1 ∧ (x.2 = false → (ds.foldl fdR x).2 = true → muT (ds.foldl fdR x).1 < muT x.1)
 | [],x=>⟨Nat.le_refl _,fun h k=>by simp only [List.foldl_nil] at k;rw [h] at k;cases k⟩
 | d :: ds,x=>by
  obtain ⟨a1,a2⟩:=b73 x d
  obtain ⟨b1,b2⟩:=ahr ds (fdR x d)
  refine ⟨Nat.le_trans b1 a1,fun h k=>?_⟩
  cases hq:(fdR x d).2 with
  | true=>exact Nat.lt_of_le_of_lt b1 (a2 h hq)
  | false=>exact Nat.lt_of_lt_of_le (b2 hq k) a1
theorem aij:∀ (ds:List Fd) (x:TC),x.1.Nodup → muT (ds.foldl mvR x).1 ≤ muT x.1 ∧ (x.2 = false → (ds.foldl mvR x).2 = true → muT (ds.foldl mvR x).1 < muT x.1)
 | [],x,_=>⟨Nat.le_refl _,fun h k=>by simp only [List.foldl_nil] at k;rw [h] at k;cases k⟩
 | d :: ds,x,hn=>by
  obtain ⟨a1,a2⟩:=b8z hn d
  obtain ⟨b1,b2⟩:=aij ds (mvR x d) (afo hn)
  refine ⟨Nat.le_trans b1 a1,fun h k=>?_⟩
  cases hq:(mvR x d).2 with
  | true=>exact Nat.lt_of_le_of_lt b1 (a2 h hq)
  | false=>exact Nat.lt_of_lt_of_le (b2 hq k) a1
theorem b6x {fs ms:List Fd} {T:List AS} (hn:T.Nodup) (h:(su fs ms T).2 = true):muT (su fs ms T).1 < muT T:=by
 unfold su at h ⊢
 obtain ⟨a1,a2⟩:=ahr fs (T,false)
 have hn2:(fs.foldl fdR (T,false)).1.Nodup:=a8c b08 fs (T,false) (fun _ h=>h) hn
 obtain ⟨b1,b2⟩:=aij ms (fs.foldl fdR (T,false)) hn2
 cases hq:(fs.foldl fdR (T,false)).2 with
 | true=>exact Nat.lt_of_le_of_lt b1 (a2 rfl hq)
 | false=>exact Nat.lt_of_lt_of_le (b2 hq h) a1
def MU:Nat:=73786976294838206464
theorem b6s (T:List AS):muT T < MU:=by
 unfold muT
 have h:=(orL T).isLt
 have h1:((orL T).toNat + 1) * FU2 ≤ 4294967296 * FU2:=Nat.mul_le_mul_right _ h
 rw [Nat.add_mul] at h1
 have e:FU2 = 8589934592:=rfl
 have e2:MU = 73786976294838206464:=rfl
 omega
def ax1 (rest:AS):List AS:=mq [0] rest
def chT (fs ms:List Fd) (rest:AS):List AS:=chF fs ms MU (ax1 rest)
theorem ba0 (rest:AS):(ax1 rest).Nodup:=t7 (by simp)
end Go.Hx
end
section
namespace Go.Hx
open Go.Proofs
set_option maxRecDepth 100000
def sT:List Rw:=[[0,1,5],[0,7,2]]
def fdX:List Fd:=[⟨1,2⟩]
end Go.Hx
end
section
namespace Go.Hx
open Go.Proofs
set_option maxRecDepth 100000
theorem ald:goodFn Tryz.prog 30:=⟨Tryz.f30,Tryz.func30,by kernel_rfl,by kernel_rfl⟩
theorem bce (a b:List AS):ae Tryz.prog 30 [pP (asl a),pP (asl b)] (ai [pB (decide (a = b))]):=by
 refine a8 (nt:=26) a7 Tryz.func30 rfl rfl l9 ?_;refine w_6 ?_
 refine dg 0 rfl fun hn0=>?_
 refine dg 1 rfl fun hn1=>?_
 refine w_7 ?_;refine a6 _ rfl (fun r0=>?_) (fun r0=>?_)
 ·
  have h0:=r0
  have h0:=of_decide_eq_false (ap h0)
  try simp only [ty] at h0
  refine w_4 ?_
  exact hx8 rfl rfl rfl (⟨ccb (decide_eq_false fun e=>by subst e;omega).symm,trivial⟩)
 have h0:=r0
 have h0:=of_decide_eq_true (am h0)
 try simp only [ty] at h0
 refine w_9 ?_
 refine aj (ι:=Nat) ⟨[(0,some _),(1,some _),(12,some _)],[]⟩ ⟨⟨c9,c9,c9,trivial⟩,trivial⟩ (fun i=>⟨[(13,some (vI i))],[]⟩) (fun i=>i ≤ a.length ∧ ∀ j,j < i → a.getD j default = b.getD j default) (fun i=>a.length - i) (0) (⟨Nat.zero_le _,fun j hj=>absurd hj (Nat.not_lt_zero j)⟩) ⟨⟨⟨_,rfl,(CoR.refl _)⟩,trivial⟩,trivial⟩ ?_
 rintro i ⟨hi,hI⟩
 refine w_5 ?_;refine a6 _ rfl (fun r1=>?_) (fun r1=>?_)
 ·
  have h1:=of_decide_eq_true r1
  try simp only [ty] at h1
  refine w_9 ?_;refine bp (E:=bm) a7 ax [0,1,2,3,4,5,6,7,8] ?_;refine d7 ?_;refine ⟨by kernel_rfl, ?_⟩;refine a6 _ rfl (fun r2=>?_) (fun r2=>?_)
  ·
   have h2:=r2
   have h2:=of_decide_eq_false (ap h2)
   try simp only [ty] at h2
   refine w_4 ?_
   exact hx8 rfl rfl rfl (⟨ccb (decide_eq_false fun e=>by subst e;exact absurd rfl (by assumption:¬ asI _ = asI _)).symm,trivial⟩)
  have h2:=r2
  have h2:=of_decide_eq_true (am h2)
  try simp only [ty] at h2
  refine w_5 ?_;refine ⟨i + 1, ?_, ?_, ?_⟩
  · refine ⟨by omega,fun j hj=>?_⟩
    by_cases e:j = i
    · subst e;exact c6.1 (by assumption)
    exact hI j (by omega)
  · first | omega | (dsimp only;omega)
  exact ⟨⟨⟨_,rfl,(CoR.refl _)⟩,c9,c9,c9,trivial⟩,trivial⟩
 have h1:=of_decide_eq_false r1
 try simp only [ty] at h1
 obtain rfl:i = a.length:=by omega
 refine w_5 ?_
 exact hx8 rfl rfl rfl (⟨ccb (decide_eq_true (b9k (by omega) hI)).symm,trivial⟩)
end Go.Hx
end
section
namespace Go.Hx
structure MvO (d:Fd) (T0:List AS) (x:Nat × List AS × Nat):Prop where
 nd:x.2.1.Nodup
 pre:T0 <+: x.2.1
 res:mvO d x.1 x.2.1 x.2.2 = mvO d FU2 T0 0
 le:x.2.2 ≤ x.2.1.length
 fuel:4294967296 < x.1 + x.2.2
structure MvI (d:Fd) (T:List AS) (i:Nat) (x:Nat × List AS × Nat):Prop where
 nd:x.2.1.Nodup
 pre:T <+: x.2.1
 res:mvI d x.1 x.2.1 i x.2.2 = mvI d 8589934592 T i 0
 le:x.2.2 ≤ x.2.1.length
 fuel:4294967296 < x.1 + x.2.2
section
variable {d:Fd} {T0 T:List AS} {i f k:Nat}
theorem MvO.start (h:T.Nodup):MvO d T (FU2,T,0):=⟨h,List.prefix_refl _,rfl,Nat.zero_le _,by show 4294967296 < 8589934592 + 0;omega⟩
theorem MvI.start (h:T.Nodup):MvI d T i (8589934592,T,0):=⟨h,List.prefix_refl _,rfl,Nat.zero_le _,by show 4294967296 < 8589934592 + 0;omega⟩
theorem MvO.pos (h:MvO d T0 (f,T,i)):0 < f ∧ T.length ≤ 4294967296:=by
 have h1:=w7 h.nd
 have h2:=h.le
 have h3:=h.fuel
 dsimp only at h1 h2 h3
 omega
theorem MvI.pos {U:List AS} (h:MvI d T i (f,U,k)):0 < f ∧ U.length ≤ 4294967296:=by
 have h1:=w7 h.nd
 have h2:=h.le
 have h3:=h.fuel
 dsimp only at h1 h2 h3
 omega
theorem MvO.done (h:MvO d T0 (f,T,i)) (hi:¬ i < T.length):T = mvO d FU2 T0 0:=by
 have hp:=h.pos.1
 have hr:mvO d f T i = mvO d FU2 T0 0:=h.res
 obtain ⟨g,rfl⟩:∃ g,f = g + 1:=⟨f - 1,by omega⟩
 unfold mvO at hr
 rw [if_neg hi] at hr
 exact hr
theorem MvI.done {U:List AS} (h:MvI d T i (f,U,k)) (hk:¬ k < U.length):U = mvI d 8589934592 T i 0:=by
 have hp:=h.pos.1
 have hr:mvI d f U i k = mvI d 8589934592 T i 0:=h.res
 obtain ⟨g,rfl⟩:∃ g,f = g + 1:=⟨f - 1,by omega⟩
 unfold mvI at hr
 rw [if_neg hk] at hr
 exact hr
theorem MvI.next {U:List AS} (h:MvI d T i (f,U,k)) (hk:k < U.length):MvI d T i (f - 1,mvS d U i k,k + 1):=by
 have hp:=h.pos.1
 have hr:mvI d f U i k = mvI d 8589934592 T i 0:=h.res
 obtain ⟨g,rfl⟩:∃ g,f = g + 1:=⟨f - 1,by omega⟩
 unfold mvI at hr
 rw [if_pos hk] at hr
 have hf:4294967296 < g + 1 + k:=h.fuel
 exact ⟨asr h.nd,h.pre.trans (a2g d U i k),hr,Nat.le_trans hk (a2g d U i k).length_le,by show 4294967296 < g + (k + 1);omega⟩
theorem MvO.next (h:MvO d T0 (f,T,i)) (hi:i < T.length) {U:List AS} (hU:U = mvI d 8589934592 T i 0):MvO d T0 (f - 1,U,i + 1):=by
 subst hU
 have hp:=h.pos.1
 have hr:mvO d f T i = mvO d FU2 T0 0:=h.res
 obtain ⟨g,rfl⟩:∃ g,f = g + 1:=⟨f - 1,by omega⟩
 unfold mvO at hr
 rw [if_pos hi] at hr
 have hf:4294967296 < g + 1 + i:=h.fuel
 exact ⟨ac7 h.nd,h.pre.trans (a2m d _ T i 0),hr,Nat.le_trans hi (a2m d _ T i 0).length_le,by show 4294967296 < g + (i + 1);omega⟩
end
end Go.Hx
end
section
namespace Go.Hx
structure ChI (l m:List Fd) (R:List AS) (x:Nat × List AS × Bool):Prop where
 nd:x.2.1.Nodup
 t:x.2.2 = true → chF l m x.1 x.2.1 = R ∧ muT x.2.1 < x.1
 f:x.2.2 = false → x.2.1 = R
def ben (x:Nat × List AS × Bool):Nat:=x.1 + (bif x.2.2 then 1 else 0)
theorem ChI.start (l m:List Fd) (rest:AS):ChI l m (chT l m rest) (MU,ax1 rest,true):=⟨ba0 rest,fun _=>⟨rfl,b6s _⟩,fun h=>by cases h⟩
theorem ChI.next {l m:List Fd} {R T:List AS} {f:Nat} (h:ChI l m R (f,T,true)):ChI l m R (f - 1,(su l m T).1,(su l m T).2) ∧ 0 < f:=by
 obtain ⟨h1,h2⟩:=h.t rfl
 have h2:muT T < f:=h2
 have h1:chF l m f T = R:=h1
 have hn:T.Nodup:=h.nd
 obtain ⟨g,rfl⟩:∃ g,f = g + 1:=⟨f - 1,by omega⟩
 unfold chF at h1
 refine ⟨⟨b3q b08 bb5 hn,fun hc=>?_,fun hc=>?_⟩,by omega⟩
 · have hc:(su l m T).2 = true:=hc
   rw [if_pos hc] at h1
   have:=b6x hn hc
   exact ⟨h1,by show muT (su l m T).1 < g;omega⟩
 have hc:(su l m T).2 = false:=hc
 rw [if_neg (by rw [hc];decide)] at h1
 exact h1
def beg (l:List Fd) (T:List AS) (i:Nat):TC:=(l.take i).foldl fdR (T,false)
def mvX (m:List Fd) (x:TC) (i:Nat):TC:=(m.take i).foldl mvR x
structure FdI (d:Fd) (U0:List AS) (x:Nat × List AS × Bool):Prop where
 nd:x.2.1.Nodup
 res:mz d x.1 x.2.1 = mz d FU2 U0
 fuel:(orL x.2.1).toNat < x.1
 f:x.2.2 = false → x.2.1 = U0
 t:x.2.2 = true → (fdT d U0).isSome = true
section
variable {d:Fd} {U0 U:List AS} {g:Nat} {b c:Bool} {s:AS}
theorem FdI.start (h:U0.Nodup):FdI d U0 (FU2,U0,false):=⟨h,rfl,Nat.lt_of_lt_of_le (orL U0).isLt (show 2 ^ 32 ≤ FU2 by decide),fun _=>rfl,fun h=>by cases h⟩
theorem FdI.len (h:FdI d U0 (g,U,b)):U.length ≤ 8589934592:=Nat.le_trans (w7 (show U.Nodup from h.nd)) (by decide)
theorem FdI.next (h:FdI d U0 (g,U,b)) (hq:fdT d U = some s):FdI d U0 (g - 1,o4 U s,true) ∧ 0 < g:=by
 have h3:(orL U).toNat < g:=h.fuel
 have h2:mz d g U = mz d FU2 U0:=h.res
 obtain ⟨k,rfl⟩:∃ k,g = k + 1:=⟨g - 1,by omega⟩
 rw [wg hq] at h2
 have h4:=a9x hq
 refine ⟨⟨a68 U s,h2,(by show (orL (o4 U s)).toNat < k;omega),(fun hc=>by cases hc),fun _=>?_⟩,by omega⟩
 cases hb:b with
 | true=>exact h.t hb
 | false =>
  have e:U = U0:=h.f hb
  rw [← e,hq]
  rfl
theorem FdI.done (h:FdI d U0 (g,U,b)) (hq:fdT d U = none):(U,c || b) = fdR (U0,c) d:=by
 have h2:mz d g U = mz d FU2 U0:=h.res
 rw [a0b hq] at h2
 unfold fdR
 rw [← h2]
 cases hb:b with
 | true=>rw [h.t hb]
 | false =>
  have e:U = U0:=h.f hb
  rw [← e,hq]
  rfl
end
end Go.Hx
end
section
namespace Go.Hx
def ae5 (a b:AS):Bool:=a1o b a
def acm (l:List AS):List AS:=a2u ae5 l
def okM (l:List AS) (i k:Nat):Bool:=(List.range k).all fun j=>decide (j = i) || !a1o (l.getD j default) (l.getD i default)
def bdt (l:List AS) (i:Nat):List AS:=((ord l).take i).filter fun x=>!xf ae5 (ord l) x
theorem ax0 {l:List AS} {z:AS}:z ∈ acm l ↔ z ∈ l ∧ ∀ b ∈ l,sub b z → b = z:=by
 unfold acm a2u
 rw [List.mem_filter,tz,Bool.not_eq_true',Bool.eq_false_iff]
 refine and_congr Iff.rfl ?_
 unfold xf ae5 a1o
 rw [Ne,List.any_eq_true]
 constructor
 · intro h b hb hs
   apply Classical.byContradiction
   intro hne
   exact h ⟨b,tz.2 hb,by rw [Bool.and_eq_true,decide_eq_true_eq,decide_eq_true_eq];exact ⟨fun e=>hne e.symm,hs⟩⟩
 rintro h ⟨b,hb,hc⟩
 rw [Bool.and_eq_true,decide_eq_true_eq,decide_eq_true_eq] at hc
 exact hc.1 (h b (tz.1 hb) hc.2).symm
theorem avd (l:List AS):(acm l).length ≤ l.length:=Nat.le_trans (List.length_filter_le _ _) (mo l)
def yq (rest L x:AS) (T:List AS) (y:AS):Bool:=!decide (y = 0) && (decide (y &&& ~~~rest = 0) && decide ((L &&& ~~~(x ||| y)) ∈ T))
def yL (rest L x:AS) (T:List AS) (k:Nat):List AS:=((List.range k).map (BitVec.ofNat 32)).filter (yq rest L x T)
section
variable {rest L x:AS} {T:List AS} {k:Nat}
end
end Go.Hx
end
section
namespace Go.Hx
inductive Lf (l:List Fd):AS → AS → Prop
 | leaf {s:AS}:gr l s = false → Lf l s s
 | left {s q:AS}:gr l s = true → Lf l (spA l s) q → Lf l s q
 | right {s q:AS}:gr l s = true → Lf l (spB l s) q → Lf l s q
def b9o (l:List Fd):Nat → AS → List AS
 | 0,s=>[s]
 | k + 1,s=>if gr l s = true then b9o l k (spA l s) ++ b9o l k (spB l s) else [s]
end Go.Hx
end
section
namespace Go.Hx
def bcv (l:List Fd) (p:AS) (k:Nat):List Fd:=(((List.range k).map (BitVec.ofNat 32)).filter fun s=>decide (sub s p)).map fun s=>⟨s,clo l s &&& p⟩
def bes (l:List Fd) (ps:List AS) (i:Nat):List Fd:=(ps.take i).flatMap fun p=>bcv l p (p.toNat + 1)
def bek (a b:List Fd):Bool:=b.any fun f=>!imp a f
def be7 (n:Int) (l:List Fd) (ps:List AS):Int:=if bg n l = 0 then lsC n ps l [] else bg n l
def be4 (n:Int) (l:List Fd) (ps:List AS):Bool:=decide (bg n l = 0) && (lsB n ps l [] && n4 l ps && ps.all (se l))
section
variable {n:Int} {l:List Fd} {ps:List AS}
theorem b1z (h0:0 ≤ n) (h8:n ≤ 8) {q:AS} (hq:sub q (ar n)):q.toNat < 65536:=by
 have h1:=anb hq
 have h2:∀ k,k ≤ 8 → (iu k).toNat < 65536:=by decide +kernel
 have h3:(ar n).toNat < 65536:=h2 (min n.toNat 32) (by omega)
 omega
theorem abg (h:lvE n ps = 0) {q:AS} (hq:q ∈ ps):q.toNat < 65536:=b1z (kw h).1 (kw h).2.1 (aca h hq)
end
end Go.Hx
end

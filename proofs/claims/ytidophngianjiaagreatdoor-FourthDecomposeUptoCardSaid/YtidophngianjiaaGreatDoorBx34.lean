/- A part of the proof: Y2 Y3 Bz5 Rb25. -/
import Derived.Test.YtidophngianjiaaGreatDoorBx15
import Derived.Test.YtidophngianjiaaGreatDoorBx19
import Derived.Test.YtidophngianjiaaGreatDoorBx30
import Derived.Test.YtidophngianjiaaGreatDoorBx31
import Derived.Test.YtidophngianjiaaGreatDoorBx33
set_option linter.all false
section
namespace Go.Hx
open Go.Proofs
set_option maxRecDepth 100000
set_option maxHeartbeats 1000000
theorem adc:goodFn Tryz.prog 15:=⟨Tryz.f15,Tryz.func15,by kernel_rfl,by kernel_rfl⟩
theorem ale (n:Nat) (c:Bool) (f:Nat → Nat → PV) (hn:n ≤ 17592186044416) :
 dg Tryz.prog 15 [.one (.p (.sl n 2 c f))] [] (.v (.one (.ref 0 n))) [(0, .arr true 2 42 n f)] []:=by
 refine eq (nt:=8) ae Tryz.func15 rfl rfl l9 rfl ?_;refine sx7 ?_;refine ca true rfl rfl rfl rfl rfl trivial ?_;refine a6 ?_
 refine xg (ι:=Bool) (fun c=>⟨[(0,some (bt (.sl n 2 c f)))],[]⟩) (fun _=>True) ?_ fun c _=>?_
 · rcases Nat.eq_zero_or_pos n with hz | h0
   · subst hz
     refine hw_exact' 0 rfl fun ad cap hcap=>?_
     refine sx7 ?_;(iterate 2 refine ca true rfl rfl rfl rfl rfl trivial ?_);refine a6 ?_;refine a8 ad.isNone rfl (fun hc=>?_) (fun hc=>?_)
     · refine sx7 ?_
       refine ca true rfl rfl rfl rfl rfl trivial ?_;refine a6 ?_;refine db 2 0 true 2 42 f (by decide) rfl (CoP.sl rfl (.inr rfl) (fun h=>h) fun i j hi _=>absurd hi (Nat.not_lt_zero i)) (.inr rfl) rfl ?_
       refine ap ?_;refine ⟨.inr rfl, ?_⟩
       exact ⟨_,_,rfl,trivial,CoR.refl _,⟨u9,trivial⟩⟩
     · refine aa ?_
       exact ⟨false,trivial,⟨⟨_,rfl,CoP.raw_sl hcap⟩,trivial⟩,trivial⟩
   · refine sx7 ?_
     refine ca true rfl rfl rfl rfl rfl trivial ?_;refine ca true rfl rfl rfl rfl rfl h0 ?_;refine a6 ?_;refine a8 false rfl (fun hc=>by cases hc) (fun hc=>?_);refine aa ?_
     exact ⟨c,trivial,⟨c9,trivial⟩,trivial⟩
 · refine sx7 ?_
   refine tl 0 rfl rfl rfl rfl rfl rfl trivial ?_;refine ca true rfl rfl rfl rfl rfl trivial ?_
   refine a0q 0 true rfl rfl rfl rfl rfl rfl ⟨trivial,rfl,rfl,rfl, .inl rfl,by show 0 + n ≤ 9223372036854775807;omega,by show (0 + n) * 8 ≤ 140737488355328;omega,fun _=>.inl rfl⟩ ?_
   refine ca true rfl rfl rfl rfl rfl trivial ?_;refine a6 ?_;refine ap ?_;refine ⟨.inr rfl, ?_⟩
   refine ⟨_,_,rfl,trivial,CoR.of_eq (by show HR.v (.one (.ref 0 (0 + n))) = _;rw [Nat.zero_add]),⟨⟨_,rfl, ?_⟩,trivial⟩⟩
   exact ⟨fun h=>h,rfl,rfl,(Nat.zero_add n).symm,fun i j _ _=>CoP.of_eq (by simp [ef])⟩
theorem agl (n:Nat) (c:Bool) (f:Nat → Nat → PV) (hn:n ≤ 17592186044416):ai Tryz.prog 15 [.one (.sl n 2 c f)] (.v (.one (.sl n 2 false f))) :=
 dg.pure (args:=[.one (.sl n 2 c f)]) (l:=[.one (.ref 0 n)]) (ale n c f hn) rfl ⟨rfl,trivial⟩
theorem agb:goodFn Tryz.prog 107:=⟨Tryz.f107,Tryz.func107,by kernel_rfl,by kernel_rfl⟩
theorem ah0 (n:Int) (l m:List Fd) (x:AS):ai Tryz.prog 107 [pI n,pP (fdl l),pP (fdl m),pA x] (ao [pI (ckB n l m x)]):=by
 refine ah (nt:=21) ae Tryz.func107 rfl rfl l9 ?_;refine sx7 ?_;refine qy ?_;refine a6 ?_;refine a7 ?_;refine sx7 ?_;(iterate 3 refine qy ?_)
 refine rc rfl rfl rfl rfl rfl rfl a6s (a1j n l m) (CoL.refl _) rfl rfl ?_;refine qy ?_;refine a6 ?_;refine sx7 ?_;(iterate 2 refine qy ?_);refine a6 ?_;refine a8 _ rfl (fun r0=>?_) (fun r0=>?_)
 ·
  have h0:=r0
  have h0:=of_decide_eq_false (av h0)
  try simp only [ty] at h0
  refine sx7 ?_;(iterate 2 refine qy ?_);refine a6 ?_
  exact hx8 rfl rfl rfl (⟨cci (ajc (by assumption)).symm,trivial⟩)
 ·
  have h0:=r0
  have h0:=of_decide_eq_true (aw h0)
  try simp only [ty] at h0
  have hb:c8 n l m = 0:=h0
  obtain ⟨hn0,hn1,_⟩:=k7 hb
  refine aa ?_;refine a7 ?_;refine sx7 ?_;(iterate 2 refine qy ?_);refine rq rfl rfl rfl rfl rfl ?_ (hp:=hn0);refine qy ?_;refine a6 ?_;refine a8 _ rfl (fun r1=>?_) (fun r1=>?_)
  ·
   have h1:=r1
   have h1:=of_decide_eq_false (av h1)
   try simp only [ty] at h1
   refine sx7 ?_;refine qy ?_;refine a6 ?_
   exact hx8 rfl rfl rfl (⟨cci (asr hb (fun e=>(by assumption:¬ _ = _) ((wn x n.toNat).trans (congrArg asI e)))).symm,trivial⟩)
  ·
   have h1:=r1
   have h1:=of_decide_eq_true (aw h1)
   try simp only [ty] at h1
   refine aa ?_;refine sx7 ?_;refine qy ?_;refine a6 ?_
   exact hx8 rfl rfl rfl (⟨cci (a2w hb (ep.1 ((wn x n.toNat).symm.trans (by assumption)))).symm,trivial⟩)
theorem aha:goodFn Tryz.prog 109:=⟨Tryz.f109,Tryz.func109,by kernel_rfl,by kernel_rfl⟩
theorem asv (l m:List Fd) (hl:l.length ≤ 64) (hm:m.length ≤ 64):ai Tryz.prog 109 [pP (fdl l),pP (fdl m)] (ao [pP (fdl (fq l m))]):=by
 refine ah (nt:=37) ae Tryz.func109 rfl rfl l9 ?_;refine sx7 ?_;refine qy ?_;refine a6 ?_;refine sx7 ?_;refine qy ?_
 refine cn rfl rfl rfl rfl rfl rfl adc ((ale m.length false (lf Fd.c m) (by omega)).swap 0 900) (fe.refl _) trivial rfl rfl ?_;refine qy ?_;refine a6 ?_;refine a7 ?_;refine sx7 ?_
 (iterate 3 refine qy ?_);refine a6 ?_;refine ab ?_
 refine aj (ι:=Nat) ⟨[(12,some _),(13,some _)],[]⟩ ⟨⟨c9,c9,trivial⟩,trivial⟩ (fun i=>⟨[(5,some (.v (.one (.ref 900 (jc l m i 0).length)))),(14,some (vI i))],[(900,some (.arr true 2 42 (jc l m i 0).length (lf Fd.c (jc l m i 0))))]⟩) (fun i=>i ≤ l.length) (fun i=>l.length - i) (0) (Nat.zero_le _) ⟨⟨⟨_,rfl,(ci (a9a l m))⟩,⟨_,rfl,(CoR.refl _)⟩,trivial⟩,⟨⟨_,rfl,(c6 (a9a l m))⟩,trivial⟩⟩ ?_
 rintro i hi
 have hmb:=adf (l.getD i default).rhs
 refine sx7 ?_;refine qy ?_;refine a6 ?_;refine a7 ?_;refine a8 _ rfl (fun r0=>?_) (fun r0=>?_)
 ·
  have h0:=of_decide_eq_true r0
  try simp only [ty] at h0
  refine aa ?_;refine a7 ?_;refine ab ?_;refine sx7 ?_;(iterate 2 refine qy ?_);refine m9 0 ?_;refine s9 ?_;refine a6 ?_;refine sx7 ?_;(iterate 2 refine qy ?_)
  refine rc rfl rfl rfl rfl rfl rfl agn (azu (l.getD i default).rhs) (CoL.refl _) rfl rfl ?_;(iterate 2 refine qy ?_);refine a6 ?_;refine ab ?_
  refine aj (ι:=Nat) ⟨[(7,some _),(12,some _),(13,some _),(14,some _),(20,some _),(21,some _)],[(0,some _)]⟩ ⟨⟨c9,c9,c9,c9,c9,c9,trivial⟩,⟨u9,trivial⟩⟩ (fun k=>⟨[(5,some (.v (.one (.ref 900 (jc l m i k).length)))),(22,some (vI k))],[(900,some (.arr true 2 42 (jc l m i k).length (lf Fd.c (jc l m i k))))]⟩) (fun k=>k ≤ (az (l.getD i default).rhs).length) (fun k=>(az (l.getD i default).rhs).length - k) (0) (Nat.zero_le _) ⟨⟨zy,⟨_,rfl,(CoR.refl _)⟩,trivial⟩,⟨u9,trivial⟩⟩ ?_
  rintro k hk
  have hal:=aqi (fs:=l) (ms:=m) (i:=i) (k:=k)
  refine sx7 ?_;refine qy ?_;refine a6 ?_;refine a7 ?_;refine a8 _ rfl (fun r1=>?_) (fun r1=>?_)
  ·
   have h1:=of_decide_eq_true r1
   try simp only [ty] at h1
   refine aa ?_;refine a7 ?_;refine ab ?_;refine sx7 ?_;(iterate 3 refine qy ?_);refine a6 ?_;refine ax (E:=bf) ae ar [0,1,2,3,4,5,6,7,8] ?_;(iterate 6 refine qy ?_)
   refine m9 1 ?_;refine ra 2 true rfl rfl rfl rfl rfl rfl ?_;refine qy ?_;refine a6 ?_;refine ⟨by kernel_rfl, ?_⟩;refine gy ?_;(iterate 2 refine qy ?_);refine a6 ?_;refine ⟨k + 1, ?_, ?_, ?_⟩
   · show k + 1 ≤ _;omega
   · first | omega | (dsimp only;omega)
   · exact ⟨⟨⟨_,rfl,(d7 (ag5 (by omega)))⟩,zy,c9,c9,c9,c9,c9,c9,trivial⟩,⟨⟨_,rfl,(zn (ag5 (by omega)) (CoP.refl _) (CoP.of_eq (congrArg (fun z=>PV.raw (.int .u32 z)) (aqj 1 _))))⟩,u9,trivial⟩⟩
  ·
   have h1:=of_decide_eq_false r1
   try simp only [ty] at h1
   obtain rfl:k = (az (l.getD i default).rhs).length:=by omega
   refine ak ?_;refine gy ?_;(iterate 2 refine qy ?_);refine a6 ?_;refine ⟨i + 1, ?_, ?_, ?_⟩
   · show i + 1 ≤ _;omega
   · first | omega | (dsimp only;omega)
   · exact ⟨⟨⟨_,rfl,(ci (ahi (by omega)))⟩,zy,c9,c9,trivial⟩,⟨⟨_,rfl,(c6 (ahi (by omega)))⟩,trivial⟩⟩
 ·
  have h0:=of_decide_eq_false r0
  try simp only [ty] at h0
  obtain rfl:i = l.length:=by omega
  refine ak ?_;refine sx7 ?_;(iterate 2 refine qy ?_);refine a6 ?_;refine bn 4 rfl rfl rfl ?_
  exact hx8 rfl rfl rfl (⟨CoC.one (CoP.of_eq (by rw [arn];rfl)),trivial⟩)
theorem azp:goodFn Tryz.prog 55:=⟨Tryz.f55,Tryz.func55,by kernel_rfl,by kernel_rfl⟩
theorem av0 (n:Int) (l m:List Fd) (x:AS):ai Tryz.prog 55 [pI n,pP (fdl l),pP (fdl m),pA x] (ao [pP (asl (ari n l m x)),pI (ckB n l m x)]):=by
 refine ah (nt:=25) ae Tryz.func55 rfl rfl l9 ?_;refine sx7 ?_;(iterate 2 refine qy ?_);refine a6 ?_;refine a7 ?_;refine sx7 ?_;(iterate 4 refine qy ?_)
 refine rc rfl rfl rfl rfl rfl rfl agb (ah0 n l m x) (CoL.refl _) rfl rfl ?_;refine qy ?_;refine a6 ?_;refine sx7 ?_;(iterate 2 refine qy ?_);refine a6 ?_;refine a8 _ rfl (fun r0=>?_) (fun r0=>?_)
 ·
  have h0:=r0
  have h0:=of_decide_eq_false (av h0)
  try simp only [ty] at h0
  refine sx7 ?_;(iterate 3 refine qy ?_);refine a6 ?_
  exact hx8 rfl rfl rfl (⟨CoC.one (act (if_neg (by assumption))),CoC.refl _,trivial⟩)
 ·
  have h0:=r0
  have h0:=of_decide_eq_true (aw h0)
  try simp only [ty] at h0
  have hz:ckB n l m x = 0:=h0
  have hb:=uw hz
  obtain ⟨hn0,hn1,hl64,_,hm64,_⟩:=k7 hb.1
  refine aa ?_;refine sx7 ?_;(iterate 3 refine qy ?_);refine rc rfl rfl rfl rfl rfl rfl aha (asv l m hl64 hm64) (CoL.refl _) rfl rfl ?_;refine qy ?_
  refine rc rfl rfl rfl rfl rfl rfl ahs (agt n (fq l m) x hn0 hn1) (CoL.refl _) rfl rfl ?_;(iterate 2 refine qy ?_);refine a6 ?_
  exact hx8 rfl rfl rfl (⟨CoC.one (CoP.of_eq (by rw [show ari n l m x = cr n l m x from if_pos hz];rfl)),cci hz.symm,trivial⟩)
theorem awr:goodFn Tryz.prog 111:=⟨Tryz.f111,Tryz.func111,by kernel_rfl,by kernel_rfl⟩
theorem az8 (f:Fd) (b:AS):ai Tryz.prog 111 [f.pc,pP (bx (asC b))] (ao [pB (ug b f)]):=by
 refine ah (nt:=12) ae Tryz.func111 rfl rfl l9 ?_;refine sx7 ?_;refine m9 0 ?_;refine qy ?_;refine a6 ?_;refine sx7 ?_;(iterate 9 refine qy ?_);refine a6 ?_
 exact hx8 rfl rfl rfl (⟨ccb (by unfold ug;rw [i7,adp]),trivial⟩)
theorem b0e:goodFn Tryz.prog 54:=⟨Tryz.f54,Tryz.func54,by kernel_rfl,by kernel_rfl⟩
theorem avw (n:Int) (l m:List Fd) (x:AS):ai Tryz.prog 54 [pI n,pP (fdl l),pP (fdl m),pA x] (ao [pA (ail n l m x),pI (ckB n l m x)]):=by
 refine ah (nt:=45) ae Tryz.func54 rfl rfl l9 ?_;refine sx7 ?_;(iterate 2 refine qy ?_);refine a6 ?_;refine a7 ?_;refine sx7 ?_;(iterate 4 refine qy ?_)
 refine rc rfl rfl rfl rfl rfl rfl agb (ah0 n l m x) (CoL.refl _) rfl rfl ?_;refine qy ?_;refine a6 ?_;refine sx7 ?_;(iterate 2 refine qy ?_);refine a6 ?_;refine a8 _ rfl (fun r0=>?_) (fun r0=>?_)
 ·
  have h0:=r0
  have h0:=of_decide_eq_false (av h0)
  try simp only [ty] at h0
  refine sx7 ?_;(iterate 3 refine qy ?_);refine a6 ?_
  exact hx8 rfl rfl rfl (⟨cci (congrArg asI (show (0:AS) = ail n l m x from (if_neg (by assumption)).symm)),CoC.refl _,trivial⟩)
 ·
  have h0:=r0
  have h0:=of_decide_eq_true (aw h0)
  try simp only [ty] at h0
  have hz:ckB n l m x = 0:=h0
  have hb:=uw hz
  obtain ⟨hn0,hn1,hl64,_,hm64,_⟩:=k7 hb.1
  refine aa ?_;refine sx7 ?_;(iterate 2 refine qy ?_);refine a6 ?_;refine a7 ?_;refine sx7 ?_;(iterate 3 refine qy ?_);refine rc rfl rfl rfl rfl rfl rfl aha (asv l m hl64 hm64) (CoL.refl _) rfl rfl ?_
  refine qy ?_;refine rc rfl rfl rfl rfl rfl rfl ahs (agt n (fq l m) x hn0 hn1) (CoL.refl _) rfl rfl ?_;(iterate 2 refine qy ?_);refine a6 ?_;refine ab ?_
  have hbl:=yh n l m x
  refine aj (ι:=Nat) ⟨[(1,some _),(28,some _),(29,some _)],[]⟩ ⟨⟨c9,c9,c9,trivial⟩,trivial⟩ (fun i=>⟨[(11,some (vA (p9 l x ((cr n l m x).take i)))),(30,some (vI i))],[]⟩) (fun i=>i ≤ (cr n l m x).length) (fun i=>(cr n l m x).length - i) (0) (Nat.zero_le _) ⟨⟨⟨_,rfl,(CoR.refl _)⟩,⟨_,rfl,(CoR.refl _)⟩,trivial⟩,trivial⟩ ?_
  rintro i hi
  refine sx7 ?_;refine qy ?_;refine a6 ?_;refine a7 ?_;refine a8 _ rfl (fun r1=>?_) (fun r1=>?_)
  ·
   have h1:=of_decide_eq_true r1
   try simp only [ty] at h1
   have hil:i < (cr n l m x).length:=Int.ofNat_lt.1 h1
   refine aa ?_;refine a7 ?_;refine ab ?_;refine sx7 ?_;(iterate 2 refine qy ?_);refine m9 0 ?_;refine s9 ?_;refine a6 ?_;refine a7 ?_;refine sx7 ?_;refine qy ?_
   refine rc rfl rfl rfl rfl rfl rfl a1v (aaw ((cr n l m x).getD i default)) (CoL.refl _) rfl rfl ?_;refine qy ?_;refine a6 ?_;refine a8 _ rfl (fun r2=>?_) (fun r2=>?_)
   ·
    have h2:=r2
    have h2:=of_decide_eq_false (av h2)
    try simp only [ty] at h2
    have hq:¬ bsz ((cr n l m x).getD i default) = 1:=fun e=>h2 (by rw [e];rfl)
    refine ak ?_;refine gy ?_;(iterate 2 refine qy ?_);refine a6 ?_;refine ⟨i + 1, ?_, ?_, ?_⟩
    · show i + 1 ≤ _;omega
    · first | omega | (dsimp only;omega)
    · exact ⟨⟨⟨_,rfl,(by first | exact fg (congrArg asI (ado hil hq)) | exact fg (congrArg asI (abm hil hq ha)) | exact fg ((bOr _ _).trans (congrArg asI (ad3 hil hq ha))))⟩,zy,c9,c9,c9,trivial⟩,trivial⟩
   ·
    have h2:=r2
    have h2:=of_decide_eq_true (aw h2)
    try simp only [ty] at h2
    have hq:bsz ((cr n l m x).getD i default) = 1:=Int.ofNat_inj.1 h2
    refine aa ?_;refine a7 ?_;refine l7 13 rfl rfl rfl ?_;refine gy ?_;(iterate 2 refine qy ?_)
    refine rc rfl rfl rfl rfl rfl rfl awa (b23 l 111 1 (fun j=>[bx (asC ((cr n l m x).getD i default))].getD j .any) (ug ((cr n l m x).getD i default)) awr (fun f=>az8 f ((cr n l m x).getD i default))) (CoL.refl _) rfl rfl ?_
    refine a6 ?_;refine a8 _ rfl (fun r3=>?_) (fun r3=>?_)
    ·
     have h3:=r3
     have ha:l.any (ug ((cr n l m x).getD i default)) = true:=r3
     refine gy ?_;(iterate 4 refine qy ?_);refine a6 ?_;refine gy ?_;(iterate 2 refine qy ?_);refine a6 ?_;refine ⟨i + 1, ?_, ?_, ?_⟩
     · show i + 1 ≤ _;omega
     · first | omega | (dsimp only;omega)
     · exact ⟨⟨⟨_,rfl,(by first | exact fg (congrArg asI (ado hil hq)) | exact fg (congrArg asI (abm hil hq ha)) | exact fg ((bOr _ _).trans (congrArg asI (ad3 hil hq ha))))⟩,zy,c9,c9,c9,trivial⟩,trivial⟩
    ·
     have h3:=r3
     have ha:l.any (ug ((cr n l m x).getD i default)) = false:=r3
     refine aa ?_;refine gy ?_;(iterate 2 refine qy ?_);refine a6 ?_;refine ⟨i + 1, ?_, ?_, ?_⟩
     · show i + 1 ≤ _;omega
     · first | omega | (dsimp only;omega)
     · exact ⟨⟨⟨_,rfl,(by first | exact fg (congrArg asI (ado hil hq)) | exact fg (congrArg asI (abm hil hq ha)) | exact fg ((bOr _ _).trans (congrArg asI (ad3 hil hq ha))))⟩,zy,c9,c9,c9,trivial⟩,trivial⟩
  ·
   have h1:=of_decide_eq_false r1
   try simp only [ty] at h1
   obtain rfl:i = (cr n l m x).length:=Nat.le_antisymm hi (Nat.le_of_not_lt fun q=>h1 (Int.ofNat_lt.2 q))
   rw [show (cr n l m x).take (cr n l m x).length = (cr n l m x) from List.take_length]
   refine ak ?_;refine sx7 ?_;(iterate 3 refine qy ?_);refine a6 ?_
   exact hx8 rfl rfl rfl (⟨cci (congrArg asI (show mc n l m x = ail n l m x from (if_pos hz).symm)),cci hz.symm,trivial⟩)
theorem a5z:goodFn Tryz.prog 45:=⟨Tryz.f45,Tryz.func45,by kernel_rfl,by kernel_rfl⟩
theorem a2u (n:Int) (l m:List Fd) (s:AS):ai Tryz.prog 45 [pI n,pP (fdl l),pP (fdl m),pA s] (ao [pI (ck4 n l m s)]):=by
 refine ah (nt:=27) ae Tryz.func45 rfl rfl l9 ?_;refine sx7 ?_;refine qy ?_;refine a6 ?_;refine a7 ?_;refine sx7 ?_;(iterate 3 refine qy ?_);refine b4 rfl rfl (fun r0=>?_) (fun r0=>?_)
 ·
  have h0:=of_decide_eq_true r0
  try simp only [ty] at h0
  (iterate 2 refine k9 (gtf r0) ?_);refine rq rfl rfl rfl rfl rfl ?_ (hp:=r0);refine a6 ?_;refine a8 _ rfl (fun _=>?_) (fun e=>by cases e);refine sx7 ?_;refine qy ?_;refine a6 ?_
  exact hx8 rfl rfl rfl (⟨cci (aah (by omega)).symm,trivial⟩)
 ·
  have h0:=of_decide_eq_false r0
  try simp only [ty] at h0
  (iterate 2 refine qy ?_ (hg:=(gff r0)));refine qy ?_;refine a6 ?_;refine a8 _ rfl (fun r1=>?_) (fun r1=>?_)
  ·
   have h1:=r1
   have h1:=bg r0 h1
   have h1:=of_decide_eq_true h1
   try simp only [ty] at h1
   refine sx7 ?_;refine qy ?_;refine a6 ?_
   exact hx8 rfl rfl rfl (⟨cci (aah (by omega)).symm,trivial⟩)
  ·
   have h1:=r1
   have h1:=bg r0 h1
   have h1:=of_decide_eq_false h1
   try simp only [ty] at h1
   refine aa ?_;refine a7 ?_;refine sx7 ?_;(iterate 3 refine qy ?_);refine rc rfl rfl rfl rfl rfl rfl a6s (a1j n l m) (CoL.refl _) rfl rfl ?_;refine qy ?_;refine a6 ?_;refine sx7 ?_
   (iterate 2 refine qy ?_);refine a6 ?_;refine a8 _ rfl (fun r2=>?_) (fun r2=>?_)
   ·
    have h2:=r2
    have h2:=of_decide_eq_false (av h2)
    try simp only [ty] at h2
    have hc:¬ (n < 0 ∨ 8 < n):=by omega
    refine sx7 ?_;(iterate 2 refine qy ?_);refine a6 ?_
    exact hx8 rfl rfl rfl (⟨cci ((vn hc).trans (ajc (by assumption))).symm,trivial⟩)
   ·
    have h2:=r2
    have h2:=of_decide_eq_true (aw h2)
    try simp only [ty] at h2
    have hb:c8 n l m = 0:=h2
    obtain ⟨hn0,hn1,_⟩:=k7 hb
    have hc:¬ (n < 0 ∨ 8 < n):=by omega
    refine aa ?_;refine a7 ?_;refine sx7 ?_;(iterate 2 refine qy ?_);refine rq rfl rfl rfl rfl rfl ?_ (hp:=hn0);refine qy ?_;refine a6 ?_;refine a8 _ rfl (fun r3=>?_) (fun r3=>?_)
    ·
     have h3:=r3
     have h3:=of_decide_eq_false (av h3)
     try simp only [ty] at h3
     refine sx7 ?_;refine qy ?_;refine a6 ?_
     exact hx8 rfl rfl rfl (⟨cci ((vn hc).trans (asr hb (fun e=>(by assumption:¬ _ = _) ((wn s n.toNat).trans (congrArg asI e))))).symm,trivial⟩)
    ·
     have h3:=r3
     have h3:=of_decide_eq_true (aw h3)
     try simp only [ty] at h3
     refine aa ?_;refine sx7 ?_;refine qy ?_;refine a6 ?_
     exact hx8 rfl rfl rfl (⟨cci ((vn hc).trans (a2w hb (ep.1 ((wn s n.toNat).symm.trans (by assumption))))).symm,trivial⟩)
end Go.Hx
end
section
namespace Go.Hx
open Go.Proofs
set_option maxRecDepth 100000
set_option maxHeartbeats 1000000
theorem a4x {n:Int} (h:n ≤ 16):af n >>> n.toNat = 0:=by
 unfold af
 rw [show min n.toNat 32 = n.toNat by omega]
 exact (mz (by omega)).1 (gn _)
theorem aoo {n:Int} {l m:List Fd} {x:AS} (h:ckB n l m x = 0):ai Tryz.prog 55 [pI n,pP (fdl l),pP (fdl m),pA x] (ao [pP (asl (cr n l m x)),pI 0]):=by
 have:=av0 n l m x
 rw [h,show ari n l m x = cr n l m x from if_pos h] at this
 exact this
theorem asi {n:Int} {l m:List Fd} {x:AS} (h:ckB n l m x = 0):ai Tryz.prog 54 [pI n,pP (fdl l),pP (fdl m),pA x] (ao [pA (mc n l m x),pI 0]):=by
 have:=avw n l m x
 rw [h,show ail n l m x = mc n l m x from if_pos h] at this
 exact this
theorem a6h {n:Int} {l m:List Fd} {p x:AS} (h:p &&& ~~~(mc n l m x) = 0):wo n l m p x = none:=if_pos h
theorem a5i {n:Int} {l m:List Fd} {p x:AS} (h:¬ p &&& ~~~(mc n l m x) = 0) (h2:¬ 1 < (ge n l m x p).length):wo n l m p x = none:=by unfold wo;rw [if_neg h,if_neg h2]
theorem amz {n:Int} {l m:List Fd} {p x:AS} (h:¬ p &&& ~~~(mc n l m x) = 0) (h2:1 < (ge n l m x p).length):wo n l m p x = some ⟨x,(ge n l m x p).getD 0 default⟩:=by unfold wo;rw [if_neg h,if_pos h2]
def is4 (n:Int) (l m:List Fd):Bool:=if ck4 n l m 0 = 0 then !(yc n l m (af n)).2 else false
theorem b0w:goodFn Tryz.prog 27:=⟨Tryz.f27,Tryz.func27,by kernel_rfl,by kernel_rfl⟩
theorem b2l (n:Int) (l m:List Fd) (x p:AS):ai Tryz.prog 27 [pI n,pP (fdl l),pP (fdl m),pA x,pA p] (ao [pP (asl (aqn n l m x p)),pI (ck4 n l m (x ||| p))]):=by
 refine ah (nt:=58) ae Tryz.func27 rfl rfl l9 ?_;refine sx7 ?_;(iterate 2 refine qy ?_);refine a6 ?_;refine a7 ?_;refine sx7 ?_;(iterate 6 refine qy ?_)
 refine rc rfl rfl rfl rfl rfl rfl a5z (a2u n l m (x ||| p)) (⟨CoC.refl _,CoC.refl _,CoC.refl _,cci (bOr _ _),trivial⟩) rfl rfl ?_;refine qy ?_;refine a6 ?_;refine sx7 ?_;(iterate 2 refine qy ?_)
 refine a6 ?_;refine a8 _ rfl (fun r0=>?_) (fun r0=>?_)
 ·
  have h0:=r0
  have h0:=of_decide_eq_false (av h0)
  try simp only [ty] at h0
  refine sx7 ?_;(iterate 3 refine qy ?_);refine a6 ?_
  exact hx8 rfl rfl rfl (⟨CoC.one (act (if_neg (by assumption))),CoC.refl _,trivial⟩)
 ·
  have h0:=r0
  have h0:=of_decide_eq_true (aw h0)
  try simp only [ty] at h0
  have hz:ck4 n l m (x ||| p) = 0:=h0
  have hx:=a80 (kz hz).2.2 (yg (a:=x) (b:=p))
  refine aa ?_;refine sx7 ?_;(iterate 4 refine qy ?_);refine rc rfl rfl rfl rfl rfl rfl azp (aoo hx) (CoL.refl _) rfl rfl ?_;(iterate 5 refine qy ?_);refine a6 ?_;refine a7 ?_;refine sx7 ?_
  (iterate 2 refine qy ?_);refine a6 ?_;refine a8 _ rfl (fun e=>by cases e) (fun _=>?_);refine aa ?_;refine sx7 ?_;refine qy ?_;refine a6 ?_;refine a7 ?_;refine sx7 ?_;(iterate 3 refine qy ?_)
  refine a6 ?_;refine ab ?_;refine db 15 900 true 1 38 (lf sC []) (by decide) rfl (CoP.sl rfl (.inr rfl) (fun h=>h) (fun i j hi _=>absurd hi (Nat.not_lt_zero i))) (.inr rfl) rfl ?_
  have hbl:=yh n l m x
  refine aj (ι:=Nat) ⟨[(4,some _),(39,some _),(40,some _)],[]⟩ ⟨⟨c9,c9,c9,trivial⟩,trivial⟩ (fun i=>⟨[(15,some (.v (.one (.ref 900 (jb p ((cr n l m x).take i)).length)))),(41,some (vI i))],[(900,some (.arr true 1 38 (jb p ((cr n l m x).take i)).length (lf sC (jb p ((cr n l m x).take i)))))]⟩) (fun i=>i ≤ (cr n l m x).length) (fun i=>(cr n l m x).length - i) (0) (Nat.zero_le _) ⟨⟨⟨_,rfl,(CoR.refl _)⟩,⟨_,rfl,(CoR.refl _)⟩,trivial⟩,⟨u9,trivial⟩⟩ ?_
  rintro i hi
  have hcl:(jb p ((cr n l m x).take i)).length ≤ i:=Nat.le_trans (a47 _ _) (by rw [List.length_take];omega)
  refine sx7 ?_;refine qy ?_;refine a6 ?_;refine a7 ?_;refine a8 _ rfl (fun r1=>?_) (fun r1=>?_)
  ·
   have h1:=of_decide_eq_true r1
   try simp only [ty] at h1
   refine aa ?_;refine a7 ?_;refine ab ?_;refine sx7 ?_;(iterate 3 refine qy ?_);refine a6 ?_;refine sx7 ?_;(iterate 4 refine qy ?_);refine a6 ?_;refine a8 _ rfl (fun r2=>?_) (fun r2=>?_)
   ·
    have h2:=r2
    have h2:=of_decide_eq_false (av h2)
    try simp only [ty] at h2
    have hq:¬ (cr n l m x).getD i default &&& p = 0:=md h2
    refine gy ?_;(iterate 4 refine qy ?_);refine m9 0 ?_;refine ra 1 true rfl rfl rfl rfl rfl rfl ?_;refine qy ?_;refine a6 ?_;refine gy ?_;(iterate 2 refine qy ?_);refine a6 ?_
    first | (refine ⟨i + 1, ?_, ?_, ?_⟩
             · show i + 1 ≤ _;omega
             · first | omega | (dsimp only;omega)
             · exact ⟨⟨⟨_,rfl,(d7 (sa (by omega) hq))⟩,⟨_,rfl,(CoR.refl _)⟩,c9,c9,c9,trivial⟩,⟨⟨_,rfl,(cw (sa (by omega) hq) (CoP.of_eq (congrArg (fun z=>PV.raw (.int .u32 z)) (i6 _ _))))⟩,trivial⟩⟩)
          | (refine ⟨i + 1, ?_, ?_, ?_⟩
             · show i + 1 ≤ _;omega
             · first | omega | (dsimp only;omega)
             · exact ⟨⟨⟨_,rfl,(ci (s6 (by omega) hq))⟩,⟨_,rfl,(CoR.refl _)⟩,c9,c9,c9,trivial⟩,⟨⟨_,rfl,(c6 (s6 (by omega) hq))⟩,trivial⟩⟩)
   ·
    have h2:=r2
    have h2:=of_decide_eq_true (aw h2)
    try simp only [ty] at h2
    have hq:(cr n l m x).getD i default &&& p = 0:=p7 h2
    refine aa ?_;refine gy ?_;(iterate 2 refine qy ?_);refine a6 ?_
    first | (refine ⟨i + 1, ?_, ?_, ?_⟩
             · show i + 1 ≤ _;omega
             · first | omega | (dsimp only;omega)
             · exact ⟨⟨⟨_,rfl,(d7 (sa (by omega) hq))⟩,⟨_,rfl,(CoR.refl _)⟩,c9,c9,c9,trivial⟩,⟨⟨_,rfl,(cw (sa (by omega) hq) (CoP.of_eq (congrArg (fun z=>PV.raw (.int .u32 z)) (i6 _ _))))⟩,trivial⟩⟩)
          | (refine ⟨i + 1, ?_, ?_, ?_⟩
             · show i + 1 ≤ _;omega
             · first | omega | (dsimp only;omega)
             · exact ⟨⟨⟨_,rfl,(ci (s6 (by omega) hq))⟩,⟨_,rfl,(CoR.refl _)⟩,c9,c9,c9,trivial⟩,⟨⟨_,rfl,(c6 (s6 (by omega) hq))⟩,trivial⟩⟩)
  ·
   have h1:=of_decide_eq_false r1
   try simp only [ty] at h1
   obtain rfl:i = (cr n l m x).length:=by omega
   rw [show (cr n l m x).take (cr n l m x).length = (cr n l m x) from List.take_length]
   refine ak ?_;refine a7 ?_;refine bn 15 rfl rfl rfl ?_;refine gy ?_;refine qy ?_;refine rc rfl rfl rfl rfl rfl rfl a6v (a58 (jb p (cr n l m x)) (a2d n l m x p)) (CoL.refl _) rfl rfl ?_
   (iterate 2 refine qy ?_);refine a6 ?_
   exact hx8 rfl rfl rfl (⟨CoC.one (CoP.of_eq (by rw [show aqn n l m x p = ge n l m x p from if_pos hz];rfl)),cci hz.symm,trivial⟩)
theorem azr {n:Int} {l m:List Fd} {x p:AS} (h:ck4 n l m (x ||| p) = 0):ai Tryz.prog 27 [pI n,pP (fdl l),pP (fdl m),pA x,pA p] (ao [pP (asl (ge n l m x p)),pI 0]):=by
 have:=b2l n l m x p
 rw [h,show aqn n l m x p = ge n l m x p from if_pos h] at this
 exact this
theorem a6c:goodFn Tryz.prog 26:=⟨Tryz.f26,Tryz.func26,by kernel_rfl,by kernel_rfl⟩
theorem aiu (n:Int) (l m:List Fd) (p:AS):ai Tryz.prog 26 [pI n,pP (fdl l),pP (fdl m),pA p] (ao [(yc n l m p).1.pc,pB (yc n l m p).2,pI (ck4 n l m p)]):=by
 refine ah (nt:=72) ae Tryz.func26 rfl rfl l9 ?_;refine sx7 ?_;refine m9 0 ?_;(iterate 2 refine qy ?_);refine a6 ?_;refine a7 ?_;refine sx7 ?_;(iterate 4 refine qy ?_)
 refine rc rfl rfl rfl rfl rfl rfl a5z (a2u n l m p) (CoL.refl _) rfl rfl ?_;refine qy ?_;refine a6 ?_;refine sx7 ?_;(iterate 2 refine qy ?_);refine a6 ?_;refine a8 _ rfl (fun r0=>?_) (fun r0=>?_)
 ·
  have h0:=r0
  have h0:=of_decide_eq_false (av h0)
  try simp only [ty] at h0
  refine sx7 ?_;(iterate 2 refine qy ?_);refine s9 ?_;(iterate 2 refine qy ?_);refine a6 ?_
  exact hx8 rfl rfl rfl (by rw [b0s (by assumption)];exact ⟨CoC.agg ⟨CoP.of_eq rfl,CoP.of_eq rfl,trivial⟩,CoC.refl _,CoC.refl _,trivial⟩)
 ·
  have h0:=r0
  have h0:=of_decide_eq_true (aw h0)
  try simp only [ty] at h0
  have hz:ck4 n l m p = 0:=h0
  have hsl:=a9h p
  refine aa ?_;refine a7 ?_;refine sx7 ?_;refine qy ?_;refine rc rfl rfl rfl rfl rfl rfl b0a (b1w p) (CoL.refl _) rfl rfl ?_;(iterate 2 refine qy ?_);refine a6 ?_;refine ab ?_
  refine aj (ι:=Nat) ⟨[(0,some _),(1,some _),(2,some _),(3,some _),(8,some _),(27,some _),(28,some _)],[(0,some _)]⟩ ⟨⟨c9,c9,c9,c9,c9,c9,c9,trivial⟩,⟨u9,trivial⟩⟩ (fun i=>⟨[(29,some (vI i))],[]⟩) (fun i=>i ≤ (cb p).length ∧ ((cb p).take i).findSome? (wo n l m p) = none) (fun i=>(cb p).length - i) (0) (⟨Nat.zero_le _,rfl⟩) ⟨⟨⟨_,rfl,(CoR.refl _)⟩,trivial⟩,trivial⟩ ?_
  rintro i ⟨hi,hI⟩
  refine sx7 ?_;refine qy ?_;refine a6 ?_;refine a7 ?_;refine a8 _ rfl (fun r1=>?_) (fun r1=>?_)
  ·
   have h1:=of_decide_eq_true r1
   try simp only [ty] at h1
   have hil:i < (cb p).length:=by omega
   have hxs:sub ((cb p).getD i default) p:=vf (gv hil)
   have hX:ckB n l m ((cb p).getD i default) = 0:=a80 (kz hz).2.2 hxs
   have hXp:ck4 n l m (((cb p).getD i default) ||| p) = 0:=a7m hz (xm hxs (gn p))
   refine aa ?_;refine a7 ?_;refine ab ?_;refine sx7 ?_;(iterate 3 refine qy ?_);refine a6 ?_;refine sx7 ?_;(iterate 4 refine qy ?_)
   refine rc rfl rfl rfl rfl rfl rfl b0e (asi hX) (CoL.refl _) rfl rfl ?_;(iterate 5 refine qy ?_);refine a6 ?_;refine a7 ?_;refine sx7 ?_;(iterate 2 refine qy ?_);refine a6 ?_
   refine a8 _ rfl (fun e=>by cases e) (fun _=>?_);refine aa ?_;refine a7 ?_;refine sx7 ?_;(iterate 4 refine qy ?_);refine a6 ?_;refine a8 _ rfl (fun r2=>?_) (fun r2=>?_)
   ·
    have h2:=of_decide_eq_true r2
    try simp only [ty] at h2
    have hq:p &&& ~~~(mc n l m ((cb p).getD i default)) = 0:=aiy h2
    refine ak ?_;refine gy ?_;(iterate 2 refine qy ?_);refine a6 ?_;refine ⟨i + 1, ?_, ?_, ?_⟩
    · exact ⟨by omega,(gz hil hI).trans (by first | exact a6h hq | exact a5i hq hc)⟩
    · first | omega | (dsimp only;omega)
    · exact ⟨⟨⟨_,rfl,(CoR.refl _)⟩,c9,c9,c9,c9,c9,c9,c9,trivial⟩,⟨u9,trivial⟩⟩
   ·
    have h2:=of_decide_eq_false r2
    try simp only [ty] at h2
    have hq:¬ p &&& ~~~(mc n l m ((cb p).getD i default)) = 0:=acx h2
    refine aa ?_;refine sx7 ?_;(iterate 5 refine qy ?_);refine rc rfl rfl rfl rfl rfl rfl b0w (azr hXp) (CoL.refl _) rfl rfl ?_;(iterate 5 refine qy ?_);refine a6 ?_;refine a7 ?_;refine sx7 ?_
    (iterate 2 refine qy ?_);refine a6 ?_;refine a8 _ rfl (fun e=>by cases e) (fun _=>?_);refine aa ?_;refine sx7 ?_;(iterate 3 refine qy ?_);refine a6 ?_
    refine a8 _ rfl (fun r3=>?_) (fun r3=>?_)
    ·
     have h3:=of_decide_eq_true r3
     try simp only [ty] at h3
     have hc:1 < (ge n l m ((cb p).getD i default) p).length:=by omega
     have hcl:(ge n l m ((cb p).getD i default) p).length ≤ 8589934592:=Nat.le_trans (ot _) (a2d n l m ((cb p).getD i default) p)
     refine sx7 ?_;(iterate 5 refine qy ?_);refine s9 ?_;(iterate 2 refine qy ?_);refine a6 ?_;refine ap ?_;refine ⟨.inr rfl, ?_⟩
     have he:yc n l m p = (⟨((cb p).getD i default),(ge n l m ((cb p).getD i default) p).getD 0 default⟩,true):=by
      rw [ade hz,show bc n l m p = some _ from oo hil hI (amz hq hc)]
      rfl
     exact f9 rfl rfl (by rw [he];exact ⟨CoC.agg ⟨CoP.refl _,CoP.refl _,trivial⟩,CoC.refl _,cci hz.symm,trivial⟩)
    ·
     have h3:=of_decide_eq_false r3
     try simp only [ty] at h3
     have hc:¬ 1 < (ge n l m ((cb p).getD i default) p).length:=by omega
     refine aa ?_;refine gy ?_;(iterate 2 refine qy ?_);refine a6 ?_;refine ⟨i + 1, ?_, ?_, ?_⟩
     · exact ⟨by omega,(gz hil hI).trans (by first | exact a6h hq | exact a5i hq hc)⟩
     · first | omega | (dsimp only;omega)
     · exact ⟨⟨⟨_,rfl,(CoR.refl _)⟩,c9,c9,c9,c9,c9,c9,c9,trivial⟩,⟨u9,trivial⟩⟩
  ·
   have h1:=of_decide_eq_false r1
   try simp only [ty] at h1
   obtain rfl:i = (cb p).length:=by omega
   rw [show (cb p).take (cb p).length = (cb p) from List.take_length] at hI
   refine ak ?_;refine sx7 ?_;refine qy ?_;refine s9 ?_;(iterate 2 refine qy ?_);refine a6 ?_;refine ap ?_;refine ⟨.inr rfl, ?_⟩
   have he:yc n l m p = (⟨0,0⟩,false):=by
    rw [ade hz,show bc n l m p = none from hI]
    rfl
   exact f9 rfl rfl (by rw [he];exact ⟨CoC.agg ⟨CoP.of_eq rfl,CoP.of_eq rfl,trivial⟩,CoC.refl _,cci hz.symm,trivial⟩)
theorem am7 {n:Int} {l m:List Fd} {p:AS} (h:ck4 n l m p = 0):ai Tryz.prog 26 [pI n,pP (fdl l),pP (fdl m),pA p] (ao [(vF (bc n l m) p).pc,pB (vBo (bc n l m) p),pI 0]):=by
 have:=aiu n l m p
 rw [h,ade h] at this
 exact this
theorem ak8 {V:AS → Option Fd} {t:List AS} {i j:Nat} (h:i = j):PV.raw (.int .u32 (d4 .andNot .u32 (asI (t.getD i default)) (asI (vF V (t.getD j default)).rhs))) = sC (gl V (t.getD j default)) 0:=by
 subst h
 exact congrArg (fun z=>PV.raw (.int .u32 z)) (i7 _ _)
theorem ag0 {n:Int} {l m:List Fd} {t:List AS} {s:AS} (ht:∀ q ∈ t,ck4 n l m q = 0) (hv:vBo (bc n l m) s = true) (hs:ck4 n l m s = 0):∀ q ∈ t ++ [i9 (bc n l m) s,gl (bc n l m) s],ck4 n l m q = 0:=by
 intro q hq
 rcases List.mem_append.1 hq with hq | hq
 · exact ht q hq
 · obtain ⟨h1,h2,h3⟩:=gm n l m s _ (um hv)
   simp only [List.mem_cons,List.not_mem_nil,or_false] at hq
   rcases hq with rfl | rfl
   · exact a7m hs h1
   · exact a7m hs o8
theorem abc:goodFn Tryz.prog 13:=⟨Tryz.f13,Tryz.func13,by kernel_rfl,by kernel_rfl⟩
theorem ajv (n:Int) (l m:List Fd):ai Tryz.prog 13 [pI n,pP (fdl l),pP (fdl m)] (ao [pP (asl (kj n l m)),pI (ck4 n l m 0)]):=by
 refine ah (nt:=71) ae Tryz.func13 rfl rfl l9 ?_;refine sx7 ?_;(iterate 2 refine qy ?_);refine a6 ?_;refine a7 ?_;refine sx7 ?_;(iterate 3 refine qy ?_)
 refine rc rfl rfl rfl rfl rfl rfl a5z (a2u n l m 0) (CoL.refl _) rfl rfl ?_;refine qy ?_;refine a6 ?_;refine sx7 ?_;(iterate 2 refine qy ?_);refine a6 ?_;refine a8 _ rfl (fun r0=>?_) (fun r0=>?_)
 ·
  have h0:=r0
  have h0:=of_decide_eq_false (av h0)
  try simp only [ty] at h0
  refine sx7 ?_;(iterate 3 refine qy ?_);refine a6 ?_
  exact hx8 rfl rfl rfl (⟨CoC.one (act (b14 (by assumption))),CoC.refl _,trivial⟩)
 ·
  have h0:=r0
  have h0:=of_decide_eq_true (aw h0)
  try simp only [ty] at h0
  have hz:ck4 n l m 0 = 0:=h0
  obtain ⟨hn0,hn8,hb⟩:=kz hz
  have hn1:n ≤ 16:=by omega
  have hf:ck4 n l m (af n) = 0:=by rw [vn (by omega)];exact a2w (uw hb).1 (a4x hn1)
  refine aa ?_;refine sx7 ?_;(iterate 2 refine qy ?_);refine rq rfl rfl rfl rfl rfl ?_ (hp:=⟨a4c hn0 hn1,a0c hn0 hn1⟩);refine m9 0 ?_;refine qy ?_;refine a6 ?_;refine sx7 ?_;refine qy ?_
  refine a6 ?_;refine a7 ?_;refine ab ?_;refine db 10 900 true 1 38 (lf sC []) (by decide) rfl (CoP.sl rfl (.inr rfl) (fun h=>h) (fun i j hi _=>absurd hi (Nat.not_lt_zero i))) (.inr rfl) rfl ?_
  refine rr 9 901 rfl rfl rfl rfl ?_
  refine aj (ι := Nat × List AS × List AS) ⟨[(0, some _), (1, some _), (2, some _)], []⟩ ⟨⟨c9, c9, c9, trivial⟩, trivial⟩ (fun x => ⟨[(10, some (.v (.one (.ref 900 x.2.2.length)))), (9, some (.v (.one (.ref 901 x.2.1.length))))], [(900, some (.arr true 1 38 x.2.2.length (lf sC x.2.2))), (901, some (.arr true 1 38 x.2.1.length (lf sC x.2.1)))]⟩) (fun x => a0v (bc n l m) (af n) x ∧ ∀ q ∈ x.2.1, ck4 n l m q = 0) (fun x => x.1) ((6562, [af n], [])) (⟨a9x hn8, fun q hq => by
        simp only [List.mem_singleton] at hq
        rw [hq];exact hf⟩) ⟨⟨zy,zy,trivial⟩,⟨u9,⟨_,rfl,(zz (CoP.of_eq (congrArg (fun z=>PV.raw (.int .u32 z)) (tu hn0 hn1))))⟩,trivial⟩⟩ ?_
  rintro x ⟨hx,hk⟩
  have hlen:=zi hx
  refine rr 9 902 rfl rfl rfl rfl ?_;refine a7 ?_;refine sx7 ?_;(iterate 3 refine qy ?_);refine a6 ?_;refine a8 _ rfl (fun r1=>?_) (fun r1=>?_)
  ·
   have h1:=of_decide_eq_true r1
   try simp only [ty] at h1
   have hs:ck4 n l m (x.2.1.getD (x.2.1.length - 1) default) = 0:=hk _ (gv (by omega))
   refine aa ?_;refine ab ?_;refine sx7 ?_;(iterate 7 refine qy ?_);refine a6 ?_;refine sx7 ?_;(iterate 6 refine qy ?_);refine a6 ?_
   refine uy ⟨[(0,some _),(1,some _),(2,some _),(9,some _),(10,some _),(11,some _)],[(900,some _),(902,some _)]⟩ (by exact ⟨⟨c9,c9,c9,c9,c9,c9,trivial⟩,⟨u9,u9,trivial⟩⟩) ?_
   refine aqr 9 901 rfl rfl rfl rfl (by simp only [fl,bv,Int.toNat_natCast];omega) rfl ?_;refine sx7 ?_;(iterate 4 refine qy ?_)
   refine rc rfl rfl rfl rfl rfl rfl a6c (am7 (p:=(x.2.1.getD (x.2.1.length - 1) default)) hs) (⟨CoC.refl _,CoC.refl _,CoC.refl _,CoC.one (CoP.of_eq (congrArg (fun i=>asC (x.2.1.getD i default)) (by omega))),trivial⟩) rfl rfl ?_
   (iterate 4 refine qy ?_);refine m9 1 ?_;refine s9 ?_;(iterate 2 refine qy ?_);refine a6 ?_;refine a7 ?_;refine sx7 ?_;(iterate 2 refine qy ?_);refine a6 ?_
   refine a8 _ rfl (fun e=>by cases e) (fun _=>?_);refine aa ?_;refine sx7 ?_;refine qy ?_;refine a6 ?_;refine a8 _ rfl (fun r2=>?_) (fun r2=>?_)
   ·
    have h2:=r2
    have hv:vBo (bc n l m) (x.2.1.getD (x.2.1.length - 1) default) = true:=r2
    refine gy ?_;(iterate 10 refine qy ?_);refine m9 2 ?_;refine ra 3 true rfl rfl rfl rfl rfl rfl ?_;refine qy ?_;refine a6 ?_
    first | (refine ⟨(x.1 - 1, (x.2.1.take (x.2.1.length - 1)) ++ [i9 (bc n l m) (x.2.1.getD (x.2.1.length - 1) default), gl (bc n l m) (x.2.1.getD (x.2.1.length - 1) default)], x.2.2), ?_, ?_, ?_⟩
             · exact ⟨amx (gm n l m) hx (by omega) hv,ag0 (fun q hq=>hk q (List.mem_of_mem_take hq)) hv hs⟩
             · dsimp only
               omega
             · exact ⟨⟨zy,⟨_,rfl,(a0m (by simp only [fl,bv,List.length_append,List.length_cons,List.length_nil,List.length_take];omega))⟩,c9,c9,c9,trivial⟩,⟨u9,⟨_,rfl,(agz (by simp only [fl,bv,List.length_append,List.length_cons,List.length_nil,List.length_take];omega) (fun i hi=>CoP.of_eq (af1 hi)) (CoP.of_eq (congrArg (fun z=>PV.raw (.int .u32 z)) (bOr _ _))) (CoP.of_eq (ak8 (by omega))) rfl)⟩,trivial⟩⟩)
          | (refine ⟨(x.1 - 1,(x.2.1.take (x.2.1.length - 1)),x.2.2 ++ [(x.2.1.getD (x.2.1.length - 1) default)]), ?_, ?_, ?_⟩
             · exact ⟨al5 hx (by omega) hv,fun q hq=>hk q (List.mem_of_mem_take hq)⟩
             · dsimp only
               omega
             · exact ⟨⟨⟨_,rfl,(d7 rfl)⟩,⟨_,rfl,(a0m (by simp only [fl,bv,List.length_append,List.length_cons,List.length_nil,List.length_take];omega))⟩,c9,c9,c9,trivial⟩,⟨⟨_,rfl,(cw rfl (CoP.of_eq (congrArg (fun i=>asC (x.2.1.getD i default)) (by omega))))⟩,⟨_,rfl,(abk (by omega) (by simp only [fl,bv];omega))⟩,trivial⟩⟩)
   ·
    have h2:=r2
    have hv:vBo (bc n l m) (x.2.1.getD (x.2.1.length - 1) default) = false:=r2
    refine gy ?_;(iterate 2 refine qy ?_);refine m9 4 ?_;refine ra 5 true rfl rfl rfl rfl rfl rfl ?_;refine qy ?_;refine a6 ?_
    first | (refine ⟨(x.1 - 1, (x.2.1.take (x.2.1.length - 1)) ++ [i9 (bc n l m) (x.2.1.getD (x.2.1.length - 1) default), gl (bc n l m) (x.2.1.getD (x.2.1.length - 1) default)], x.2.2), ?_, ?_, ?_⟩
             · exact ⟨amx (gm n l m) hx (by omega) hv,ag0 (fun q hq=>hk q (List.mem_of_mem_take hq)) hv hs⟩
             · dsimp only
               omega
             · exact ⟨⟨zy,⟨_,rfl,(a0m (by simp only [fl,bv,List.length_append,List.length_cons,List.length_nil,List.length_take];omega))⟩,c9,c9,c9,trivial⟩,⟨u9,⟨_,rfl,(agz (by simp only [fl,bv,List.length_append,List.length_cons,List.length_nil,List.length_take];omega) (fun i hi=>CoP.of_eq (af1 hi)) (CoP.of_eq (congrArg (fun z=>PV.raw (.int .u32 z)) (bOr _ _))) (CoP.of_eq (ak8 (by omega))) rfl)⟩,trivial⟩⟩)
          | (refine ⟨(x.1 - 1,(x.2.1.take (x.2.1.length - 1)),x.2.2 ++ [(x.2.1.getD (x.2.1.length - 1) default)]), ?_, ?_, ?_⟩
             · exact ⟨al5 hx (by omega) hv,fun q hq=>hk q (List.mem_of_mem_take hq)⟩
             · dsimp only
               omega
             · exact ⟨⟨⟨_,rfl,(d7 rfl)⟩,⟨_,rfl,(a0m (by simp only [fl,bv,List.length_append,List.length_cons,List.length_nil,List.length_take];omega))⟩,c9,c9,c9,trivial⟩,⟨⟨_,rfl,(cw rfl (CoP.of_eq (congrArg (fun i=>asC (x.2.1.getD i default)) (by omega))))⟩,⟨_,rfl,(abk (by omega) (by simp only [fl,bv];omega))⟩,trivial⟩⟩)
  ·
   have h1:=of_decide_eq_false r1
   try simp only [ty] at h1
   refine ak ?_;refine a7 ?_;refine bn 10 rfl rfl rfl ?_
   have hx0:x.2.1.length = 0:=by omega
   refine gy ?_;refine qy ?_;refine rc rfl rfl rfl rfl rfl rfl b08 (arb x.2.2 (by omega)) (CoL.refl _) rfl rfl ?_;(iterate 2 refine qy ?_);refine a6 ?_
   exact hx8 rfl rfl rfl (⟨CoC.one (CoP.of_eq (by rw [ads hz,aon hx hx0];rfl)),cci hz.symm,trivial⟩)
end Go.Hx
end
section
namespace Go.Hx
theorem b0i:yc 3 [] [⟨1,2⟩] 7 = (⟨1,2⟩,true) ∧ ck4 3 [] [⟨1,2⟩] 7 = 0:=by decide +kernel
theorem ayr:kj 3 [] [⟨1,2⟩] = [3,5] ∧ ck4 3 [] [⟨1,2⟩] 0 = 0:=by decide +kernel
theorem b0v:yc 3 [⟨2,4⟩] [] 7 = (⟨2,1⟩,true) ∧ ck4 3 [⟨2,4⟩] [] 7 = 0:=by decide +kernel
theorem azg:kj 3 [⟨2,4⟩] [] = [3,6] ∧ ck4 3 [⟨2,4⟩] [] 0 = 0:=by decide +kernel
structure Mx where
 d:Dps
 m:List Dp
deriving Inhabited
def Mx.mv (x:Mx):List Fd:=x.m.map (Dp.fd x.d.num)
def Mx.c (x:Mx):Nat → PV
 | 0=>x.d.c 0
 | 1=>x.d.c 1
 | 2=>dpl x.m
 | _=>.any
abbrev Mx.pc (x:Mx):PC:=.agg [x.c 0,x.c 1,x.c 2]
def Mx.ok (x:Mx):Bool:=decide (x.d.l.length ≤ 6) && decide (x.m.length ≤ 4)
theorem ajh {x:Mx} (h:x.ok = true):x.d.l.length ≤ 6 ∧ x.m.length ≤ 4 ∧ c8 x.d.num x.d.fds x.mv = 0:=by
 unfold Mx.ok at h
 rw [Bool.and_eq_true,decide_eq_true_eq,decide_eq_true_eq] at h
 refine ⟨h.1,h.2, ?_⟩
 have hv:=ay3 h.1
 obtain ⟨h0,h1⟩:=a5o x.d
 refine (ab5 hv (by unfold Mx.mv;rw [List.length_map];omega) fun j hj=>?_).symm
 have hm:=gv hj
 unfold Mx.mv at hm
 obtain ⟨y,hy,e⟩:=List.mem_map.1 hm
 have e:Dp.fd x.d.num y = x.mv.getD j default:=e
 rw [← e]
 exact (n7 h0 (by omega)).2 ⟨sc,sc⟩
theorem b09 {a b:List AS} (hl:a.length = b.length) (h:∀ j,j < a.length → a.getD j default = b.getD j default):a = b:=by
 apply List.ext_getElem hl
 intro i h1 h2
 have:=h i h1
 rw [List.getD_eq_getElem?_getD,List.getD_eq_getElem?_getD,List.getElem?_eq_getElem h1,List.getElem?_eq_getElem h2] at this
 simpa using this
theorem atp {n:Int} {l m:List Fd} {a b:AS} (hb:c8 n l m = 0):ckB n l m (a ||| b) = if sub a (af n) ∧ sub b (af n) then 0 else 1:=by
 obtain ⟨hn0,hn1,_⟩:=k7 hb
 unfold ckB af
 rw [if_pos hb,show min n.toNat 32 = n.toNat by omega]
 have e:(a ||| b) >>> n.toNat = 0 ↔ sub a (gq n.toNat) ∧ sub b (gq n.toNat):=by rw [b0g,mz (by omega),mz (by omega)]
 by_cases h:(a ||| b) >>> n.toNat = 0
 · rw [if_pos h,if_pos (e.1 h)]
 · rw [if_neg h,if_neg fun q=>h (e.2 q)]
theorem ayj {n:Int} {l m:List Fd} {a b:AS} (hb:c8 n l m = 0) (ha:sub a (af n)) (hb':sub b (af n)):ckB n l m (a ||| b) = 0:=by rw [atp hb,if_pos ⟨ha,hb'⟩]
theorem akt {n:Int} {l m:List Fd} {a b:AS} (hb:c8 n l m = 0) (h:¬ sub a (af n) ∨ ¬ sub b (af n)):ckB n l m (a ||| b) = 1:=by
 rw [atp hb,if_neg]
 rintro ⟨h1,h2⟩
 rcases h with h | h
 · exact h h1
 · exact h h2
def wg (n:Int) (l m:List Fd) (ps:List AS):Int:=if ck4 n l m 0 = 0 then lsC n ps l m else ck4 n l m 0
def pz (n:Int) (l m:List Fd) (ps:List AS):Bool:=if ck4 n l m 0 = 0 then (if lsC n ps l m = 0 then lsB n ps l m && ps.all (fun p=>!vBo (bc n l m) p) else false) else false
theorem ati {n:Int} {l m:List Fd} {ps:List AS} (h:¬ ck4 n l m 0 = 0):wg n l m ps = ck4 n l m 0 ∧ pz n l m ps = false:=⟨if_neg h,if_neg h⟩
theorem b2c {n:Int} {l m:List Fd} {ps:List AS} (h:ck4 n l m 0 = 0) (h2:¬ lsC n ps l m = 0):wg n l m ps = lsC n ps l m ∧ pz n l m ps = false:=⟨if_pos h,by unfold pz;rw [if_pos h,if_neg h2]⟩
theorem b2b {n:Int} {l m:List Fd} {ps:List AS} (h:ck4 n l m 0 = 0) (h2:lsC n ps l m = 0):wg n l m ps = 0 ∧ pz n l m ps = (lsB n ps l m && ps.all (fun p=>!vBo (bc n l m) p)):=⟨(if_pos h).trans h2,by unfold pz;rw [if_pos h,if_pos h2]⟩
theorem yr {ps:List AS} {V:AS → Option Fd} {i:Nat} (h:i < ps.length):(ps.take (i + 1)).all (fun p=>!vBo V p) = ((ps.take i).all (fun p=>!vBo V p) && !vBo V (ps.getD i default)):=by
 rw [be h,List.all_append]
 simp only [List.all_cons,List.all_nil,Bool.and_true]
theorem atx {n:Int} {l m:List Fd} {ps:List AS} (h:ck4 n l m 0 = 0) (h2:lsC n ps l m = 0) {p:AS} (hp:p ∈ ps):ck4 n l m p = 0:=by
 obtain ⟨hn0,hn8,hb⟩:=kz h
 obtain ⟨_,_,_,_,ho⟩:=l8 (uq h2).1
 have hs:=qu hp
 rw [ho] at hs
 rw [vn (by omega)]
 exact a2w (uw hb).1 (ahn hs (a4x (by omega)))
theorem agr {z:Bool} {ps:List AS} {V:AS → Option Fd} {i:Nat} (h:i < ps.length):(bif (z && (ps.take i).all (fun p=>!vBo V p)) then !vBo V (ps.getD i default) else false) = (z && (ps.take (i + 1)).all (fun p=>!vBo V p)):=by
 rw [yr h,← Bool.and_assoc]
 cases z && (ps.take i).all (fun p=>!vBo V p) <;> rfl
theorem amv {z:Bool} {ps:List AS} {V:AS → Option Fd} {i:Nat} (h:i < ps.length) (hz:(z && (ps.take i).all (fun p=>!vBo V p)) = false):false = (z && (ps.take (i + 1)).all (fun p=>!vBo V p)):=by
 rw [yr h,← Bool.and_assoc,hz]
 rfl
end Go.Hx
end
section
namespace Go.Hx
open Go.Proofs Go.Proofs.YtidophngianjiaaGreatDoor
open Go.RowKit Go.ChangeShapes Go.WideShapes Go.ChangeAt
theorem azt:RdB Tryz.prog 26 3 Mx.c fun b x=>x.d.l.length ≤ b ∧ x.m.length ≤ b:=by
 intro H enc w sp held fuel cs x h
 obtain ⟨hl,n,hf⟩:=a5f Tryz.underlying26 h
 obtain ⟨y0,e0⟩:=hf 0 _ rfl
 obtain ⟨y1,e1⟩:=hf 1 _ rfl
 obtain ⟨a0,b0,h0⟩:=vr (B:=fun b (d:Dps)=>d.l.length ≤ b) (fun _ _ _ h k=>Nat.le_trans k h) b3j e0
 obtain ⟨a1,b1,h1⟩:=vr (B:=fun b (l:List Dp)=>l.length ≤ b) (fun _ _ _ h k=>Nat.le_trans k h) at8 e1
 refine ⟨hl.trans (by kernel_rfl),(⟨a0,a1⟩:Mx),⟨b0,b1⟩,fun j hj=>?_⟩
 match j,hj with
 | 0,_=>exact h0 0 (by omega)
 | 1,_=>exact h0 1 (by omega)
 | 2,_=>exact h1 0 (by omega)
def s2C (x:AS × AS):Nat → PV
 | 0=>asC x.1
 | 1=>asC x.2
 | _=>.any
theorem b2r:Rd Tryz.prog 4 1 ate:=av1 Tryz.underlying4
theorem b32:Tryz.prog.readableRec 4 = true ∧ 4 < Tryz.prog.types.size:=⟨by kernel_rfl,of_decide_eq_true (by kernel_rfl)⟩
theorem ath:Tryz.prog.readableRec 26 = true ∧ 26 < Tryz.prog.types.size:=⟨by kernel_rfl,of_decide_eq_true (by kernel_rfl)⟩
end Go.Hx
end

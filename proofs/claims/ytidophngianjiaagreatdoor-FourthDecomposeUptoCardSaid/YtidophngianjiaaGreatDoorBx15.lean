/- A part of the proof: V4 Cs5 V5 Cs2 Cs6. -/
import Derived.Lib.TrailingZeros
import Derived.Test.YtidophngianjiaaGreatDoorBx14
set_option linter.all false
section
namespace Go.Hx
open Go.Proofs
set_option maxRecDepth 100000
set_option maxHeartbeats 1000000
theorem alr:goodFn Tryz.prog 14:=⟨Tryz.f14,Tryz.func14,by kernel_rfl,by kernel_rfl⟩
theorem auq (n:Nat) (c:Bool) (f:Nat → Nat → PV) (hn:n ≤ 17592186044416) :
 dg Tryz.prog 14 [.one (.p (.sl n 2 c f))] [] (.v (.one (.ref 0 n))) [(0, .arr true 2 40 n f)] []:=by
 refine eq (nt:=8) ae Tryz.func14 rfl rfl l9 rfl ?_;refine sx7 ?_;refine ca true rfl rfl rfl rfl rfl trivial ?_;refine a6 ?_
 refine xg (ι:=Bool) (fun c=>⟨[(0,some (bt (.sl n 2 c f)))],[]⟩) (fun _=>True) ?_ fun c _=>?_
 · rcases Nat.eq_zero_or_pos n with hz | h0
   · subst hz
     refine hw_exact' 0 rfl fun ad cap hcap=>?_
     refine sx7 ?_;(iterate 2 refine ca true rfl rfl rfl rfl rfl trivial ?_);refine a6 ?_;refine a8 ad.isNone rfl (fun hc=>?_) (fun hc=>?_)
     · refine sx7 ?_
       refine ca true rfl rfl rfl rfl rfl trivial ?_;refine a6 ?_;refine db 2 0 true 2 40 f (by decide) rfl (CoP.sl rfl (.inr rfl) (fun h=>h) fun i j hi _=>absurd hi (Nat.not_lt_zero i)) (.inr rfl) rfl ?_
       refine ap ?_;refine ⟨.inr rfl, ?_⟩
       exact ⟨_,_,rfl,trivial,CoR.refl _,⟨u9,trivial⟩⟩
     · refine aa ?_
       exact ⟨false,trivial,⟨⟨_,rfl,CoP.raw_sl hcap⟩,trivial⟩,trivial⟩
   · refine sx7 ?_
     refine ca true rfl rfl rfl rfl rfl trivial ?_;refine ca true rfl rfl rfl rfl rfl h0 ?_;refine a6 ?_;refine a8 false rfl (fun hc=>by cases hc) (fun hc=>?_);refine aa ?_
     exact ⟨c,trivial,⟨c9,trivial⟩,trivial⟩
 · refine sx7 ?_
   refine tl 0 rfl rfl rfl rfl rfl rfl trivial ?_;refine ca true rfl rfl rfl rfl rfl trivial ?_
   refine a0q 0 true rfl rfl rfl rfl rfl rfl ⟨trivial,rfl,rfl,rfl, .inl rfl,by show 0 + n ≤ 9223372036854775807;omega,by show (0 + n) * 8 ≤ 140737488355328;omega,fun _=>.inl rfl⟩ ?_
   refine ca true rfl rfl rfl rfl rfl trivial ?_;refine a6 ?_;refine ap ?_;refine ⟨.inr rfl, ?_⟩
   refine ⟨_,_,rfl,trivial,CoR.of_eq (by show HR.v (.one (.ref 0 (0 + n))) = _;rw [Nat.zero_add]),⟨⟨_,rfl, ?_⟩,trivial⟩⟩
   exact ⟨fun h=>h,rfl,rfl,(Nat.zero_add n).symm,fun i j _ _=>CoP.of_eq (by simp [ef])⟩
theorem aec (n:Nat) (c:Bool) (f:Nat → Nat → PV) (hn:n ≤ 17592186044416):ai Tryz.prog 14 [.one (.sl n 2 c f)] (.v (.one (.sl n 2 false f))) :=
 dg.pure (args:=[.one (.sl n 2 c f)]) (l:=[.one (.ref 0 n)]) (auq n c f hn) rfl ⟨rfl,trivial⟩
theorem ada:goodFn Tryz.prog 22:=⟨Tryz.f22,Tryz.func22,by kernel_rfl,by kernel_rfl⟩
theorem a8d (n:Nat) (c:Bool) (f:Nat → Nat → PV) (hn:n ≤ 35184372088832) :
 dg Tryz.prog 22 [.one (.p (.sl n 1 c f))] [] (.v (.one (.ref 0 n))) [(0, .arr true 1 38 n f)] []:=by
 refine eq (nt:=8) ae Tryz.func22 rfl rfl l9 rfl ?_;refine sx7 ?_;refine ca true rfl rfl rfl rfl rfl trivial ?_;refine a6 ?_
 refine xg (ι:=Bool) (fun c=>⟨[(0,some (bt (.sl n 1 c f)))],[]⟩) (fun _=>True) ?_ fun c _=>?_
 · rcases Nat.eq_zero_or_pos n with hz | h0
   · subst hz
     refine hw_exact' 0 rfl fun ad cap hcap=>?_
     refine sx7 ?_;(iterate 2 refine ca true rfl rfl rfl rfl rfl trivial ?_);refine a6 ?_;refine a8 ad.isNone rfl (fun hc=>?_) (fun hc=>?_)
     · refine sx7 ?_
       refine ca true rfl rfl rfl rfl rfl trivial ?_;refine a6 ?_;refine db 2 0 true 1 38 f (by decide) rfl (CoP.sl rfl (.inr rfl) (fun h=>h) fun i j hi _=>absurd hi (Nat.not_lt_zero i)) (.inr rfl) rfl ?_
       refine ap ?_;refine ⟨.inr rfl, ?_⟩
       exact ⟨_,_,rfl,trivial,CoR.refl _,⟨u9,trivial⟩⟩
     · refine aa ?_
       exact ⟨false,trivial,⟨⟨_,rfl,CoP.raw_sl hcap⟩,trivial⟩,trivial⟩
   · refine sx7 ?_
     refine ca true rfl rfl rfl rfl rfl trivial ?_;refine ca true rfl rfl rfl rfl rfl h0 ?_;refine a6 ?_;refine a8 false rfl (fun hc=>by cases hc) (fun hc=>?_);refine aa ?_
     exact ⟨c,trivial,⟨c9,trivial⟩,trivial⟩
 · refine sx7 ?_
   refine tl 0 rfl rfl rfl rfl rfl rfl trivial ?_;refine ca true rfl rfl rfl rfl rfl trivial ?_
   refine a0q 0 true rfl rfl rfl rfl rfl rfl ⟨trivial,rfl,rfl,rfl, .inl rfl,by show 0 + n ≤ 9223372036854775807;omega,by show (0 + n) * 4 ≤ 140737488355328;omega,fun _=>.inl rfl⟩ ?_
   refine ca true rfl rfl rfl rfl rfl trivial ?_;refine a6 ?_;refine ap ?_;refine ⟨.inr rfl, ?_⟩
   refine ⟨_,_,rfl,trivial,CoR.of_eq (by show HR.v (.one (.ref 0 (0 + n))) = _;rw [Nat.zero_add]),⟨⟨_,rfl, ?_⟩,trivial⟩⟩
   exact ⟨fun h=>h,rfl,rfl,(Nat.zero_add n).symm,fun i j _ _=>CoP.of_eq (by simp [ef])⟩
theorem as2 (n:Nat) (c:Bool) (f:Nat → Nat → PV) (hn:n ≤ 35184372088832):ai Tryz.prog 22 [.one (.sl n 1 c f)] (.v (.one (.sl n 1 false f))) :=
 dg.pure (args:=[.one (.sl n 1 c f)]) (l:=[.one (.ref 0 n)]) (a8d n c f hn) rfl ⟨rfl,trivial⟩
theorem auv:goodFn Tryz.prog 116:=⟨Tryz.f116,Tryz.func116,by kernel_rfl,by kernel_rfl⟩
theorem b1y (l:List Fd) (g k:Nat) (caps:Nat → PV) (V:Fd → Bool) (hg:goodFn Tryz.prog g) (hV:∀ x,ai Tryz.prog g (x.pc :: gw caps k 0) (ao [pB (V x)])):ai Tryz.prog 116 [pP (fdl l),pP (.fn g k caps)] (ao [pI (idx V l)]):=by
 refine ah (nt:=19) ae Tryz.func116 rfl rfl l9 ?_;refine a7 ?_
 refine d9 0 rfl fun hn=>?_
 refine gy ?_;refine qy ?_;refine a6 ?_;refine dm (ι:=Unit) ⟨[],[]⟩ ⟨trivial,trivial⟩ (fun _i=>⟨[],[]⟩) (fun _i=>idx V l = -1) ?_ ?_
 ·
  refine sx7 ?_;(iterate 3 refine qy ?_);refine a6 ?_;refine ab ?_
  refine aj (ι:=Nat) ⟨[(0,some _),(1,some _),(7,some _)],[]⟩ ⟨⟨c9,c9,c9,trivial⟩,trivial⟩ (fun i=>⟨[(8,some (vI i))],[]⟩) (fun i=>i ≤ l.length ∧ (∀ j,j < i → V (l.getD j default) = false)) (fun i=>l.length - i) (0) (⟨Nat.zero_le _,cg⟩) ⟨⟨zy,trivial⟩,trivial⟩ ?_
  rintro i ⟨hi,hI⟩
  refine sx7 ?_;refine qy ?_;refine a6 ?_;refine a7 ?_;refine a8 _ rfl (fun r0=>?_) (fun r0=>?_)
  ·
   have h0:=of_decide_eq_true r0
   try simp only [ty] at h0
   refine aa ?_;refine a7 ?_;refine ab ?_;refine sx7 ?_;(iterate 2 refine qy ?_);refine a6 ?_;refine sx7 ?_;(iterate 5 refine qy ?_)
   refine rc rfl rfl rfl rfl rfl rfl hg (hV (l.getD i default)) (CoL.refl _) rfl rfl ?_;refine a6 ?_;refine a8 _ rfl (fun r1=>?_) (fun r1=>?_)
   ·
    have h1:=r1
    refine sx7 ?_;(iterate 2 refine qy ?_);refine a6 ?_
    exact hx8 rfl rfl rfl (⟨cci (a6p (i:=i) (by omega) hI h1).symm,trivial⟩)
   ·
    have h1:=r1
    refine aa ?_;refine gy ?_;(iterate 2 refine qy ?_);refine a6 ?_;refine ⟨i + 1, ?_, ?_, ?_⟩
    · exact ⟨by show i + 1 ≤ _;omega,br hI (h1)⟩
    · first | omega | (dsimp only;omega)
    · exact ⟨⟨zy,c9,c9,c9,trivial⟩,trivial⟩
  ·
   have h0:=of_decide_eq_false r0
   try simp only [ty] at h0
   refine ak ?_;refine ⟨(), ?_, ?_⟩
   · exact a5k fun j hj=>hI j (by omega)
   · exact ⟨trivial,trivial⟩
 · rintro _ hj
   refine sx7 ?_;refine qy ?_;refine a6 ?_
   exact hx8 rfl rfl rfl (⟨cci hj.symm,trivial⟩)
theorem ahx:goodFn Tryz.prog 121:=⟨Tryz.f121,Tryz.func121,by kernel_rfl,by kernel_rfl⟩
theorem ats (l:List AS) (g k:Nat) (caps:Nat → PV) (V:AS → Bool) (hg:goodFn Tryz.prog g) (hV:∀ x,ai Tryz.prog g (pA x :: gw caps k 0) (ao [pB (V x)])):ai Tryz.prog 121 [pP (asl l),pP (.fn g k caps)] (ao [pI (idx V l)]):=by
 refine ah (nt:=19) ae Tryz.func121 rfl rfl l9 ?_;refine a7 ?_
 refine d9 0 rfl fun hn=>?_
 refine gy ?_;refine qy ?_;refine a6 ?_;refine dm (ι:=Unit) ⟨[],[]⟩ ⟨trivial,trivial⟩ (fun _i=>⟨[],[]⟩) (fun _i=>idx V l = -1) ?_ ?_
 ·
  refine sx7 ?_;(iterate 3 refine qy ?_);refine a6 ?_;refine ab ?_
  refine aj (ι:=Nat) ⟨[(0,some _),(1,some _),(7,some _)],[]⟩ ⟨⟨c9,c9,c9,trivial⟩,trivial⟩ (fun i=>⟨[(8,some (vI i))],[]⟩) (fun i=>i ≤ l.length ∧ (∀ j,j < i → V (l.getD j default) = false)) (fun i=>l.length - i) (0) (⟨Nat.zero_le _,cg⟩) ⟨⟨zy,trivial⟩,trivial⟩ ?_
  rintro i ⟨hi,hI⟩
  refine sx7 ?_;refine qy ?_;refine a6 ?_;refine a7 ?_;refine a8 _ rfl (fun r0=>?_) (fun r0=>?_)
  ·
   have h0:=of_decide_eq_true r0
   try simp only [ty] at h0
   refine aa ?_;refine a7 ?_;refine ab ?_;refine sx7 ?_;(iterate 2 refine qy ?_);refine a6 ?_;refine sx7 ?_;(iterate 5 refine qy ?_)
   refine rc rfl rfl rfl rfl rfl rfl hg (hV (l.getD i default)) (CoL.refl _) rfl rfl ?_;refine a6 ?_;refine a8 _ rfl (fun r1=>?_) (fun r1=>?_)
   ·
    have h1:=r1
    refine sx7 ?_;(iterate 2 refine qy ?_);refine a6 ?_
    exact hx8 rfl rfl rfl (⟨cci (a6p (i:=i) (by omega) hI h1).symm,trivial⟩)
   ·
    have h1:=r1
    refine aa ?_;refine gy ?_;(iterate 2 refine qy ?_);refine a6 ?_;refine ⟨i + 1, ?_, ?_, ?_⟩
    · exact ⟨by show i + 1 ≤ _;omega,br hI (h1)⟩
    · first | omega | (dsimp only;omega)
    · exact ⟨⟨zy,c9,c9,c9,trivial⟩,trivial⟩
  ·
   have h0:=of_decide_eq_false r0
   try simp only [ty] at h0
   refine ak ?_;refine ⟨(), ?_, ?_⟩
   · exact a5k fun j hj=>hI j (by omega)
   · exact ⟨trivial,trivial⟩
 · rintro _ hj
   refine sx7 ?_;refine qy ?_;refine a6 ?_
   exact hx8 rfl rfl rfl (⟨cci hj.symm,trivial⟩)
theorem awa:goodFn Tryz.prog 110:=⟨Tryz.f110,Tryz.func110,by kernel_rfl,by kernel_rfl⟩
theorem b23 (l:List Fd) (g k:Nat) (caps:Nat → PV) (V:Fd → Bool) (hg:goodFn Tryz.prog g) (hV:∀ x,ai Tryz.prog g (x.pc :: gw caps k 0) (ao [pB (V x)])):ai Tryz.prog 110 [pP (fdl l),pP (.fn g k caps)] (ao [pB (l.any V)]):=by
 refine ah (nt:=9) ae Tryz.func110 rfl rfl l9 ?_;refine sx7 ?_;refine qy ?_;refine a6 ?_;refine sx7 ?_;(iterate 2 refine qy ?_)
 refine rc rfl rfl rfl rfl rfl rfl auv (b1y l g k caps V hg hV) (CoL.refl _) rfl rfl ?_;(iterate 2 refine qy ?_);refine a6 ?_
 exact hx8 rfl rfl rfl (⟨ccb a0j,trivial⟩)
theorem azv:goodFn Tryz.prog 65:=⟨Tryz.f65,Tryz.func65,by kernel_rfl,by kernel_rfl⟩
theorem b2j (l:List AS) (g k:Nat) (caps:Nat → PV) (V:AS → Bool) (hg:goodFn Tryz.prog g) (hV:∀ x,ai Tryz.prog g (pA x :: gw caps k 0) (ao [pB (V x)])):ai Tryz.prog 65 [pP (asl l),pP (.fn g k caps)] (ao [pB (l.any V)]):=by
 refine ah (nt:=9) ae Tryz.func65 rfl rfl l9 ?_;refine sx7 ?_;refine qy ?_;refine a6 ?_;refine sx7 ?_;(iterate 2 refine qy ?_)
 refine rc rfl rfl rfl rfl rfl rfl ahx (ats l g k caps V hg hV) (CoL.refl _) rfl rfl ?_;(iterate 2 refine qy ?_);refine a6 ?_
 exact hx8 rfl rfl rfl (⟨ccb a0j,trivial⟩)
theorem avv:goodFn Tryz.prog 122:=⟨Tryz.f122,Tryz.func122,by kernel_rfl,by kernel_rfl⟩
theorem b2p (l:List AS) (g k:Nat) (caps:Nat → PV) (V:AS → Bool) (hg:goodFn Tryz.prog g) (hV:∀ x,ai Tryz.prog g (pA x :: gw caps k 0) (ao [pB (V x)])):dg Tryz.prog 122 [.one (.ref 900 l.length), .one (.p (.fn g k caps))] [(900, .arr true 1 38 l.length (lf sC l))] (.v (.one (.p (asl (l.filter fun x=>!V x))))) [] []:=by
 refine eq (nt:=42) ae Tryz.func122 rfl rfl l9 rfl ?_;refine a7 ?_
 refine ahy 900 rfl fun hlen=>?_
 refine gy ?_;refine qy ?_;refine a6 ?_;refine sx7 ?_;(iterate 2 refine qy ?_);refine rc rfl rfl rfl rfl rfl rfl ahx (ats l g k caps V hg hV) (CoL.refl _) rfl rfl ?_;refine qy ?_;refine a6 ?_;refine a7 ?_
 refine sx7 ?_;(iterate 2 refine qy ?_);refine a6 ?_;refine a8 _ rfl (fun r0=>?_) (fun r0=>?_)
 ·
  have h0:=of_decide_eq_true r0
  try simp only [ty] at h0
  refine sx7 ?_;(iterate 2 refine qy ?_);refine a6 ?_;refine bn 4 rfl rfl rfl ?_;refine ap ?_;refine ⟨.inr rfl, ?_⟩
  exact ⟨_,_,rfl,(by (repeat' apply And.intro) <;> first | trivial | exact Nat.le_of_ble_eq_true rfl),awu (arh (by assumption)),trivial⟩
 ·
  have h0:=of_decide_eq_false r0
  try simp only [ty] at h0
  obtain ⟨i0,hi0,hi1,hi2,hi3⟩:=ar6 h0
  refine aa ?_;refine a7 ?_;refine sx7 ?_;(iterate 3 refine qy ?_);refine a6 ?_;refine ab ?_
  refine aj (ι:=Nat × Nat × List AS) ⟨[(0,some _),(1,some _)],[]⟩ ⟨⟨c9,c9,trivial⟩,trivial⟩ (fun x=>⟨[(5,some (vI x.1)),(6,some (vI x.2.1))],[(900,some (.arr true 1 38 l.length (lf sC x.2.2)))]⟩) (fun x=>DfI V l x.1 x.2.1 x.2.2) (fun x=>l.length - x.2.1) ((i0,i0 + 1,l)) (DfI.start hi1 hi2 hi3) ⟨⟨⟨_,rfl,(coi hi0)⟩,⟨_,rfl,(coi (by dsimp only;omega))⟩,trivial⟩,⟨u9,trivial⟩⟩ ?_
  rintro x hC
  have hC0:=hC
  obtain ⟨hml,hkq,hql,_,_⟩:=hC0
  refine a7 ?_;refine sx7 ?_;(iterate 4 refine qy ?_);refine a6 ?_;refine a8 _ rfl (fun r1=>?_) (fun r1=>?_)
  ·
   have h1:=of_decide_eq_true r1
   try simp only [ty] at h1
   refine aa ?_;refine a7 ?_;refine ab ?_;refine sx7 ?_;(iterate 5 refine qy ?_);refine a6 ?_;refine sx7 ?_;(iterate 2 refine qy ?_)
   refine rc rfl rfl rfl rfl rfl rfl hg (hV (x.2.2.getD (x.2.1:Int).toNat default)) (CoL.refl _) rfl rfl ?_;refine qy ?_;refine a6 ?_;refine a8 _ rfl (fun r2=>?_) (fun r2=>?_)
   ·
    have h2:=r2
    have h2:=av h2
    have hv:=h2
    refine sx7 ?_;(iterate 4 refine qy ?_);refine s9 ?_;refine a6 ?_;refine gy ?_;(iterate 3 refine qy ?_);refine a6 ?_;refine gy ?_;(iterate 3 refine qy ?_);refine a6 ?_
    first | (refine ⟨(x.1 + 1, x.2.1 + 1, x.2.2.set x.1 (x.2.2.getD x.2.1 default)), ?_, ?_, ?_⟩
             · exact hC.keep (by omega) (by simpa using hv)
             · first | omega | (dsimp only;omega)
             · exact ⟨⟨⟨_,rfl,(coi (by first | rfl | (dsimp only;omega)))⟩,⟨_,rfl,(coi (by first | rfl | (dsimp only;omega)))⟩,c9,c9,trivial⟩,⟨⟨_,rfl,(t7 id hml.symm (by omega) (by omega) (by omega))⟩,trivial⟩⟩)
          | (refine ⟨(x.1,x.2.1 + 1,x.2.2), ?_, ?_, ?_⟩
             · exact hC.skip (by omega) (by simpa using hv)
             · first | omega | (dsimp only;omega)
             · exact ⟨⟨⟨_,rfl,(coi (by first | rfl | (dsimp only;omega)))⟩,⟨_,rfl,(coi (by first | rfl | (dsimp only;omega)))⟩,c9,c9,trivial⟩,⟨u9,trivial⟩⟩)
   ·
    have h2:=r2
    have h2:=aw h2
    have hv:=h2
    refine aa ?_;refine gy ?_;(iterate 3 refine qy ?_);refine a6 ?_
    first | (refine ⟨(x.1 + 1, x.2.1 + 1, x.2.2.set x.1 (x.2.2.getD x.2.1 default)), ?_, ?_, ?_⟩
             · exact hC.keep (by omega) (by simpa using hv)
             · first | omega | (dsimp only;omega)
             · exact ⟨⟨⟨_,rfl,(coi (by first | rfl | (dsimp only;omega)))⟩,⟨_,rfl,(coi (by first | rfl | (dsimp only;omega)))⟩,c9,c9,trivial⟩,⟨⟨_,rfl,(t7 id hml.symm (by omega) (by omega) (by omega))⟩,trivial⟩⟩)
          | (refine ⟨(x.1,x.2.1 + 1,x.2.2), ?_, ?_, ?_⟩
             · exact hC.skip (by omega) (by simpa using hv)
             · first | omega | (dsimp only;omega)
             · exact ⟨⟨⟨_,rfl,(coi (by first | rfl | (dsimp only;omega)))⟩,⟨_,rfl,(coi (by first | rfl | (dsimp only;omega)))⟩,c9,c9,trivial⟩,⟨u9,trivial⟩⟩)
  ·
   have h1:=of_decide_eq_false r1
   try simp only [ty] at h1
   have hq:=h1
   refine ak ?_;refine sx7 ?_;(iterate 3 refine qy ?_);refine ra 0 true rfl rfl rfl rfl rfl rfl ?_;refine a6 ?_;refine sx7 ?_;(iterate 2 refine qy ?_);refine ary rfl rfl rfl rfl rfl ?_;refine qy ?_
   refine a6 ?_;refine ap ?_;refine ⟨.inr rfl, ?_⟩
   exact ⟨_,_,rfl,(by (repeat' apply And.intro) <;> first | trivial | exact Nat.le_of_ble_eq_true rfl),auu hC (by omega) (by simp [bv]),trivial⟩
end Go.Hx
end
section
namespace Go.Hx
def c4 (s:AS) (i:Int):Bool:=decide (0 ≤ i ∧ i < 32) && s.getLsbD i.toNat
theorem cj {s:AS} {i:Nat} (h:i < 32):c4 s i = s.getLsbD i:=by
 unfold c4
 rw [decide_eq_true (by omega)]
 simp
theorem aas {s:AS} {i:Int} (h0:0 ≤ i) (h1:i < 32):decide (d4 .and .u32 ((asI s).fdiv (2 ^ (min i.toNat 32))) 1 = 1) = c4 s i:=by
 unfold c4
 rw [wn,show (1:Int) = asI 1 from rfl,i6,decide_eq_true (show 0 ≤ i ∧ i < 32 from ⟨h0,h1⟩),Bool.true_and]
 have e:asI (s >>> i.toNat &&& 1) = asI 1 ↔ s.getLsbD i.toNat = true:=by
  rw [ep]
  constructor
  · intro h
    have:=congrArg (fun x:AS=>x.getLsbD 0) h
    simpa using this
  · intro h
    apply BitVec.eq_of_getLsbD_eq
    intro k hk
    have h1:(1:AS).getLsbD k = decide (k = 0):=by have:=a2g 0 k hk;simpa using this
    rw [BitVec.getLsbD_and,BitVec.getLsbD_ushiftRight,h1]
    by_cases hk0:k = 0
    · subst hk0;simp [h]
    · simp [hk0]
 cases hb:s.getLsbD i.toNat with
 | true=>exact decide_eq_true (e.2 hb)
 | false=>exact decide_eq_false fun h=>by rw [e.1 h] at hb;cases hb
theorem ui {s:AS} {i:Int} (h:¬ (0 ≤ i ∧ i < 32)):c4 s i = false:=by
 unfold c4
 rw [decide_eq_false h]
 rfl
theorem afq {n:Nat} (h:n ≤ 32):gq n = BitVec.ofNat 32 (2 ^ n - 1):=by
 apply BitVec.eq_of_getLsbD_eq
 intro k hk
 rw [mj n k hk,BitVec.getLsbD_ofNat,Nat.testBit_two_pow_sub_one]
 simp [hk]
theorem aff {n:Nat} (h:n ≤ 32):(gq n).toNat = 2 ^ n - 1:=by
 have h2:2 ^ n ≤ 2 ^ 32:=Nat.pow_le_pow_right (by omega) h
 have h3:0 < 2 ^ n:=Nat.two_pow_pos n
 rw [afq h,BitVec.toNat_ofNat,Nat.mod_eq_of_lt (by omega)]
theorem a6z {n:Int} {l:List Fd} (h:dl n l = 0):0 ≤ n ∧ n ≤ 16 ∧ l.length ≤ 64 ∧ l.all (inU n) = true:=by
 unfold dl at h
 split at h
 · cases h
 · split at h
   · cases h
   · split at h
     · rename_i h1 h2 h3
       exact ⟨by omega,by omega,by omega,h3⟩
     · cases h
theorem tu {n:Int} (h0:0 ≤ n) (h1:n ≤ 16):IntKind.wrap .u32 (1 * 2 ^ (min n.toNat 32)) - 1 = asI (af n):=by
 have h2:2 ^ n.toNat ≤ 2 ^ 16:=Nat.pow_le_pow_right (by omega) (by omega)
 have h3:0 < 2 ^ n.toNat:=Nat.two_pow_pos _
 rw [show IntKind.wrap .u32 (1 * 2 ^ (min n.toNat 32)) = asI ((1:AS) <<< n.toNat) from aqj 1 n.toNat]
 unfold af asI
 rw [Nat.min_eq_left (by omega),aff (by omega),BitVec.toNat_shiftLeft,Nat.shiftLeft_eq]
 rw [show (1:AS).toNat = 1 from rfl,Nat.one_mul,Nat.mod_eq_of_lt (by omega)]
 omega
theorem a4c {n:Int} (h0:0 ≤ n) (h1:n ≤ 16):0 ≤ IntKind.wrap .u32 (1 * 2 ^ (min n.toNat 32)) - 1:=by rw [tu h0 h1];exact a6q _
theorem a0c {n:Int} (h0:0 ≤ n) (h1:n ≤ 16):IntKind.wrap .u32 (1 * 2 ^ (min n.toNat 32)) - 1 ≤ 4294967295:=by rw [tu h0 h1];have:=acf (af n);omega
def a7t (n:Int) (l:List Fd) (s:AS):Bool:=decide (dl n l = 0 ∧ sub s (af n) ∧ clo l s = af n)
section
variable {n:Int} {l:List Fd} {s:AS}
end
def a3x (n:Int) (l:List Fd) (m:Int):Int:=if dl n l = 0 then (if m < n then 3 else 0) else dl n l
structure Dp where
 l:BitVec 8
 r:BitVec 8
deriving Inhabited
def Dp.c (d:Dp):Nat → PV
 | 0=>.raw (.int .u8 (d.l.toNat:Int))
 | 1=>.raw (.int .u8 (d.r.toNat:Int))
 | _=>.any
abbrev dpl (l:List Dp):PV:=psl 2 Dp.c l
def Dp.fd (n:Int) (d:Dp):Fd:=⟨d.l.setWidth 32 &&& af n,d.r.setWidth 32 &&& af n⟩
theorem acv (b:BitVec 8) (t:AS):d4 .and .u32 (b.toNat:Int) (asI t) = asI (b.setWidth 32 &&& t):=by
 have h:=b.isLt
 have e:asI (b.setWidth 32) = (b.toNat:Int):=by
  unfold asI
  rw [BitVec.toNat_setWidth,Nat.mod_eq_of_lt (by omega)]
 rw [← i6,e]
end Go.Hx
end
section
namespace Go.Hx
open Go.Proofs
set_option maxRecDepth 100000
set_option maxHeartbeats 1000000
theorem tj:goodFn Tryz.prog 171:=⟨Tryz.f171,Tryz.func171,by kernel_rfl,by kernel_rfl⟩
theorem a89 (s:AS) (i:Int):ai Tryz.prog 171 [pA s,pI i] (ao [pB (c4 s i)]):=by
 refine ah (nt:=18) ae Tryz.func171 rfl rfl l9 ?_;refine sx7 ?_;refine qy ?_;refine a6 ?_;refine sx7 ?_;(iterate 3 refine qy ?_);refine b4 rfl rfl (fun r0=>?_) (fun r0=>?_)
 ·
  have h0:=of_decide_eq_true r0
  try simp only [ty] at h0
  (iterate 2 refine qy ?_ (hg:=(gtt r0)));(iterate 2 refine qy ?_);refine b4 rfl rfl (fun r1=>?_) (fun r1=>?_)
  ·
   have h1:=r1
   have h1:=df r0 h1
   have h1:=of_decide_eq_true h1
   try simp only [ty] at h1
   (iterate 5 refine qy ?_ (hg:=(gtt r1)));(iterate 2 refine qy ?_);refine a6 ?_
   exact hx8 rfl rfl rfl (⟨ccb (by first | exact abg (by assumption) (aas (by omega) (by omega)) | exact (ui (by omega)).symm),trivial⟩)
  ·
   have h1:=r1
   have h1:=df r0 h1
   have h1:=of_decide_eq_false h1
   try simp only [ty] at h1
   (iterate 5 refine k9 (gft r1) ?_);refine rq rfl rfl rfl rfl rfl ?_ (hp:=r1);refine qy ?_;refine a6 ?_
   exact hx8 rfl rfl rfl (⟨ccb (by first | exact abg (by assumption) (aas (by omega) (by omega)) | exact (ui (by omega)).symm),trivial⟩)
 ·
  have h0:=of_decide_eq_false r0
  try simp only [ty] at h0
  (iterate 2 refine k9 (gft r0) ?_);refine rq rfl rfl rfl rfl rfl ?_ (hp:=r0);refine qy ?_;(iterate 5 refine k9 rfl ?_);(iterate 2 refine qy ?_);refine a6 ?_
  exact hx8 rfl rfl rfl (⟨ccb (by first | exact abg (by assumption) (aas (by omega) (by omega)) | exact (ui (by omega)).symm),trivial⟩)
end Go.Hx
end
section
namespace Go.Hx
def bsz (s:AS):Nat:=(List.range 32).countP fun i=>s.getLsbD i
def bef (a b:AS):Bool:=decide (bsz a < bsz b) || (decide (bsz a = bsz b) && decide (a.toNat < b.toNat))
theorem y6 (a:AS):bef a a = false:=by simp [bef]
theorem ke {a b:AS}:bef a b = true ↔ bsz a < bsz b ∨ (bsz a = bsz b ∧ a.toNat < b.toNat):=by simp [bef]
theorem oq {a b c:AS} (h:bef a b = true) (k:bef b c = true):bef a c = true:=by
 rw [ke] at *
 omega
theorem a28 {a b:AS} (h:a ≠ b):bef a b = true ∨ bef b a = true:=by
 have hn:a.toNat ≠ b.toNat:=fun e=>h (BitVec.eq_of_toNat_eq e)
 rw [ke,ke]
 omega
theorem aqv {a b:AS} (h:bef a b = true):bef b a = false:=by
 rw [Bool.eq_false_iff]
 intro k
 have:=oq h k
 rw [y6] at this
 cases this
def nb (l:List AS):Prop:=l.Pairwise fun a b=>bef a b = true
theorem nn:∀ {l k:List AS},nb l → nb k → (∀ x,x ∈ l ↔ x ∈ k) → l = k
 | [],[],_,_,_=>rfl
 | [],y :: k,_,_,h=>absurd ((h y).2 (List.mem_cons_self ..)) (by simp)
 | x :: l,[],_,_,h=>absurd ((h x).1 (List.mem_cons_self ..)) (by simp)
 | x :: l,y :: k,hl,hk,h=>by
  obtain ⟨h1,h2⟩:=List.pairwise_cons.1 hl
  obtain ⟨k1,k2⟩:=List.pairwise_cons.1 hk
  have e:x = y:=by
   rcases List.mem_cons.1 ((h x).1 (List.mem_cons_self ..)) with e | hx
   · exact e
   · rcases List.mem_cons.1 ((h y).2 (List.mem_cons_self ..)) with e | hy
     · exact e.symm
     · have:=aqv (k1 x hx)
       rw [h1 y hy] at this
       cases this
  subst e
  congr 1
  refine nn h2 k2 fun z=>?_
  constructor
  · intro hz
    rcases List.mem_cons.1 ((h z).1 (List.mem_cons_of_mem _ hz)) with e | hz'
    · subst e
      have:=h1 z hz
      rw [y6] at this
      cases this
    · exact hz'
  · intro hz
    rcases List.mem_cons.1 ((h z).2 (List.mem_cons_of_mem _ hz)) with e | hz'
    · subst e
      have:=k1 z hz
      rw [y6] at this
      cases this
    · exact hz'
def jv (x:AS):List AS → List AS
 | []=>[x]
 | y :: l=>if x = y then y :: l else if bef x y = true then x :: y :: l else y :: jv x l
theorem ul {x z:AS}:∀ {l:List AS},z ∈ jv x l ↔ z = x ∨ z ∈ l
 | []=>by simp [jv]
 | y :: l=>by
  unfold jv
  split
  · rename_i e
    subst e
    simp
  · split
    · simp
    · rw [List.mem_cons,ul,List.mem_cons]
      constructor
      · rintro (h | h | h) <;> simp [h]
      · rintro (h | h | h) <;> simp [h]
theorem vj {x:AS}:∀ {l:List AS},nb l → nb (jv x l)
 | [],_=>by simp [jv,nb]
 | y :: l,h=>by
  obtain ⟨h1,h2⟩:=List.pairwise_cons.1 h
  unfold jv
  split
  · exact h
  · split
    · rename_i hxy
      refine List.pairwise_cons.2 ⟨fun z hz=>?_,h⟩
      rcases List.mem_cons.1 hz with rfl | hz
      · exact hxy
      · exact oq hxy (h1 z hz)
    · rename_i hne hxy
      refine List.pairwise_cons.2 ⟨fun z hz=>?_,vj h2⟩
      rcases ul.1 hz with rfl | hz
      · exact (a28 hne).resolve_left hxy
      · exact h1 z hz
def ord (l:List AS):List AS:=l.foldl (fun o x=>jv x o) []
theorem a7l:∀ {l o:List AS},nb o → nb (l.foldl (fun o x=>jv x o) o) ∧ ∀ z,z ∈ l.foldl (fun o x=>jv x o) o ↔ z ∈ o ∨ z ∈ l
 | [],o,h=>⟨h,fun z=>by simp⟩
 | x :: l,o,h=>by
  obtain ⟨h1,h2⟩:=a7l (l:=l) (vj (x:=x) h)
  refine ⟨h1,fun z=>?_⟩
  show z ∈ l.foldl (fun o x=>jv x o) (jv x o) ↔ _
  rw [h2 z,ul,List.mem_cons]
  constructor
  · rintro ((h | h) | h) <;> simp [h]
  · rintro (h | h | h) <;> simp [h]
theorem gd (l:List AS):nb (ord l):=(a7l (o:=[]) List.Pairwise.nil).1
theorem gh {l:List AS} {z:AS}:z ∈ ord l ↔ z ∈ l:=by
 show z ∈ l.foldl (fun o x=>jv x o) [] ↔ _
 rw [(a7l (l:=l) (o:=[]) List.Pairwise.nil).2 z]
 simp
theorem adl {l k:List AS} (hk:nb k) (h:∀ z,z ∈ k ↔ z ∈ l):k = ord l:=nn hk (gd l) fun z=>by rw [h z,gh]
end Go.Hx
end
section
namespace Go.Hx
def az (s:AS):List Nat:=(List.range 32).filter fun i=>s.getLsbD i
def iC:Nat → Nat → PV:=fun n _=>.raw (.int .i64 (n:Int))
abbrev il (l:List Nat):PV:=psl 1 iC l
theorem oe (s:AS):bsz s = (az s).length:=by unfold bsz az;rw [List.countP_eq_length_filter]
theorem jh {s:AS} {i:Nat}:i ∈ az s ↔ i < 32 ∧ s.getLsbD i = true:=by simp [az,List.mem_filter,List.mem_range]
theorem a06 {p:Nat → Bool} {t:Nat}:∀ {l:List Nat},l.Pairwise (· < ·) → t ∈ l → p t = true → (∀ k,k < t → p k = false) → l.filter p = t :: l.filter fun k=>decide (k ≠ t) && p k
 | [],_,h,_,_=>by cases h
 | a :: l,hp,hm,h1,h2=>by
  obtain ⟨q1,q2⟩:=List.pairwise_cons.1 hp
  by_cases ha:a = t
  · subst ha
    have e:l.filter p = l.filter fun k=>decide (k ≠ a) && p k:=by
     apply List.filter_congr
     intro k hk
     have:=q1 k hk
     rw [decide_eq_true (by omega),Bool.true_and]
    simp [List.filter_cons,h1,e]
  · have hm':t ∈ l:=by
     rcases List.mem_cons.1 hm with h | h
     · exact absurd h.symm ha
     · exact h
    have:=q1 t hm'
    have hpa:=h2 a this
    simp [List.filter_cons,hpa,a06 q2 hm' h1 h2]
def ly (s:AS):Nat:=Lib.ctz 32 s.toNat
theorem ap9 {s:AS} (h:s ≠ 0):∃ m,s.toNat = 2 ^ (ly s + 1) * m + 2 ^ ly s ∧ ly s < 32:=by
 have h0:s.toNat ≠ 0:=fun e=>h (BitVec.eq_of_toNat_eq e)
 obtain ⟨m,h1,h2⟩:=Lib.ctzFrom_spec 32 s.toNat (by omega) s.isLt
 have e:ly s = Lib.ctzFrom 32 s.toNat:=by unfold ly Lib.ctz;rw [if_neg h0]
 rw [e]
 refine ⟨m, ?_,h2⟩
 rw [Nat.pow_succ]
 rw [h1] at *
 simp only [Nat.mul_add,Nat.mul_assoc,Nat.mul_one] at *
 exact h1
theorem a21 {s:AS} (h:s ≠ 0):ly s < 32 ∧ s.getLsbD (ly s) = true ∧ (∀ k,k < ly s → s.getLsbD k = false) ∧ s &&& (s - 1) = s &&& ~~~((1:AS) <<< ly s):=by
 obtain ⟨m,h1,h2⟩:=ap9 h
 generalize ly s = t at *
 have hp:2 ^ t < 2 ^ (t + 1):=Nat.pow_lt_pow_right (by omega) (by omega)
 have hb:∀ k,s.getLsbD k = if k < t + 1 then (2 ^ t).testBit k else m.testBit (k - (t + 1)):=fun k=>by
  show s.toNat.testBit k = _
  rw [h1,Nat.testBit_two_pow_mul_add _ hp]
 have hq:0 < 2 ^ t:=Nat.two_pow_pos t
 have e1:(s - 1).toNat = 2 ^ (t + 1) * m + (2 ^ t - 1):=by
  have:=s.isLt
  rw [BitVec.toNat_sub]
  show (2 ^ 32 - 1 + s.toNat) % 2 ^ 32 = _
  omega
 have hd:∀ k,(s - 1).getLsbD k = if k < t + 1 then (2 ^ t - 1).testBit k else m.testBit (k - (t + 1)):=fun k=>by
  show (s - 1).toNat.testBit k = _
  rw [e1,Nat.testBit_two_pow_mul_add _ (by omega)]
 refine ⟨h2, ?_,fun k hk=>?_, ?_⟩
 · rw [hb,if_pos (by omega),Nat.testBit_two_pow_self]
 · rw [hb,if_pos (by omega),Nat.testBit_two_pow]
   simp;omega
 · apply BitVec.eq_of_getLsbD_eq
   intro k hk
   rw [BitVec.getLsbD_and,BitVec.getLsbD_and,BitVec.getLsbD_not,a2g _ _ hk,hd k,hb k]
   by_cases h3:k < t + 1
   · rw [if_pos h3,if_pos h3,Nat.testBit_two_pow,Nat.testBit_two_pow_sub_one]
     by_cases h4:k = t
     · subst h4;simp
     · have:¬ t = k:=fun e=>h4 e.symm
       simp [this]
   · rw [if_neg h3,if_neg h3]
     have:¬ k = t:=by omega
     simp [hk,this]
theorem a07 {s:AS} (h:s ≠ 0) (k:Nat) (hk:k < 32):(s &&& (s - 1)).getLsbD k = (decide (k ≠ ly s) && s.getLsbD k):=by
 rw [(a21 h).2.2.2,BitVec.getLsbD_and,BitVec.getLsbD_not,a2g _ _ hk]
 by_cases e:k = ly s <;> simp [e,hk,Bool.and_comm]
theorem aog {s:AS} (h:s ≠ 0):az s = ly s :: az (s &&& (s - 1)):=by
 obtain ⟨h1,h2,h3,_⟩:=a21 h
 unfold az
 rw [a06 List.pairwise_lt_range (List.mem_range.2 h1) h2 h3]
 congr 1
 apply List.filter_congr
 intro k hk
 rw [a07 h k (List.mem_range.1 hk)]
theorem ahz:az 0 = []:=by
 unfold az
 rw [List.filter_eq_nil_iff]
 intro k _
 simp
theorem ap1 {s:AS} (h:s ≠ 0):(s &&& (s - 1)).toNat < s.toNat:=by
 refine a5w (b5.2 fun i hi hb=>?_) fun e=>?_
 · rw [a07 h i hi] at hb
   simp only [Bool.and_eq_true] at hb
   exact hb.2
 · have:=a07 h (ly s) (a21 h).1
   rw [e,(a21 h).2.1] at this
   simp at this
end Go.Hx
end

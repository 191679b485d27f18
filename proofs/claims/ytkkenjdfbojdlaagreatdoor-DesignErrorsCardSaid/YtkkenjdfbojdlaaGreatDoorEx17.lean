/- A part of the proof: V4 Cs5 V5 Cs2 Cs6. -/
import Derived.Lib.TrailingZeros
import Derived.Test.YtkkenjdfbojdlaaGreatDoorEx16
set_option linter.all false
section
namespace Go.Hx
open Go.Proofs
set_option maxRecDepth 100000
set_option maxHeartbeats 1000000
theorem a0q:goodFn Tryz.prog 21:=⟨Tryz.f21,Tryz.func21,by kernel_rfl,by kernel_rfl⟩
theorem xc (n:Nat) (c:Bool) (f:Nat → Nat → PV) (hn:n ≤ 35184372088832) :
 dj Tryz.prog 21 [.one (.p (.sl n 1 c f))] [] (.v (.one (.ref 0 n))) [(0, .arr true 1 46 n f)] []:=by
 refine fu (nt:=8) a7 Tryz.func21 rfl rfl l9 rfl ?_;refine sx7 ?_;refine d5 true rfl rfl rfl rfl rfl trivial ?_;refine b8 ?_
 refine a2l (ι:=Bool) (fun c=>⟨[(0,some (be (.sl n 1 c f)))],[]⟩) (fun _=>True) ?_ fun c _=>?_
 · rcases Nat.eq_zero_or_pos n with hz | h0
   · subst hz
     refine hw_exact' 0 rfl fun ad cap hcap=>?_
     refine sx7 ?_;(iterate 2 refine d5 true rfl rfl rfl rfl rfl trivial ?_);refine b8 ?_;refine a6 ad.isNone rfl (fun hc=>?_) (fun hc=>?_)
     · refine sx7 ?_
       refine d5 true rfl rfl rfl rfl rfl trivial ?_;refine b8 ?_;refine dy 2 0 true 1 46 f (by decide) rfl (CoP.sl rfl (.inr rfl) (fun h=>h) fun i j hi _=>absurd hi (Nat.not_lt_zero i)) (.inr rfl) rfl ?_
       refine gn ?_;refine ⟨.inr rfl, ?_⟩
       exact ⟨_,_,rfl,trivial,CoR.refl _,⟨u9,trivial⟩⟩
     refine dp ?_
     exact ⟨false,trivial,⟨⟨_,rfl,CoP.raw_sl hcap⟩,trivial⟩,trivial⟩
   refine sx7 ?_;refine d5 true rfl rfl rfl rfl rfl trivial ?_;refine d5 true rfl rfl rfl rfl rfl h0 ?_;refine b8 ?_;refine a6 false rfl (fun hc=>by cases hc) (fun hc=>?_);refine dp ?_
   exact ⟨c,trivial,⟨c9,trivial⟩,trivial⟩
 refine sx7 ?_;refine xm 0 rfl rfl rfl rfl rfl rfl trivial ?_;refine d5 true rfl rfl rfl rfl rfl trivial ?_
 refine a6z 0 true rfl rfl rfl rfl rfl rfl ⟨trivial,rfl,rfl,rfl, .inl rfl,by show 0 + n ≤ 9223372036854775807;omega,by show (0 + n) * 4 ≤ 140737488355328;omega,fun _=>.inl rfl⟩ ?_
 refine d5 true rfl rfl rfl rfl rfl trivial ?_;refine w_2 ?_;refine ⟨.inr rfl, ?_⟩;refine ⟨_,_,rfl,trivial,CoR.of_eq (by show HR.v (.one (.ref 0 (0 + n))) = _;rw [Nat.zero_add]),⟨⟨_,rfl, ?_⟩,trivial⟩⟩
 exact ⟨fun h=>h,rfl,rfl,(Nat.zero_add n).symm,fun i j _ _=>CoP.of_eq (by simp [i9])⟩
theorem au0 (n:Nat) (c:Bool) (f:Nat → Nat → PV) (hn:n ≤ 35184372088832):ae Tryz.prog 21 [.one (.sl n 1 c f)] (.v (.one (.sl n 1 false f))) :=
 dj.pure (args:=[.one (.sl n 1 c f)]) (l:=[.one (.ref 0 n)]) (xc n c f hn) rfl ⟨rfl,trivial⟩
theorem b55:goodFn Tryz.prog 235:=⟨Tryz.f235,Tryz.func235,by kernel_rfl,by kernel_rfl⟩
theorem bb0 (l:List Fd) (g k:Nat) (caps:Nat → PV) (V:Fd → Bool) (hg:goodFn Tryz.prog g) (hV:∀ x,ae Tryz.prog g (x.pc :: fp caps k 0) (ai [pB (V x)])):ae Tryz.prog 235 [pP (fdl l),pP (.fn g k caps)] (ai [pI (idx V l)]):=by
 refine a8 (nt:=19) a7 Tryz.func235 rfl rfl l9 ?_;refine ct ?_
 refine dg 0 rfl fun hn=>?_
 refine w_3 ?_;refine cj (ι:=Unit) ⟨[],[]⟩ ⟨trivial,trivial⟩ (fun _i=>⟨[],[]⟩) (fun _i=>idx V l = -1) ?_ ?_
 ·
  refine w_7 ?_
  refine aj (ι:=Nat) ⟨[(0,some _),(1,some _),(7,some _)],[]⟩ ⟨⟨c9,c9,c9,trivial⟩,trivial⟩ (fun i=>⟨[(8,some (vI i))],[]⟩) (fun i=>i ≤ l.length ∧ (∀ j,j < i → V (l.getD j default) = false)) (fun i=>l.length - i) (0) (⟨Nat.zero_le _,ck⟩) ⟨⟨zy,trivial⟩,trivial⟩ ?_
  rintro i ⟨hi,hI⟩
  refine w_5 ?_;refine a6 _ rfl (fun r0=>?_) (fun r0=>?_)
  ·
   have h0:=of_decide_eq_true r0
   try simp only [ty] at h0
   refine o0 ?_;refine rc rfl rfl rfl rfl rfl rfl hg (hV (l.getD i default)) (CoL.refl _) rfl rfl ?_;refine b8 ?_;refine a6 _ rfl (fun r1=>?_) (fun r1=>?_)
   ·
    have h1:=r1
    refine w_5 ?_
    exact hx8 rfl rfl rfl (⟨cci (rz (i:=i) (by omega) hI h1).symm,trivial⟩)
   have h1:=r1
   refine w_5 ?_;refine ⟨i + 1, ?_, ?_, ?_⟩
   · exact ⟨by show i + 1 ≤ _;omega,br hI (h1)⟩
   · first | omega | (dsimp only;omega)
   exact ⟨⟨zy,c9,c9,c9,trivial⟩,trivial⟩
  have h0:=of_decide_eq_false r0
  try simp only [ty] at h0
  refine er ?_;refine ⟨(), ?_, ?_⟩
  · exact rr fun j hj=>hI j (by omega)
  exact ⟨trivial,trivial⟩
 rintro _ hj
 refine w_4 ?_
 exact hx8 rfl rfl rfl (⟨cci hj.symm,trivial⟩)
theorem a80:goodFn Tryz.prog 167:=⟨Tryz.f167,Tryz.func167,by kernel_rfl,by kernel_rfl⟩
theorem azu (l:List AS) (g k:Nat) (caps:Nat → PV) (V:AS → Bool) (hg:goodFn Tryz.prog g) (hV:∀ x,ae Tryz.prog g (pA x :: fp caps k 0) (ai [pB (V x)])):ae Tryz.prog 167 [pP (asl l),pP (.fn g k caps)] (ai [pI (idx V l)]):=by
 refine a8 (nt:=19) a7 Tryz.func167 rfl rfl l9 ?_;refine ct ?_
 refine dg 0 rfl fun hn=>?_
 refine w_3 ?_;refine cj (ι:=Unit) ⟨[],[]⟩ ⟨trivial,trivial⟩ (fun _i=>⟨[],[]⟩) (fun _i=>idx V l = -1) ?_ ?_
 ·
  refine w_7 ?_
  refine aj (ι:=Nat) ⟨[(0,some _),(1,some _),(7,some _)],[]⟩ ⟨⟨c9,c9,c9,trivial⟩,trivial⟩ (fun i=>⟨[(8,some (vI i))],[]⟩) (fun i=>i ≤ l.length ∧ (∀ j,j < i → V (l.getD j default) = false)) (fun i=>l.length - i) (0) (⟨Nat.zero_le _,ck⟩) ⟨⟨zy,trivial⟩,trivial⟩ ?_
  rintro i ⟨hi,hI⟩
  refine w_5 ?_;refine a6 _ rfl (fun r0=>?_) (fun r0=>?_)
  ·
   have h0:=of_decide_eq_true r0
   try simp only [ty] at h0
   refine o0 ?_;refine rc rfl rfl rfl rfl rfl rfl hg (hV (l.getD i default)) (CoL.refl _) rfl rfl ?_;refine b8 ?_;refine a6 _ rfl (fun r1=>?_) (fun r1=>?_)
   ·
    have h1:=r1
    refine w_5 ?_
    exact hx8 rfl rfl rfl (⟨cci (rz (i:=i) (by omega) hI h1).symm,trivial⟩)
   have h1:=r1
   refine w_5 ?_;refine ⟨i + 1, ?_, ?_, ?_⟩
   · exact ⟨by show i + 1 ≤ _;omega,br hI (h1)⟩
   · first | omega | (dsimp only;omega)
   exact ⟨⟨zy,c9,c9,c9,trivial⟩,trivial⟩
  have h0:=of_decide_eq_false r0
  try simp only [ty] at h0
  refine er ?_;refine ⟨(), ?_, ?_⟩
  · exact rr fun j hj=>hI j (by omega)
  exact ⟨trivial,trivial⟩
 rintro _ hj
 refine w_4 ?_
 exact hx8 rfl rfl rfl (⟨cci hj.symm,trivial⟩)
theorem b0k:goodFn Tryz.prog 190:=⟨Tryz.f190,Tryz.func190,by kernel_rfl,by kernel_rfl⟩
theorem b9u (l:List Fd) (g k:Nat) (caps:Nat → PV) (V:Fd → Bool) (hg:goodFn Tryz.prog g) (hV:∀ x,ae Tryz.prog g (x.pc :: fp caps k 0) (ai [pB (V x)])):ae Tryz.prog 190 [pP (fdl l),pP (.fn g k caps)] (ai [pB (l.any V)]):=by
 refine a8 (nt:=9) a7 Tryz.func190 rfl rfl l9 ?_;refine w_8 ?_;refine rc rfl rfl rfl rfl rfl rfl b55 (bb0 l g k caps V hg hV) (CoL.refl _) rfl rfl ?_;refine w_3 ?_
 exact hx8 rfl rfl rfl (⟨ccb vi,trivial⟩)
theorem a94:goodFn Tryz.prog 148:=⟨Tryz.f148,Tryz.func148,by kernel_rfl,by kernel_rfl⟩
theorem ajb (l:List AS) (g k:Nat) (caps:Nat → PV) (V:AS → Bool) (hg:goodFn Tryz.prog g) (hV:∀ x,ae Tryz.prog g (pA x :: fp caps k 0) (ai [pB (V x)])):ae Tryz.prog 148 [pP (asl l),pP (.fn g k caps)] (ai [pB (l.any V)]):=by
 refine a8 (nt:=9) a7 Tryz.func148 rfl rfl l9 ?_;refine w_8 ?_;refine rc rfl rfl rfl rfl rfl rfl a80 (azu l g k caps V hg hV) (CoL.refl _) rfl rfl ?_;refine w_3 ?_
 exact hx8 rfl rfl rfl (⟨ccb vi,trivial⟩)
theorem b6o:goodFn Tryz.prog 92:=⟨Tryz.f92,Tryz.func92,by kernel_rfl,by kernel_rfl⟩
theorem bcz (l:List AS) (s:AS):ae Tryz.prog 92 [pP (asl l),pA s] (ai [pI (idx (fun x=>decide (x = s)) l)]):=by
 refine a8 (nt:=19) a7 Tryz.func92 rfl rfl l9 ?_;refine ct ?_
 refine dg 0 rfl fun hn=>?_
 refine w_3 ?_;refine cj (ι:=Unit) ⟨[],[]⟩ ⟨trivial,trivial⟩ (fun _i=>⟨[],[]⟩) (fun _i=>idx (fun x=>decide (x = s)) l = -1) ?_ ?_
 ·
  refine w_7 ?_
  refine aj (ι:=Nat) ⟨[(0,some _),(1,some _),(7,some _)],[]⟩ ⟨⟨c9,c9,c9,trivial⟩,trivial⟩ (fun i=>⟨[(8,some (vI i))],[]⟩) (fun i=>i ≤ l.length ∧ (∀ j,j < i → decide (l.getD j default = s) = false)) (fun i=>l.length - i) (0) (⟨Nat.zero_le _,ck⟩) ⟨⟨zy,trivial⟩,trivial⟩ ?_
  rintro i ⟨hi,hI⟩
  refine w_5 ?_;refine a6 _ rfl (fun r0=>?_) (fun r0=>?_)
  ·
   have h0:=of_decide_eq_true r0
   try simp only [ty] at h0
   refine akn ?_;refine a6 _ rfl (fun r1=>?_) (fun r1=>?_)
   ·
    have h1:=of_decide_eq_true r1
    try simp only [ty] at h1
    refine w_5 ?_
    exact hx8 rfl rfl rfl (⟨cci (rz (p:=fun x=>decide (x = s)) (i:=i) (by omega) hI (decide_eq_true (c6.1 h1).symm)).symm,trivial⟩)
   have h1:=of_decide_eq_false r1
   try simp only [ty] at h1
   refine w_5 ?_;refine ⟨i + 1, ?_, ?_, ?_⟩
   · exact ⟨by show i + 1 ≤ _;omega,br hI (decide_eq_false fun e=>h1 (congrArg asI e.symm))⟩
   · first | omega | (dsimp only;omega)
   exact ⟨⟨zy,c9,c9,c9,trivial⟩,trivial⟩
  have h0:=of_decide_eq_false r0
  try simp only [ty] at h0
  refine er ?_;refine ⟨(), ?_, ?_⟩
  · exact rr (p:=fun x=>decide (x = s)) fun j hj=>hI j (by omega)
  exact ⟨trivial,trivial⟩
 rintro _ hj
 refine w_4 ?_
 exact hx8 rfl rfl rfl (⟨cci hj.symm,trivial⟩)
theorem b0q:goodFn Tryz.prog 277:=⟨Tryz.f277,Tryz.func277,by kernel_rfl,by kernel_rfl⟩
theorem bd4 (l:List Fd) (s:Fd):ae Tryz.prog 277 [pP (fdl l),s.pc] (ai [pI (idx (fun x=>decide (x = s)) l)]):=by
 refine a8 (nt:=19) a7 Tryz.func277 rfl rfl l9 ?_;refine ct ?_
 refine dg 0 rfl fun hn=>?_
 refine gy ?_;refine m9 0 ?_;refine w_2 ?_;refine cj (ι:=Unit) ⟨[],[]⟩ ⟨trivial,trivial⟩ (fun _i=>⟨[],[]⟩) (fun _i=>idx (fun x=>decide (x = s)) l = -1) ?_ ?_
 ·
  refine w_7 ?_
  refine aj (ι:=Nat) ⟨[(0,some _),(3,some _),(7,some _)],[(0,some _)]⟩ ⟨⟨c9,c9,c9,trivial⟩,⟨u9,trivial⟩⟩ (fun i=>⟨[(8,some (vI i))],[]⟩) (fun i=>i ≤ l.length ∧ (∀ j,j < i → decide (l.getD j default = s) = false)) (fun i=>l.length - i) (0) (⟨Nat.zero_le _,ck⟩) ⟨⟨zy,trivial⟩,trivial⟩ ?_
  rintro i ⟨hi,hI⟩
  refine w_5 ?_;refine a6 _ rfl (fun r0=>?_) (fun r0=>?_)
  ·
   have h0:=of_decide_eq_true r0
   try simp only [ty] at h0
   refine w_9 ?_;refine bp (E:=bm) a7 ax [0,1,2,3,4,5] ?_;refine w_7 ?_;refine ⟨by kernel_rfl, ?_⟩;refine a6 _ rfl (fun r1=>?_) (fun r1=>?_)
   ·
    have h1:=r1
    refine w_5 ?_
    exact hx8 rfl rfl rfl (⟨cci (rz (p:=fun x=>decide (x = s)) (i:=i) (by omega) hI (decide_eq_true (by simp_all [Fd.eq_iff,c6]))).symm,trivial⟩)
   have h1:=r1
   refine w_5 ?_;refine ⟨i + 1, ?_, ?_, ?_⟩
   · exact ⟨by show i + 1 ≤ _;omega,br hI (decide_eq_false fun e=>by subst e;simp_all)⟩
   · first | omega | (dsimp only;omega)
   exact ⟨⟨zy,c9,c9,c9,trivial⟩,⟨u9,trivial⟩⟩
  have h0:=of_decide_eq_false r0
  try simp only [ty] at h0
  refine er ?_;refine ⟨(), ?_, ?_⟩
  · exact rr (p:=fun x=>decide (x = s)) fun j hj=>hI j (by omega)
  exact ⟨trivial,trivial⟩
 rintro _ hj
 refine w_4 ?_
 exact hx8 rfl rfl rfl (⟨cci hj.symm,trivial⟩)
theorem b28:goodFn Tryz.prog 253:=⟨Tryz.f253,Tryz.func253,by kernel_rfl,by kernel_rfl⟩
theorem bc1 (l:List Fd) (s:Fd):ae Tryz.prog 253 [pP (fdl l),s.pc] (ai [pB (l.any fun x=>decide (x = s))]):=by
 refine a8 (nt:=9) a7 Tryz.func253 rfl rfl l9 ?_;refine sx7 ?_;refine m9 0 ?_;refine w_6 ?_;refine rc rfl rfl rfl rfl rfl rfl b0q (bd4 _ _) (CoL.refl _) rfl rfl ?_;refine w_3 ?_
 exact hx8 rfl rfl rfl (⟨ccb vi,trivial⟩)
theorem a9q:goodFn Tryz.prog 117:=⟨Tryz.f117,Tryz.func117,by kernel_rfl,by kernel_rfl⟩
theorem ajh (l:List AS) (g k:Nat) (caps:Nat → PV) (V:AS → Bool) (hg:goodFn Tryz.prog g) (hV:∀ x,ae Tryz.prog g (pA x :: fp caps k 0) (ai [pB (V x)])):dj Tryz.prog 117 [.one (.ref 900 l.length), .one (.p (.fn g k caps))] [(900, .arr true 1 46 l.length (lf sC l))] (.v (.one (.p (asl (l.filter fun x=>!V x))))) [] []:=by
 refine fu (nt:=42) a7 Tryz.func117 rfl rfl l9 rfl ?_;refine ct ?_
 refine a6x 900 rfl fun hlen=>?_
 refine w_7 ?_;refine rc rfl rfl rfl rfl rfl rfl a80 (azu l g k caps V hg hV) (CoL.refl _) rfl rfl ?_;refine w_8 ?_;refine a6 _ rfl (fun r0=>?_) (fun r0=>?_)
 ·
  have h0:=of_decide_eq_true r0
  try simp only [ty] at h0
  refine w_5 ?_;refine bt 4 rfl rfl rfl ?_;refine gn ?_;refine ⟨.inr rfl, ?_⟩
  exact ⟨_,_,rfl,(by (repeat' apply And.intro) <;> first | trivial | exact Nat.le_of_ble_eq_true rfl),b0o (a5h (by assumption)),trivial⟩
 have h0:=of_decide_eq_false r0
 try simp only [ty] at h0
 obtain ⟨i0,hi0,hi1,hi2,hi3⟩:=yw h0
 refine w_9 ?_
 refine aj (ι:=Nat × Nat × List AS) ⟨[(0,some _),(1,some _)],[]⟩ ⟨⟨c9,c9,trivial⟩,trivial⟩ (fun x=>⟨[(5,some (vI x.1)),(6,some (vI x.2.1))],[(900,some (.arr true 1 46 l.length (lf sC x.2.2)))]⟩) (fun x=>DfI V l x.1 x.2.1 x.2.2) (fun x=>l.length - x.2.1) ((i0,i0 + 1,l)) (DfI.start hi1 hi2 hi3) ⟨⟨⟨_,rfl,(coi hi0)⟩,⟨_,rfl,(coi (by dsimp only;omega))⟩,trivial⟩,⟨u9,trivial⟩⟩ ?_
 rintro x hC
 have hC0:=hC
 obtain ⟨hml,hkq,hql,_,_⟩:=hC0
 refine w_8 ?_;refine a6 _ rfl (fun r1=>?_) (fun r1=>?_)
 ·
  have h1:=of_decide_eq_true r1
  try simp only [ty] at h1
  refine o0 ?_;refine rc rfl rfl rfl rfl rfl rfl hg (hV (x.2.2.getD (x.2.1:Int).toNat default)) (CoL.refl _) rfl rfl ?_;refine w_2 ?_;refine a6 _ rfl (fun r2=>?_) (fun r2=>?_)
  ·
   have h2:=r2
   have h2:=ap h2
   have hv:=h2
   refine ava ?_
   first | (refine ⟨(x.1 + 1, x.2.1 + 1, x.2.2.set x.1 (x.2.2.getD x.2.1 default)), ?_, ?_, ?_⟩
            · exact hC.keep (by omega) (by simpa using hv)
            · first | omega | (dsimp only;omega)
            exact ⟨⟨⟨_,rfl,(coi (by first | rfl | (dsimp only;omega)))⟩,⟨_,rfl,(coi (by first | rfl | (dsimp only;omega)))⟩,c9,c9,trivial⟩,⟨⟨_,rfl,(oo id hml.symm (by omega) (by omega) (by omega))⟩,trivial⟩⟩)
         | (refine ⟨(x.1,x.2.1 + 1,x.2.2), ?_, ?_, ?_⟩
            · exact hC.skip (by omega) (by simpa using hv)
            · first | omega | (dsimp only;omega)
            exact ⟨⟨⟨_,rfl,(coi (by first | rfl | (dsimp only;omega)))⟩,⟨_,rfl,(coi (by first | rfl | (dsimp only;omega)))⟩,c9,c9,trivial⟩,⟨u9,trivial⟩⟩)
  have h2:=r2
  have h2:=am h2
  have hv:=h2
  refine w_6 ?_
  first | (refine ⟨(x.1 + 1, x.2.1 + 1, x.2.2.set x.1 (x.2.2.getD x.2.1 default)), ?_, ?_, ?_⟩
           · exact hC.keep (by omega) (by simpa using hv)
           · first | omega | (dsimp only;omega)
           exact ⟨⟨⟨_,rfl,(coi (by first | rfl | (dsimp only;omega)))⟩,⟨_,rfl,(coi (by first | rfl | (dsimp only;omega)))⟩,c9,c9,trivial⟩,⟨⟨_,rfl,(oo id hml.symm (by omega) (by omega) (by omega))⟩,trivial⟩⟩)
        | (refine ⟨(x.1,x.2.1 + 1,x.2.2), ?_, ?_, ?_⟩
           · exact hC.skip (by omega) (by simpa using hv)
           · first | omega | (dsimp only;omega)
           exact ⟨⟨⟨_,rfl,(coi (by first | rfl | (dsimp only;omega)))⟩,⟨_,rfl,(coi (by first | rfl | (dsimp only;omega)))⟩,c9,c9,trivial⟩,⟨u9,trivial⟩⟩)
 have h1:=of_decide_eq_false r1
 try simp only [ty] at h1
 have hq:=h1
 refine w_6 ?_;refine ra 0 true rfl rfl rfl rfl rfl rfl ?_;refine w_5 ?_;refine aud rfl rfl rfl rfl rfl ?_;refine w_3 ?_;refine ⟨.inr rfl, ?_⟩
 exact ⟨_,_,rfl,(by (repeat' apply And.intro) <;> first | trivial | exact Nat.le_of_ble_eq_true rfl),b3x hC (by omega) (by simp [b4]),trivial⟩
end Go.Hx
end
section
namespace Go.Hx
def ep (s:AS) (i:Int):Bool:=decide (0 ≤ i ∧ i < 32) && s.getLsbD i.toNat
theorem uw {s:AS} {i:Nat} (h:i < 32):ep s i = s.getLsbD i:=by
 unfold ep
 rw [decide_eq_true (by omega)]
 simp
theorem bah {s:AS} {i:Int} (h0:0 ≤ i) (h1:i < 32):decide (bj .and .u32 ((asI s).fdiv (2 ^ (min i.toNat 32))) 1 = 1) = ep s i:=by
 unfold ep
 rw [sy,show (1:Int) = asI 1 from rfl,i6,decide_eq_true (show 0 ≤ i ∧ i < 32 from ⟨h0,h1⟩),Bool.true_and]
 have e:asI (s >>> i.toNat &&& 1) = asI 1 ↔ s.getLsbD i.toNat = true:=by
  rw [c6]
  constructor
  · intro h
    have:=congrArg (fun x:AS=>x.getLsbD 0) h
    simpa using this
  intro h
  apply BitVec.eq_of_getLsbD_eq
  intro k hk
  have h1:(1:AS).getLsbD k = decide (k = 0):=by have:=qc 0 k hk;simpa using this
  rw [BitVec.getLsbD_and,BitVec.getLsbD_ushiftRight,h1]
  by_cases hk0:k = 0
  · subst hk0;simp [h]
  simp [hk0]
 cases hb:s.getLsbD i.toNat with
 | true=>exact decide_eq_true (e.2 hb)
 | false=>exact decide_eq_false fun h=>by rw [e.1 h] at hb;cases hb
theorem b9e {s:AS} {i:Int} (h:¬ (0 ≤ i ∧ i < 32)):ep s i = false:=by
 unfold ep
 rw [decide_eq_false h]
 rfl
theorem agf {n:Nat} (h:n ≤ 32):iu n = BitVec.ofNat 32 (2 ^ n - 1):=by
 apply BitVec.eq_of_getLsbD_eq
 intro k hk
 rw [ou n k hk,BitVec.getLsbD_ofNat,Nat.testBit_two_pow_sub_one]
 simp [hk]
theorem ag7 {n:Nat} (h:n ≤ 32):(iu n).toNat = 2 ^ n - 1:=by
 have h2:2 ^ n ≤ 2 ^ 32:=Nat.pow_le_pow_right (by omega) h
 have h3:0 < 2 ^ n:=Nat.two_pow_pos n
 rw [agf h,BitVec.toNat_ofNat,Nat.mod_eq_of_lt (by omega)]
theorem fq {n:Int} {l:List Fd} (h:bg n l = 0):0 ≤ n ∧ n ≤ 16 ∧ l.length ≤ 64 ∧ l.all (inU n) = true:=by
 unfold bg at h
 split at h
 · cases h
 split at h
 · cases h
 split at h
 · rename_i h1 h2 h3
   exact ⟨by omega,by omega,by omega,h3⟩
 cases h
theorem p8 {n:Int} (h0:0 ≤ n) (h1:n ≤ 16):IntKind.wrap .u32 (1 * 2 ^ (min n.toNat 32)) - 1 = asI (ar n):=by
 have h2:2 ^ n.toNat ≤ 2 ^ 16:=Nat.pow_le_pow_right (by omega) (by omega)
 have h3:0 < 2 ^ n.toNat:=Nat.two_pow_pos _
 rw [show IntKind.wrap .u32 (1 * 2 ^ (min n.toNat 32)) = asI ((1:AS) <<< n.toNat) from ac2 1 n.toNat]
 unfold ar asI
 rw [Nat.min_eq_left (by omega),ag7 (by omega),BitVec.toNat_shiftLeft,Nat.shiftLeft_eq]
 rw [show (1:AS).toNat = 1 from rfl,Nat.one_mul,Nat.mod_eq_of_lt (by omega)]
 omega
theorem ajq {s:AS} {n:Int} (h0:0 ≤ n) (h1:n ≤ 16):(asI s).fdiv (2 ^ (min n.toNat 32)) = 0 ↔ sub s (ar n):=by
 rw [sy,show (0:Int) = asI 0 from rfl,c6]
 unfold ar
 rw [Nat.min_eq_left (by omega)]
 exact (tt (by omega)).symm
theorem vd {n:Int} (h0:0 ≤ n) (h1:n ≤ 16):0 ≤ IntKind.wrap .u32 (1 * 2 ^ (min n.toNat 32)) - 1:=by rw [p8 h0 h1];exact a16 _
theorem s6 {n:Int} (h0:0 ≤ n) (h1:n ≤ 16):IntKind.wrap .u32 (1 * 2 ^ (min n.toNat 32)) - 1 ≤ 4294967295:=by rw [p8 h0 h1];have:=a7d (ar n);omega
theorem av6 {a b:List AS} (h:a.length = b.length) (hI:∀ j,j < a.length → decide (a.getD j default = b.getD j default) = true):a = b:=l6 h fun j hj=>of_decide_eq_true (hI j hj)
def jc (n:Int) (l:List Fd) (s:AS):Bool:=decide (bg n l = 0 ∧ sub s (ar n) ∧ clo l s = ar n)
section
variable {n:Int} {l:List Fd} {s:AS}
theorem akl (h:¬ bg n l = 0):jc n l s = false:=decide_eq_false fun e=>h e.1
theorem aub (h:bg n l = 0) (h2:(asI s).fdiv (2 ^ (min n.toNat 32)) = 0):decide (asI (clo l s) = asI (ar n)) = jc n l s:=by
 have hv:=fq h
 have h3:=(ajq hv.1 hv.2.1).1 h2
 exact decide_eq_decide.2 ⟨fun e=>⟨h,h3,c6.1 e⟩,fun e=>congrArg asI e.2.2⟩
theorem ak9 (h:bg n l = 0) (h2:¬ (asI s).fdiv (2 ^ (min n.toNat 32)) = 0):jc n l s = false:=by
 have hv:=fq h
 exact decide_eq_false fun e=>h2 ((ajq hv.1 hv.2.1).2 e.2.1)
end
def fh (n:Int) (l:List Fd) (m:Int):Int:=if bg n l = 0 then (if m < n then 3 else 0) else bg n l
structure Dp where
 l:BitVec 8
 r:BitVec 8
deriving Inhabited
def Dp.c (d:Dp):Nat → PV
 | 0=>.raw (.int .u8 (d.l.toNat:Int))
 | 1=>.raw (.int .u8 (d.r.toNat:Int))
 | _=>.any
abbrev dpl (l:List Dp):PV:=psl 2 Dp.c l
def Dp.fd (n:Int) (d:Dp):Fd:=⟨d.l.setWidth 32 &&& ar n,d.r.setWidth 32 &&& ar n⟩
end Go.Hx
end
section
namespace Go.Hx
open Go.Proofs
set_option maxRecDepth 100000
set_option maxHeartbeats 1000000
theorem b4j:goodFn Tryz.prog 136:=⟨Tryz.f136,Tryz.func136,by kernel_rfl,by kernel_rfl⟩
theorem b78 (n:Int) (h0:0 ≤ n) (h1:n ≤ 16):ae Tryz.prog 136 [pI n] (ai [pA (ar n)]):=by
 refine a8 (nt:=6) a7 Tryz.func136 rfl rfl l9 ?_;refine w_8 ?_;refine rq rfl rfl rfl rfl rfl ?_ (hp:=⟨vd h0 h1,s6 h0 h1⟩);refine w_2 ?_
 exact hx8 rfl rfl rfl (⟨cci (p8 h0 h1),trivial⟩)
theorem b7w:goodFn Tryz.prog 74:=⟨Tryz.f74,Tryz.func74,by kernel_rfl,by kernel_rfl⟩
theorem b7c (n:Int) (h0:0 ≤ n) (h1:n ≤ 16):ae Tryz.prog 74 [pI n] (ai [pA (ar n)]):=by
 refine a8 (nt:=6) a7 Tryz.func74 rfl rfl l9 ?_;refine w_8 ?_;refine rq rfl rfl rfl rfl rfl ?_ (hp:=⟨vd h0 h1,s6 h0 h1⟩);refine w_2 ?_
 exact hx8 rfl rfl rfl (⟨cci (p8 h0 h1),trivial⟩)
theorem ac8:goodFn Tryz.prog 77:=⟨Tryz.f77,Tryz.func77,by kernel_rfl,by kernel_rfl⟩
theorem ak5 (n:Int) (h0:0 ≤ n) (h1:n ≤ 16):ae Tryz.prog 77 [pI n] (ai [pA (ar n)]):=by
 refine a8 (nt:=6) a7 Tryz.func77 rfl rfl l9 ?_;refine w_8 ?_;refine rq rfl rfl rfl rfl rfl ?_ (hp:=⟨vd h0 h1,s6 h0 h1⟩);refine w_2 ?_
 exact hx8 rfl rfl rfl (⟨cci (p8 h0 h1),trivial⟩)
theorem aoa:goodFn Tryz.prog 76:=⟨Tryz.f76,Tryz.func76,by kernel_rfl,by kernel_rfl⟩
theorem b8x (n:Int) (l:List Fd):ae Tryz.prog 76 [pI n,pP (fdl l)] (ai [pI (fh n l 8)]):=by
 refine a8 (nt:=14) a7 Tryz.func76 rfl rfl l9 ?_;refine w_9 ?_;refine rc rfl rfl rfl rfl rfl rfl qg (vh n l) (CoL.refl _) rfl rfl ?_;refine w_7 ?_;refine a6 _ rfl (fun r0=>?_) (fun r0=>?_)
 ·
  have h0:=r0
  have h0:=of_decide_eq_false (ap h0)
  try simp only [ty] at h0
  refine w_5 ?_
  exact hx8 rfl rfl rfl (⟨cci (by unfold fh;first | (rw [if_neg (by assumption)]) | (rw [if_pos (by omega),if_pos (by omega)]) | (rw [if_pos (by omega),if_neg (by omega)])),trivial⟩)
 have h0:=r0
 have h0:=of_decide_eq_true (am h0)
 try simp only [ty] at h0
 refine w_7 ?_;refine a6 _ rfl (fun r1=>?_) (fun r1=>?_)
 ·
  have h1:=of_decide_eq_true r1
  try simp only [ty] at h1
  refine w_4 ?_
  exact hx8 rfl rfl rfl (⟨cci (by unfold fh;first | (rw [if_neg (by assumption)]) | (rw [if_pos (by omega),if_pos (by omega)]) | (rw [if_pos (by omega),if_neg (by omega)])),trivial⟩)
 have h1:=of_decide_eq_false r1
 try simp only [ty] at h1
 refine w_5 ?_
 exact hx8 rfl rfl rfl (⟨cci (by unfold fh;first | (rw [if_neg (by assumption)]) | (rw [if_pos (by omega),if_pos (by omega)]) | (rw [if_pos (by omega),if_neg (by omega)])),trivial⟩)
theorem a6p:goodFn Tryz.prog 72:=⟨Tryz.f72,Tryz.func72,by kernel_rfl,by kernel_rfl⟩
theorem abh (n:Int) (l:List Fd) (s:AS):ae Tryz.prog 72 [pI n,pP (fdl l),pA s] (ai [pB (jc n l s)]):=by
 refine a8 (nt:=25) a7 Tryz.func72 rfl rfl l9 ?_;refine w_8 ?_;refine rc rfl rfl rfl rfl rfl rfl qg (vh n l) (CoL.refl _) rfl rfl ?_;refine w_2 ?_;refine bc rfl rfl (fun r0=>?_) (fun r0=>?_)
 ·
  have h0:=of_decide_eq_true r0
  try simp only [ty] at h0
  obtain ⟨hv0,hv1,_,_⟩:=fq h0
  (iterate 4 refine qy ?_ (hg:=(gtt r0)));refine w_2 ?_;refine bc rfl rfl (fun r1=>?_) (fun r1=>?_)
  ·
   have h1:=r1
   have h1:=dc r0 h1
   have h1:=of_decide_eq_true h1
   try simp only [ty] at h1
   (iterate 2 refine qy ?_ (hg:=(gtt r1)));refine rc rfl rfl rfl rfl rfl rfl od (sc l s) (CoL.refl _) rfl (gtt r1) ?_;refine qy ?_ (hg:=(gtt r1))
   refine rc rfl rfl rfl rfl rfl rfl b4j (b78 n (fq (by assumption)).1 (fq (by assumption)).2.1) (CoL.refl _) rfl (gtt r1) ?_;refine qy ?_ (hg:=(gtt r1));refine w_3 ?_
   exact hx8 rfl rfl rfl (⟨ccb (by first | exact cw (by assumption) (aub (by assumption) (by assumption)) | exact (akl (by assumption)).symm | exact (ak9 (by assumption) (by assumption)).symm),trivial⟩)
  have h1:=r1
  have h1:=dc r0 h1
  have h1:=of_decide_eq_false h1
  try simp only [ty] at h1
  (iterate 6 refine k9 (gft r1) ?_);refine rq rfl rfl rfl rfl rfl ?_ (hp:=r1);refine w_2 ?_
  exact hx8 rfl rfl rfl (⟨ccb (by first | exact cw (by assumption) (aub (by assumption) (by assumption)) | exact (akl (by assumption)).symm | exact (ak9 (by assumption) (by assumption)).symm),trivial⟩)
 have h0:=of_decide_eq_false r0
 try simp only [ty] at h0
 (iterate 4 refine k9 (gft r0) ?_);refine rq rfl rfl rfl rfl rfl ?_ (hp:=r0);refine qy ?_;(iterate 6 refine k9 rfl ?_);refine w_3 ?_
 exact hx8 rfl rfl rfl (⟨ccb (by first | exact cw (by assumption) (aub (by assumption) (by assumption)) | exact (akl (by assumption)).symm | exact (ak9 (by assumption) (by assumption)).symm),trivial⟩)
theorem b7l:goodFn Tryz.prog 40:=⟨Tryz.f40,Tryz.func40,by kernel_rfl,by kernel_rfl⟩
theorem b81 (a b:List AS):ae Tryz.prog 40 [pP (asl a),pP (asl b)] (ai [pB (decide (a = b))]):=by
 refine a8 (nt:=26) a7 Tryz.func40 rfl rfl l9 ?_;refine ct ?_
 refine dg 0 rfl fun hn=>?_
 refine fl ?_;refine a6 _ rfl (fun r0=>?_) (fun r0=>?_)
 ·
  have h0:=r0
  have h0:=of_decide_eq_false (ap h0)
  try simp only [ty] at h0
  refine w_4 ?_
  exact hx8 rfl rfl rfl (⟨ccb (decide_eq_false fun e=>by subst e;omega).symm,trivial⟩)
 have h0:=r0
 have h0:=of_decide_eq_true (am h0)
 try simp only [ty] at h0
 refine dp ?_;refine cj (ι:=Unit) ⟨[],[]⟩ ⟨trivial,trivial⟩ (fun _i=>⟨[],[]⟩) (fun _i=>a = b) ?_ ?_
 ·
  refine w_5 ?_
  refine aj (ι:=Nat) ⟨[(0,some _),(1,some _)],[]⟩ ⟨⟨c9,c9,trivial⟩,trivial⟩ (fun i=>⟨[(5,some (vI i))],[]⟩) (fun i=>i ≤ a.length ∧ (∀ j,j < i → decide (a.getD j default = b.getD j default) = true)) (fun i=>a.length - i) (0) (⟨Nat.zero_le _,ck⟩) ⟨⟨zy,trivial⟩,trivial⟩ ?_
  rintro i ⟨hi,hI⟩
  refine w_8 ?_;refine a6 _ rfl (fun r1=>?_) (fun r1=>?_)
  ·
   have h1:=of_decide_eq_true r1
   try simp only [ty] at h1
   refine w_4 ?_;refine bp (E:=bm) a7 ax [0,1,2,3,4,5,6,7,8] ?_;refine d7 ?_;refine ⟨by kernel_rfl, ?_⟩;refine a6 _ rfl (fun r2=>?_) (fun r2=>?_)
   ·
    have h2:=r2
    have h2:=of_decide_eq_false (ap h2)
    try simp only [ty] at h2
    refine w_4 ?_
    exact hx8 rfl rfl rfl (⟨ccb (decide_eq_false fun e=>by subst e;simp_all).symm,trivial⟩)
   have h2:=r2
   have h2:=of_decide_eq_true (am h2)
   try simp only [ty] at h2
   refine w_6 ?_;refine ⟨i + 1, ?_, ?_, ?_⟩
   · exact ⟨by show i + 1 ≤ _;omega,br hI (decide_eq_true (c6.1 h2))⟩
   · first | omega | (dsimp only;omega)
   exact ⟨⟨zy,c9,c9,trivial⟩,trivial⟩
  have h1:=of_decide_eq_false r1
  try simp only [ty] at h1
  refine er ?_;refine ⟨(), ?_, ?_⟩
  · exact av6 (by omega) fun j hj=>hI j (by omega)
  exact ⟨trivial,trivial⟩
 rintro _ hj
 refine w_4 ?_
 exact hx8 rfl rfl rfl (⟨ccb (decide_eq_true hj).symm,trivial⟩)
end Go.Hx
end
section
namespace Go.Hx
def bsz (s:AS):Nat:=(List.range 32).countP fun i=>s.getLsbD i
def bef (a b:AS):Bool:=decide (bsz a < bsz b) || (decide (bsz a = bsz b) && decide (a.toNat < b.toNat))
theorem xt (a:AS):bef a a = false:=by simp [bef]
theorem oe {a b:AS}:bef a b = true ↔ bsz a < bsz b ∨ (bsz a = bsz b ∧ a.toNat < b.toNat):=by simp [bef]
theorem wd {a b c:AS} (h:bef a b = true) (k:bef b c = true):bef a c = true:=by
 rw [oe] at *
 omega
theorem a8e {a b:AS} (h:a ≠ b):bef a b = true ∨ bef b a = true:=by
 have hn:a.toNat ≠ b.toNat:=fun e=>h (BitVec.eq_of_toNat_eq e)
 rw [oe,oe]
 omega
theorem axz {a b:AS} (h:bef a b = true):bef b a = false:=by
 rw [Bool.eq_false_iff]
 intro k
 have:=wd h k
 rw [xt] at this
 cases this
def sv (l:List AS):Prop:=l.Pairwise fun a b=>bef a b = true
theorem wt:∀ {l k:List AS},sv l → sv k → (∀ x,x ∈ l ↔ x ∈ k) → l = k
 | [],[],_,_,_=>rfl
 | [],y :: k,_,_,h=>absurd ((h y).2 (List.mem_cons_self ..)) (by simp)
 | x :: l,[],_,_,h=>absurd ((h x).1 (List.mem_cons_self ..)) (by simp)
 | x :: l,y :: k,hl,hk,h=>by
  obtain ⟨h1,h2⟩:=List.pairwise_cons.1 hl
  obtain ⟨k1,k2⟩:=List.pairwise_cons.1 hk
  have e:x = y:=by
   rcases List.mem_cons.1 ((h x).1 (List.mem_cons_self ..)) with e | hx
   · exact e
   rcases List.mem_cons.1 ((h y).2 (List.mem_cons_self ..)) with e | hy
   · exact e.symm
   have:=axz (k1 x hx)
   rw [h1 y hy] at this
   cases this
  subst e
  congr 1
  refine wt h2 k2 fun z=>?_
  constructor
  · intro hz
    rcases List.mem_cons.1 ((h z).1 (List.mem_cons_of_mem _ hz)) with e | hz'
    · subst e
      have:=h1 z hz
      rw [xt] at this
      cases this
    exact hz'
  intro hz
  rcases List.mem_cons.1 ((h z).2 (List.mem_cons_of_mem _ hz)) with e | hz'
  · subst e
    have:=k1 z hz
    rw [xt] at this
    cases this
  exact hz'
def lg (x:AS):List AS → List AS
 | []=>[x]
 | y :: l=>if x = y then y :: l else if bef x y = true then x :: y :: l else y :: lg x l
theorem a5e {x z:AS}:∀ {l:List AS},z ∈ lg x l ↔ z = x ∨ z ∈ l
 | []=>by simp [lg]
 | y :: l=>by
  unfold lg
  split
  · rename_i e
    subst e
    simp
  split
  · simp
  rw [List.mem_cons,a5e,List.mem_cons]
  constructor
  · rintro (h | h | h) <;> simp [h]
  rintro (h | h | h) <;> simp [h]
theorem aap {x:AS}:∀ {l:List AS},sv l → sv (lg x l)
 | [],_=>by simp [lg,sv]
 | y :: l,h=>by
  obtain ⟨h1,h2⟩:=List.pairwise_cons.1 h
  unfold lg
  split
  · exact h
  split
  · rename_i hxy
    refine List.pairwise_cons.2 ⟨fun z hz=>?_,h⟩
    rcases List.mem_cons.1 hz with rfl | hz
    · exact hxy
    exact wd hxy (h1 z hz)
  rename_i hne hxy
  refine List.pairwise_cons.2 ⟨fun z hz=>?_,aap h2⟩
  rcases a5e.1 hz with rfl | hz
  · exact (a8e hne).resolve_left hxy
  exact h1 z hz
def ord (l:List AS):List AS:=l.foldl (fun o x=>lg x o) []
theorem a9u:∀ {l o:List AS},sv o → sv (l.foldl (fun o x=>lg x o) o) ∧ ∀ z,z ∈ l.foldl (fun o x=>lg x o) o ↔ z ∈ o ∨ z ∈ l
 | [],o,h=>⟨h,fun z=>by simp⟩
 | x :: l,o,h=>by
  obtain ⟨h1,h2⟩:=a9u (l:=l) (aap (x:=x) h)
  refine ⟨h1,fun z=>?_⟩
  show z ∈ l.foldl (fun o x=>lg x o) (lg x o) ↔ _
  rw [h2 z,a5e,List.mem_cons]
  constructor
  · rintro ((h | h) | h) <;> simp [h]
  rintro (h | h | h) <;> simp [h]
theorem z8 (l:List AS):sv (ord l):=(a9u (o:=[]) List.Pairwise.nil).1
theorem tz {l:List AS} {z:AS}:z ∈ ord l ↔ z ∈ l:=by
 show z ∈ l.foldl (fun o x=>lg x o) [] ↔ _
 rw [(a9u (l:=l) (o:=[]) List.Pairwise.nil).2 z]
 simp
theorem b6c {l k:List AS} (hk:sv k) (h:∀ z,z ∈ k ↔ z ∈ l):k = ord l:=wt hk (z8 l) fun z=>by rw [h z,tz]
end Go.Hx
end
section
namespace Go.Hx
def al (s:AS):List Nat:=(List.range 32).filter fun i=>s.getLsbD i
def iC:Nat → Nat → PV:=fun n _=>.raw (.int .i64 (n:Int))
abbrev il (l:List Nat):PV:=psl 1 iC l
theorem w6 (s:AS):bsz s = (al s).length:=by unfold bsz al;rw [List.countP_eq_length_filter]
theorem lx {s:AS} {i:Nat}:i ∈ al s ↔ i < 32 ∧ s.getLsbD i = true:=by simp [al,List.mem_filter,List.mem_range]
theorem a2a {p:Nat → Bool} {t:Nat}:∀ {l:List Nat},l.Pairwise (· < ·) → t ∈ l → p t = true → (∀ k,k < t → p k = false) → l.filter p = t :: l.filter fun k=>decide (k ≠ t) && p k
 | [],_,h,_,_=>by cases h
 | a :: l,hp,hm,h1,h2=>by
  obtain ⟨q1,q2⟩:=List.pairwise_cons.1 hp
  by_cases ha:a = t
  · subst ha
    have e:l.filter p = l.filter fun k=>decide (k ≠ a) && p k:=by
     apply List.filter_congr
     intro k hk
     have:=q1 k hk
     rw [decide_eq_true (by omega),Bool.true_and]
    simp [List.filter_cons,h1,e]
  have hm':t ∈ l:=by
   rcases List.mem_cons.1 hm with h | h
   · exact absurd h.symm ha
   exact h
  have:=q1 t hm'
  have hpa:=h2 a this
  simp [List.filter_cons,hpa,a2a q2 hm' h1 h2]
def gh (s:AS):Nat:=Lib.ctz 32 s.toNat
theorem axi {s:AS} (h:s ≠ 0):∃ m,s.toNat = 2 ^ (gh s + 1) * m + 2 ^ gh s ∧ gh s < 32:=by
 have h0:s.toNat ≠ 0:=fun e=>h (BitVec.eq_of_toNat_eq e)
 obtain ⟨m,h1,h2⟩:=Lib.ctzFrom_spec 32 s.toNat (by omega) s.isLt
 have e:gh s = Lib.ctzFrom 32 s.toNat:=by unfold gh Lib.ctz;rw [if_neg h0]
 rw [e]
 refine ⟨m, ?_,h2⟩
 rw [Nat.pow_succ]
 rw [h1] at *
 simp only [Nat.mul_add,Nat.mul_assoc,Nat.mul_one] at *
 exact h1
theorem qb {s:AS} (h:s ≠ 0):gh s < 32 ∧ s.getLsbD (gh s) = true ∧ (∀ k,k < gh s → s.getLsbD k = false) ∧ s &&& (s - 1) = s &&& ~~~((1:AS) <<< gh s):=by
 obtain ⟨m,h1,h2⟩:=axi h
 generalize gh s = t at *
 have hp:2 ^ t < 2 ^ (t + 1):=Nat.pow_lt_pow_right (by omega) (by omega)
 have hb:∀ k,s.getLsbD k = if k < t + 1 then (2 ^ t).testBit k else m.testBit (k - (t + 1)):=fun k=>by
  show s.toNat.testBit k = _
  rw [h1,Nat.testBit_two_pow_mul_add _ hp]
 have hq:0 < 2 ^ t:=Nat.two_pow_pos t
 have e1:(s - 1).toNat = 2 ^ (t + 1) * m + (2 ^ t - 1):=by
  have:=s.isLt
  rw [BitVec.toNat_sub]
  show (2 ^ 32 - 1 + s.toNat) % 2 ^ 32 = _
  omega
 have hd:∀ k,(s - 1).getLsbD k = if k < t + 1 then (2 ^ t - 1).testBit k else m.testBit (k - (t + 1)):=fun k=>by
  show (s - 1).toNat.testBit k = _
  rw [e1,Nat.testBit_two_pow_mul_add _ (by omega)]
 refine ⟨h2, ?_,fun k hk=>?_, ?_⟩
 · rw [hb,if_pos (by omega),Nat.testBit_two_pow_self]
 · rw [hb,if_pos (by omega),Nat.testBit_two_pow]
   simp;omega
 apply BitVec.eq_of_getLsbD_eq
 intro k hk
 rw [BitVec.getLsbD_and,BitVec.getLsbD_and,BitVec.getLsbD_not,qc _ _ hk,hd k,hb k]
 by_cases h3:k < t + 1
 · rw [if_pos h3,if_pos h3,Nat.testBit_two_pow,Nat.testBit_two_pow_sub_one]
   by_cases h4:k = t
   · subst h4;simp
   have:¬ t = k:=fun e=>h4 e.symm
   simp [this]
 rw [if_neg h3,if_neg h3]
 have:¬ k = t:=by omega
 simp [hk,this]
theorem a1l {s:AS} (h:s ≠ 0) (k:Nat) (hk:k < 32):(s &&& (s - 1)).getLsbD k = (decide (k ≠ gh s) && s.getLsbD k):=by
 rw [(qb h).2.2.2,BitVec.getLsbD_and,BitVec.getLsbD_not,qc _ _ hk]
 by_cases e:k = gh s <;> simp [e,hk,Bool.and_comm]
theorem aoe {s:AS} (h:s ≠ 0):al s = gh s :: al (s &&& (s - 1)):=by
 obtain ⟨h1,h2,h3,_⟩:=qb h
 unfold al
 rw [a2a List.pairwise_lt_range (List.mem_range.2 h1) h2 h3]
 congr 1
 apply List.filter_congr
 intro k hk
 rw [a1l h k (List.mem_range.1 hk)]
theorem a7e:al 0 = []:=by
 unfold al
 rw [List.filter_eq_nil_iff]
 intro k _
 simp
theorem aue {s:AS} (h:s ≠ 0):(s &&& (s - 1)).toNat < s.toNat:=by
 refine xz (cb.2 fun i hi hb=>?_) fun e=>?_
 · rw [a1l h i hi] at hb
   simp only [Bool.and_eq_true] at hb
   exact hb.2
 have:=a1l h (gh s) (qb h).1
 rw [e,(qb h).2.1] at this
 simp at this
end Go.Hx
end

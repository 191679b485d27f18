/- A part of the proof: V4 Cs5 V5 Cs2 Cs6. -/
import Derived.Lib.TrailingZeros
import Derived.Test.YtkkenjdfbojdlaaGreatDoorFx15
set_option linter.all false
set_option maxRecDepth 100000
set_option maxHeartbeats 1000000
namespace Go.Hx
section
open Go.Proofs
theorem a34:goodFn Tryz.prog 21:=wgx Tryz.func21
theorem a07 (n:Nat) (c:Bool) (f:Nat → Nat → PV) (hn:n ≤ 35184372088832) :
 dw Tryz.prog 21 [.one (.p (.sl n 1 c f))] [] (.v (.one (.ref 0 n))) [(0, .arr true 1 46 n f)] []:=by
 refine gd (nt:=8) a7 Tryz.func21 rfl rfl l9 rfl ?_;refine sx7 ?_;refine ce true rfl rfl rfl rfl rfl trivial ?_;refine ax ?_
 refine zd (ι:=Bool) (fun c=>⟨[(0,some (bp (.sl n 1 c f)))],[]⟩) (fun _=>True) ?_ fun c _=>?_
 · rcases Nat.eq_zero_or_pos n with hz | h0
   · subst hz
     refine hw_exact' 0 rfl fun ad cap hcap=>?_
     refine sx7 ?_;(iterate 2 refine ce true rfl rfl rfl rfl rfl trivial ?_);refine ax ?_;refine a6 ad.isNone rfl (fun hc=>?_) (fun hc=>?_)
     · refine sx7 ?_
       refine ce true rfl rfl rfl rfl rfl trivial ?_;refine ax ?_;refine d6 2 0 true 1 46 f (by decide) rfl (CoP.sl rfl (.inr rfl) (fun h=>h) fun i j hi _=>absurd hi (Nat.not_lt_zero i)) (.inr rfl) rfl ?_
       refine go ?_;refine ⟨.inr rfl, ?_⟩
       exact ⟨_,_,rfl,trivial,CoR.refl _,⟨u9,trivial⟩⟩
     refine dn ?_
     exact ⟨false,trivial,⟨⟨_,rfl,CoP.raw_sl hcap⟩,trivial⟩,trivial⟩
   refine sx7 ?_;refine ce true rfl rfl rfl rfl rfl trivial ?_;refine ce true rfl rfl rfl rfl rfl h0 ?_;refine ax ?_;refine a6 false rfl (fun hc=>by cases hc) (fun hc=>?_);refine dn ?_
   exact ⟨c,trivial,⟨c9,trivial⟩,trivial⟩
 refine sx7 ?_;refine vn 0 rfl rfl rfl rfl rfl rfl trivial ?_;refine ce true rfl rfl rfl rfl rfl trivial ?_
 refine a35 0 true rfl rfl rfl rfl rfl rfl ⟨trivial,rfl,rfl,rfl, .inl rfl,by show 0 + n ≤ 9223372036854775807;omega,by show (0 + n) * 4 ≤ 140737488355328;omega,fun _=>.inl rfl⟩ ?_
 refine ce true rfl rfl rfl rfl rfl trivial ?_;refine w_2 ?_;refine ⟨.inr rfl, ?_⟩;refine ⟨_,_,rfl,trivial,CoR.of_eq (by show HR.v (.one (.ref 0 (0 + n))) = _;rw [Nat.zero_add]),⟨⟨_,rfl, ?_⟩,trivial⟩⟩
 exact ⟨fun h=>h,rfl,rfl,(Nat.zero_add n).symm,fun i j _ _=>CoP.of_eq (by simp [gk])⟩
theorem avt (n:Nat) (c:Bool) (f:Nat → Nat → PV) (hn:n ≤ 35184372088832):af Tryz.prog 21 [.one (.sl n 1 c f)] (.v (.one (.sl n 1 false f))) :=
 dw.pure (args:=[.one (.sl n 1 c f)]) (l:=[.one (.ref 0 n)]) (a07 n c f hn) rfl ⟨rfl,trivial⟩
theorem b1w:goodFn Tryz.prog 235:=wgx Tryz.func235
theorem b9k (l:List Fd) (g k:Nat) (caps:Nat → PV) (V:Fd → Bool) (hg:goodFn Tryz.prog g) (hV:∀ x,af Tryz.prog g (x.pc :: gn caps k 0) (aj [pB (V x)])):af Tryz.prog 235 [pP (fdl l),pP (.fn g k caps)] (aj [pI (idx V l)]):=by
 refine a8 (nt:=19) a7 Tryz.func235 rfl rfl l9 ?_;refine d8 ?_
 refine dg 0 rfl fun hn=>?_
 refine w_3 ?_;refine d4 (ι:=Unit) ⟨[],[]⟩ ⟨trivial,trivial⟩ (fun _i=>⟨[],[]⟩) (fun _i=>idx V l = -1) ?_ ?_
 ·
  refine w_7 ?_
  refine ah (ι:=Nat) ⟨[(0,some _),(1,some _),(7,some _)],[]⟩ ⟨⟨c9,c9,c9,trivial⟩,trivial⟩ (fun i=>⟨[(8,some (vI i))],[]⟩) (fun i=>i ≤ l.length ∧ (∀ j,j < i → V (l.getD j default) = false)) (fun i=>l.length - i) (0) (⟨Nat.zero_le _,cr⟩) ⟨⟨zy,trivial⟩,trivial⟩ ?_
  rintro i ⟨hi,hI⟩
  refine w_5 ?_;refine a6 _ rfl (fun r0=>?_) (fun r0=>?_)
  ·
   have h0:=ae r0
   try simp only [ty] at h0
   refine mr ?_;refine rc rfl rfl rfl rfl rfl rfl hg (hV (l.getD i default)) (CoL.refl _) rfl rfl ?_;refine ax ?_;refine a6 _ rfl (fun r1=>?_) (fun r1=>?_)
   ·
    have h1:=r1
    refine w_5 ?_
    exact hx8 rfl rfl rfl (⟨cci (qt (i:=i) (by omega) hI h1).symm,trivial⟩)
   have h1:=r1
   refine w_5 ?_;refine ⟨i + 1, ?_, ?_, ?_⟩
   · exact ⟨by show i + 1 ≤ _;omega,bz hI (h1)⟩
   · first | omega | (dsimp only;omega)
   exact ⟨⟨zy,c9,c9,c9,trivial⟩,trivial⟩
  have h0:=aa r0
  try simp only [ty] at h0
  refine fe ?_;refine ⟨(), ?_, ?_⟩
  · exact re fun j hj=>hI j (by omega)
  exact ⟨trivial,trivial⟩
 rintro _ hj
 refine w_4 ?_
 exact hx8 rfl rfl rfl (⟨cci hj.symm,trivial⟩)
theorem aa2:goodFn Tryz.prog 167:=wgx Tryz.func167
theorem axa (l:List AS) (g k:Nat) (caps:Nat → PV) (V:AS → Bool) (hg:goodFn Tryz.prog g) (hV:∀ x,af Tryz.prog g (pA x :: gn caps k 0) (aj [pB (V x)])):af Tryz.prog 167 [pP (asl l),pP (.fn g k caps)] (aj [pI (idx V l)]):=by
 refine a8 (nt:=19) a7 Tryz.func167 rfl rfl l9 ?_;refine d8 ?_
 refine dg 0 rfl fun hn=>?_
 refine w_3 ?_;refine d4 (ι:=Unit) ⟨[],[]⟩ ⟨trivial,trivial⟩ (fun _i=>⟨[],[]⟩) (fun _i=>idx V l = -1) ?_ ?_
 ·
  refine w_7 ?_
  refine ah (ι:=Nat) ⟨[(0,some _),(1,some _),(7,some _)],[]⟩ ⟨⟨c9,c9,c9,trivial⟩,trivial⟩ (fun i=>⟨[(8,some (vI i))],[]⟩) (fun i=>i ≤ l.length ∧ (∀ j,j < i → V (l.getD j default) = false)) (fun i=>l.length - i) (0) (⟨Nat.zero_le _,cr⟩) ⟨⟨zy,trivial⟩,trivial⟩ ?_
  rintro i ⟨hi,hI⟩
  refine w_5 ?_;refine a6 _ rfl (fun r0=>?_) (fun r0=>?_)
  ·
   have h0:=ae r0
   try simp only [ty] at h0
   refine mr ?_;refine rc rfl rfl rfl rfl rfl rfl hg (hV (l.getD i default)) (CoL.refl _) rfl rfl ?_;refine ax ?_;refine a6 _ rfl (fun r1=>?_) (fun r1=>?_)
   ·
    have h1:=r1
    refine w_5 ?_
    exact hx8 rfl rfl rfl (⟨cci (qt (i:=i) (by omega) hI h1).symm,trivial⟩)
   have h1:=r1
   refine w_5 ?_;refine ⟨i + 1, ?_, ?_, ?_⟩
   · exact ⟨by show i + 1 ≤ _;omega,bz hI (h1)⟩
   · first | omega | (dsimp only;omega)
   exact ⟨⟨zy,c9,c9,c9,trivial⟩,trivial⟩
  have h0:=aa r0
  try simp only [ty] at h0
  refine fe ?_;refine ⟨(), ?_, ?_⟩
  · exact re fun j hj=>hI j (by omega)
  exact ⟨trivial,trivial⟩
 rintro _ hj
 refine w_4 ?_
 exact hx8 rfl rfl rfl (⟨cci hj.symm,trivial⟩)
theorem b29:goodFn Tryz.prog 190:=wgx Tryz.func190
theorem bab (l:List Fd) (g k:Nat) (caps:Nat → PV) (V:Fd → Bool) (hg:goodFn Tryz.prog g) (hV:∀ x,af Tryz.prog g (x.pc :: gn caps k 0) (aj [pB (V x)])):af Tryz.prog 190 [pP (fdl l),pP (.fn g k caps)] (aj [pB (l.any V)]):=by
 refine a8 (nt:=9) a7 Tryz.func190 rfl rfl l9 ?_;refine w_8 ?_;refine qcx b1w (b9k l g k caps V hg hV) ?_;refine w_3 ?_
 exact hx8 rfl rfl rfl (⟨ccb x8,trivial⟩)
theorem aa3:goodFn Tryz.prog 148:=wgx Tryz.func148
theorem ale (l:List AS) (g k:Nat) (caps:Nat → PV) (V:AS → Bool) (hg:goodFn Tryz.prog g) (hV:∀ x,af Tryz.prog g (pA x :: gn caps k 0) (aj [pB (V x)])):af Tryz.prog 148 [pP (asl l),pP (.fn g k caps)] (aj [pB (l.any V)]):=by
 refine a8 (nt:=9) a7 Tryz.func148 rfl rfl l9 ?_;refine w_8 ?_;refine qcx aa2 (axa l g k caps V hg hV) ?_;refine w_3 ?_
 exact hx8 rfl rfl rfl (⟨ccb x8,trivial⟩)
theorem b6v:goodFn Tryz.prog 92:=wgx Tryz.func92
theorem bc3 (l:List AS) (s:AS):af Tryz.prog 92 [pP (asl l),pA s] (aj [pI (idx (fun x=>decide (x = s)) l)]):=by
 refine a8 (nt:=19) a7 Tryz.func92 rfl rfl l9 ?_;refine d8 ?_
 refine dg 0 rfl fun hn=>?_
 refine w_3 ?_;refine d4 (ι:=Unit) ⟨[],[]⟩ ⟨trivial,trivial⟩ (fun _i=>⟨[],[]⟩) (fun _i=>idx (fun x=>decide (x = s)) l = -1) ?_ ?_
 ·
  refine w_7 ?_
  refine ah (ι:=Nat) ⟨[(0,some _),(1,some _),(7,some _)],[]⟩ ⟨⟨c9,c9,c9,trivial⟩,trivial⟩ (fun i=>⟨[(8,some (vI i))],[]⟩) (fun i=>i ≤ l.length ∧ (∀ j,j < i → decide (l.getD j default = s) = false)) (fun i=>l.length - i) (0) (⟨Nat.zero_le _,cr⟩) ⟨⟨zy,trivial⟩,trivial⟩ ?_
  rintro i ⟨hi,hI⟩
  refine w_5 ?_;refine a6 _ rfl (fun r0=>?_) (fun r0=>?_)
  ·
   have h0:=ae r0
   try simp only [ty] at h0
   refine ae8 ?_;refine a6 _ rfl (fun r1=>?_) (fun r1=>?_)
   ·
    have h1:=ae r1
    try simp only [ty] at h1
    refine w_5 ?_
    exact hx8 rfl rfl rfl (⟨cci (qt (p:=fun x=>decide (x = s)) (i:=i) (by omega) hI (decide_eq_true (c8.1 h1).symm)).symm,trivial⟩)
   have h1:=aa r1
   try simp only [ty] at h1
   refine w_5 ?_;refine ⟨i + 1, ?_, ?_, ?_⟩
   · exact ⟨by show i + 1 ≤ _;omega,bz hI (decide_eq_false fun e=>h1 (congrArg asI e.symm))⟩
   · first | omega | (dsimp only;omega)
   exact ⟨⟨zy,c9,c9,c9,trivial⟩,trivial⟩
  have h0:=aa r0
  try simp only [ty] at h0
  refine fe ?_;refine ⟨(), ?_, ?_⟩
  · exact re (p:=fun x=>decide (x = s)) fun j hj=>hI j (by omega)
  exact ⟨trivial,trivial⟩
 rintro _ hj
 refine w_4 ?_
 exact hx8 rfl rfl rfl (⟨cci hj.symm,trivial⟩)
theorem b02:goodFn Tryz.prog 277:=wgx Tryz.func277
theorem bcp (l:List Fd) (s:Fd):af Tryz.prog 277 [pP (fdl l),s.pc] (aj [pI (idx (fun x=>decide (x = s)) l)]):=by
 refine a8 (nt:=19) a7 Tryz.func277 rfl rfl l9 ?_;refine d8 ?_
 refine dg 0 rfl fun hn=>?_
 refine gy ?_;refine m9 0 ?_;refine w_2 ?_;refine d4 (ι:=Unit) ⟨[],[]⟩ ⟨trivial,trivial⟩ (fun _i=>⟨[],[]⟩) (fun _i=>idx (fun x=>decide (x = s)) l = -1) ?_ ?_
 ·
  refine w_7 ?_
  refine ah (ι:=Nat) ⟨[(0,some _),(3,some _),(7,some _)],[(0,some _)]⟩ ⟨⟨c9,c9,c9,trivial⟩,⟨u9,trivial⟩⟩ (fun i=>⟨[(8,some (vI i))],[]⟩) (fun i=>i ≤ l.length ∧ (∀ j,j < i → decide (l.getD j default = s) = false)) (fun i=>l.length - i) (0) (⟨Nat.zero_le _,cr⟩) ⟨⟨zy,trivial⟩,trivial⟩ ?_
  rintro i ⟨hi,hI⟩
  refine w_5 ?_;refine a6 _ rfl (fun r0=>?_) (fun r0=>?_)
  ·
   have h0:=ae r0
   try simp only [ty] at h0
   refine w_9 ?_;refine bg (E:=bj) a7 aw [0,1,2,3,4,5] ?_;refine w_7 ?_;refine ⟨by kernel_rfl, ?_⟩;refine a6 _ rfl (fun r1=>?_) (fun r1=>?_)
   ·
    have h1:=r1
    refine w_5 ?_
    exact hx8 rfl rfl rfl (⟨cci (qt (p:=fun x=>decide (x = s)) (i:=i) (by omega) hI (decide_eq_true (by simp_all [Fd.eq_iff,c8]))).symm,trivial⟩)
   have h1:=r1
   refine w_5 ?_;refine ⟨i + 1, ?_, ?_, ?_⟩
   · exact ⟨by show i + 1 ≤ _;omega,bz hI (decide_eq_false fun e=>by subst e;simp_all)⟩
   · first | omega | (dsimp only;omega)
   exact ⟨⟨zy,c9,c9,c9,trivial⟩,⟨u9,trivial⟩⟩
  have h0:=aa r0
  try simp only [ty] at h0
  refine fe ?_;refine ⟨(), ?_, ?_⟩
  · exact re (p:=fun x=>decide (x = s)) fun j hj=>hI j (by omega)
  exact ⟨trivial,trivial⟩
 rintro _ hj
 refine w_4 ?_
 exact hx8 rfl rfl rfl (⟨cci hj.symm,trivial⟩)
theorem az7:goodFn Tryz.prog 253:=wgx Tryz.func253
theorem bc7 (l:List Fd) (s:Fd):af Tryz.prog 253 [pP (fdl l),s.pc] (aj [pB (l.any fun x=>decide (x = s))]):=by
 refine a8 (nt:=9) a7 Tryz.func253 rfl rfl l9 ?_;refine sx7 ?_;refine m9 0 ?_;refine w_6 ?_;refine qcx b02 (bcp _ _) ?_;refine w_3 ?_
 exact hx8 rfl rfl rfl (⟨ccb x8,trivial⟩)
theorem aaw:goodFn Tryz.prog 117:=wgx Tryz.func117
theorem amb (l:List AS) (g k:Nat) (caps:Nat → PV) (V:AS → Bool) (hg:goodFn Tryz.prog g) (hV:∀ x,af Tryz.prog g (pA x :: gn caps k 0) (aj [pB (V x)])):dw Tryz.prog 117 [.one (.ref 900 l.length), .one (.p (.fn g k caps))] [(900, .arr true 1 46 l.length (lf sC l))] (.v (.one (.p (asl (l.filter fun x=>!V x))))) [] []:=by
 refine gd (nt:=42) a7 Tryz.func117 rfl rfl l9 rfl ?_;refine d8 ?_
 refine a9n 900 rfl fun hlen=>?_
 refine w_7 ?_;refine qcx aa2 (axa l g k caps V hg hV) ?_;refine w_8 ?_;refine a6 _ rfl (fun r0=>?_) (fun r0=>?_)
 ·
  have h0:=ae r0
  try simp only [ty] at h0
  refine w_5 ?_;refine bi 4 rfl rfl rfl ?_;refine go ?_;refine ⟨.inr rfl, ?_⟩
  exact ⟨_,_,rfl,(by (repeat' apply And.intro) <;> first | trivial | exact Nat.le_of_ble_eq_true rfl),ayz (a7h (by assumption)),trivial⟩
 have h0:=aa r0
 try simp only [ty] at h0
 obtain ⟨i0,hi0,hi1,hi2,hi3⟩:=ww h0
 refine w_9 ?_
 refine ah (ι:=Nat × Nat × List AS) ⟨[(0,some _),(1,some _)],[]⟩ ⟨⟨c9,c9,trivial⟩,trivial⟩ (fun x=>⟨[(5,some (vI x.1)),(6,some (vI x.2.1))],[(900,some (.arr true 1 46 l.length (lf sC x.2.2)))]⟩) (fun x=>DfI V l x.1 x.2.1 x.2.2) (fun x=>l.length - x.2.1) ((i0,i0 + 1,l)) (DfI.start hi1 hi2 hi3) ⟨⟨⟨_,rfl,(coi hi0)⟩,⟨_,rfl,(coi (by dsimp only;omega))⟩,trivial⟩,⟨u9,trivial⟩⟩ ?_
 rintro x hC
 have hC0:=hC
 obtain ⟨hml,hkq,hql,_,_⟩:=hC0
 refine w_8 ?_;refine a6 _ rfl (fun r1=>?_) (fun r1=>?_)
 ·
  have h1:=ae r1
  try simp only [ty] at h1
  refine mr ?_;refine rc rfl rfl rfl rfl rfl rfl hg (hV (x.2.2.getD (x.2.1:Int).toNat default)) (CoL.refl _) rfl rfl ?_;refine w_2 ?_;refine a6 _ rfl (fun r2=>?_) (fun r2=>?_)
  ·
   have h2:=r2
   have h2:=au h2
   have hv:=h2
   refine amv ?_
   first | (refine ⟨(x.1 + 1, x.2.1 + 1, x.2.2.set x.1 (x.2.2.getD x.2.1 default)), ?_, ?_, ?_⟩
            · exact hC.keep (by omega) (by simpa using hv)
            · first | omega | (dsimp only;omega)
            exact ⟨⟨⟨_,rfl,(coi (by first | rfl | (dsimp only;omega)))⟩,⟨_,rfl,(coi (by first | rfl | (dsimp only;omega)))⟩,c9,c9,trivial⟩,⟨⟨_,rfl,(qb id hml.symm (by omega) (by omega) (by omega))⟩,trivial⟩⟩)
         | (refine ⟨(x.1,x.2.1 + 1,x.2.2), ?_, ?_, ?_⟩
            · exact hC.skip (by omega) (by simpa using hv)
            · first | omega | (dsimp only;omega)
            exact ⟨⟨⟨_,rfl,(coi (by first | rfl | (dsimp only;omega)))⟩,⟨_,rfl,(coi (by first | rfl | (dsimp only;omega)))⟩,c9,c9,trivial⟩,⟨u9,trivial⟩⟩)
  have h2:=r2
  have h2:=ar h2
  have hv:=h2
  refine w_6 ?_
  first | (refine ⟨(x.1 + 1, x.2.1 + 1, x.2.2.set x.1 (x.2.2.getD x.2.1 default)), ?_, ?_, ?_⟩
           · exact hC.keep (by omega) (by simpa using hv)
           · first | omega | (dsimp only;omega)
           exact ⟨⟨⟨_,rfl,(coi (by first | rfl | (dsimp only;omega)))⟩,⟨_,rfl,(coi (by first | rfl | (dsimp only;omega)))⟩,c9,c9,trivial⟩,⟨⟨_,rfl,(qb id hml.symm (by omega) (by omega) (by omega))⟩,trivial⟩⟩)
        | (refine ⟨(x.1,x.2.1 + 1,x.2.2), ?_, ?_, ?_⟩
           · exact hC.skip (by omega) (by simpa using hv)
           · first | omega | (dsimp only;omega)
           exact ⟨⟨⟨_,rfl,(coi (by first | rfl | (dsimp only;omega)))⟩,⟨_,rfl,(coi (by first | rfl | (dsimp only;omega)))⟩,c9,c9,trivial⟩,⟨u9,trivial⟩⟩)
 have h1:=aa r1
 try simp only [ty] at h1
 have hq:=h1
 refine w_6 ?_;refine ra 0 true rfl rfl rfl rfl rfl rfl ?_;refine w_5 ?_;refine aw2 rfl rfl rfl rfl rfl ?_;refine w_3 ?_;refine ⟨.inr rfl, ?_⟩
 exact ⟨_,_,rfl,(by (repeat' apply And.intro) <;> first | trivial | exact Nat.le_of_ble_eq_true rfl),b04 hC (by omega) (by simp [bc]),trivial⟩
end
section
def dx (s:AS) (i:Int):Bool:=decide (0 ≤ i ∧ i < 32) && s.getLsbD i.toNat
theorem n4 {s:AS} {i:Nat} (h:i < 32):dx s i = s.getLsbD i:=by
 unfold dx
 rw [decide_eq_true (by omega)]
 simp
theorem adq {s:AS} {i:Int} (h0:0 ≤ i) (h1:i < 32):decide (bo .and .u32 ((asI s).fdiv (2 ^ (min i.toNat 32))) 1 = 1) = dx s i:=by
 unfold dx
 rw [uk,show (1:Int) = asI 1 from rfl,gl,decide_eq_true (show 0 ≤ i ∧ i < 32 from ⟨h0,h1⟩),Bool.true_and]
 have e:asI (s >>> i.toNat &&& 1) = asI 1 ↔ s.getLsbD i.toNat = true:=by
  rw [c8]
  constructor
  · intro h
    have:=congrArg (fun x:AS=>x.getLsbD 0) h
    simpa using this
  intro h
  apply BitVec.eq_of_getLsbD_eq
  intro k hk
  have h1:(1:AS).getLsbD k = decide (k = 0):=by have:=sv 0 k hk;simpa using this
  rw [BitVec.getLsbD_and,BitVec.getLsbD_ushiftRight,h1]
  by_cases hk0:k = 0
  · subst hk0;simp [h]
  simp [hk0]
 cases hb:s.getLsbD i.toNat with
 | true=>exact decide_eq_true (e.2 hb)
 | false=>exact decide_eq_false fun h=>by rw [e.1 h] at hb;cases hb
theorem aa1 {s:AS} {i:Int} (h:¬ (0 ≤ i ∧ i < 32)):dx s i = false:=by
 unfold dx
 rw [decide_eq_false h]
 rfl
theorem aht {n:Nat} (h:n ≤ 32):jb n = BitVec.ofNat 32 (2 ^ n - 1):=by
 apply BitVec.eq_of_getLsbD_eq
 intro k hk
 rw [pk n k hk,BitVec.getLsbD_ofNat,Nat.testBit_two_pow_sub_one]
 simp [hk]
theorem aic {n:Nat} (h:n ≤ 32):(jb n).toNat = 2 ^ n - 1:=by
 have h2:2 ^ n ≤ 2 ^ 32:=Nat.pow_le_pow_right (by omega) h
 have h3:0 < 2 ^ n:=Nat.two_pow_pos n
 rw [aht h,BitVec.toNat_ofNat,Nat.mod_eq_of_lt (by omega)]
theorem gp {n:Int} {l:List Fd} (h:br n l = 0):0 ≤ n ∧ n ≤ 16 ∧ l.length ≤ 64 ∧ l.all (inU n) = true:=by
 unfold br at h
 split at h
 · cases h
 split at h
 · cases h
 split at h
 · rename_i h1 h2 h3
   exact ⟨by omega,by omega,by omega,h3⟩
 cases h
theorem rg {n:Int} (h0:0 ≤ n) (h1:n ≤ 16):IntKind.wrap .u32 (1 * 2 ^ (min n.toNat 32)) - 1 = asI (aq n):=by
 have h2:2 ^ n.toNat ≤ 2 ^ 16:=Nat.pow_le_pow_right (by omega) (by omega)
 have h3:0 < 2 ^ n.toNat:=Nat.two_pow_pos _
 rw [show IntKind.wrap .u32 (1 * 2 ^ (min n.toNat 32)) = asI ((1:AS) <<< n.toNat) from aez 1 n.toNat]
 unfold aq asI
 rw [Nat.min_eq_left (by omega),aic (by omega),BitVec.toNat_shiftLeft,Nat.shiftLeft_eq]
 rw [show (1:AS).toNat = 1 from rfl,Nat.one_mul,Nat.mod_eq_of_lt (by omega)]
 omega
theorem alq {s:AS} {n:Int} (h0:0 ≤ n) (h1:n ≤ 16):(asI s).fdiv (2 ^ (min n.toNat 32)) = 0 ↔ sub s (aq n):=by
 rw [uk,show (0:Int) = asI 0 from rfl,c8]
 unfold aq
 rw [Nat.min_eq_left (by omega)]
 exact (ur (by omega)).symm
theorem x6 {n:Int} (h0:0 ≤ n) (h1:n ≤ 16):0 ≤ IntKind.wrap .u32 (1 * 2 ^ (min n.toNat 32)) - 1:=by rw [rg h0 h1];exact a42 _
theorem ua {n:Int} (h0:0 ≤ n) (h1:n ≤ 16):IntKind.wrap .u32 (1 * 2 ^ (min n.toNat 32)) - 1 ≤ 4294967295:=by rw [rg h0 h1];have:=a8y (aq n);omega
def jo (n:Int) (l:List Fd) (s:AS):Bool:=decide (br n l = 0 ∧ sub s (aq n) ∧ clo l s = aq n)
section
variable {n:Int} {l:List Fd} {s:AS}
theorem ang (h:¬ br n l = 0):jo n l s = false:=decide_eq_false fun e=>h e.1
theorem au0 (h:br n l = 0) (h2:(asI s).fdiv (2 ^ (min n.toNat 32)) = 0):decide (asI (clo l s) = asI (aq n)) = jo n l s:=by
 have hv:=gp h
 have h3:=(alq hv.1 hv.2.1).1 h2
 exact decide_eq_decide.2 ⟨fun e=>⟨h,h3,c8.1 e⟩,fun e=>congrArg asI e.2.2⟩
theorem alf (h:br n l = 0) (h2:¬ (asI s).fdiv (2 ^ (min n.toNat 32)) = 0):jo n l s = false:=by
 have hv:=gp h
 exact decide_eq_false fun e=>h2 ((alq hv.1 hv.2.1).2 e.2.1)
end
def gi (n:Int) (l:List Fd) (m:Int):Int:=if br n l = 0 then (if m < n then 3 else 0) else br n l
structure Dp where
 l:BitVec 8
 r:BitVec 8
deriving Inhabited
def Dp.c (d:Dp):Nat → PV
 | 0=>.raw (.int .u8 (d.l.toNat:Int))
 | 1=>.raw (.int .u8 (d.r.toNat:Int))
 | _=>.any
abbrev dpl (l:List Dp):PV:=psl 2 Dp.c l
def Dp.fd (n:Int) (d:Dp):Fd:=⟨d.l.setWidth 32 &&& aq n,d.r.setWidth 32 &&& aq n⟩
theorem a21 (b:BitVec 8) (t:AS):bo .and .u32 (b.toNat:Int) (asI t) = asI (b.setWidth 32 &&& t):=by
 have h:=b.isLt
 have e:asI (b.setWidth 32) = (b.toNat:Int):=by
  unfold asI
  rw [BitVec.toNat_setWidth,Nat.mod_eq_of_lt (by omega)]
 rw [← gl,e]
end
section
open Go.Proofs
theorem akl:goodFn Tryz.prog 123:=wgx Tryz.func123
theorem b6r (s:AS) (i:Int):af Tryz.prog 123 [pA s,pI i] (aj [pB (dx s i)]):=by
 refine a8 (nt:=18) a7 Tryz.func123 rfl rfl l9 ?_;refine w_9 ?_;refine b9 rfl rfl (fun r0=>?_) (fun r0=>?_)
 ·
  have h0:=ae r0
  try simp only [ty] at h0
  (iterate 2 refine qy ?_ (hg:=(gtt r0)));refine w_2 ?_;refine b9 rfl rfl (fun r1=>?_) (fun r1=>?_)
  ·
   have h1:=r1
   have h1:=du r0 h1
   have h1:=ae h1
   try simp only [ty] at h1
   (iterate 5 refine qy ?_ (hg:=(gtt r1)));refine w_3 ?_
   exact hx8 rfl rfl rfl (⟨ccb (by first | exact dc (by assumption) (adq (by omega) (by omega)) | exact (aa1 (by omega)).symm),trivial⟩)
  have h1:=r1
  have h1:=du r0 h1
  have h1:=aa h1
  try simp only [ty] at h1
  (iterate 5 refine k9 (gft r1) ?_);refine rq rfl rfl rfl rfl rfl ?_ (hp:=r1);refine w_2 ?_
  exact hx8 rfl rfl rfl (⟨ccb (by first | exact dc (by assumption) (adq (by omega) (by omega)) | exact (aa1 (by omega)).symm),trivial⟩)
 have h0:=aa r0
 try simp only [ty] at h0
 (iterate 2 refine k9 (gft r0) ?_);refine rq rfl rfl rfl rfl rfl ?_ (hp:=r0);refine qy ?_;(iterate 5 refine k9 rfl ?_);refine w_3 ?_
 exact hx8 rfl rfl rfl (⟨ccb (by first | exact dc (by assumption) (adq (by omega) (by omega)) | exact (aa1 (by omega)).symm),trivial⟩)
theorem b2i:goodFn Tryz.prog 136:=wgx Tryz.func136
theorem b5q (n:Int) (h0:0 ≤ n) (h1:n ≤ 16):af Tryz.prog 136 [pI n] (aj [pA (aq n)]):=by
 refine a8 (nt:=6) a7 Tryz.func136 rfl rfl l9 ?_;refine w_8 ?_;refine rq rfl rfl rfl rfl rfl ?_ (hp:=⟨x6 h0 h1,ua h0 h1⟩);refine w_2 ?_
 exact hx8 rfl rfl rfl (⟨cci (rg h0 h1),trivial⟩)
theorem b6o:goodFn Tryz.prog 74:=wgx Tryz.func74
theorem b4m (n:Int) (h0:0 ≤ n) (h1:n ≤ 16):af Tryz.prog 74 [pI n] (aj [pA (aq n)]):=by
 refine a8 (nt:=6) a7 Tryz.func74 rfl rfl l9 ?_;refine w_8 ?_;refine rq rfl rfl rfl rfl rfl ?_ (hp:=⟨x6 h0 h1,ua h0 h1⟩);refine w_2 ?_
 exact hx8 rfl rfl rfl (⟨cci (rg h0 h1),trivial⟩)
theorem ag8:goodFn Tryz.prog 77:=wgx Tryz.func77
theorem alc (n:Int) (h0:0 ≤ n) (h1:n ≤ 16):af Tryz.prog 77 [pI n] (aj [pA (aq n)]):=by
 refine a8 (nt:=6) a7 Tryz.func77 rfl rfl l9 ?_;refine w_8 ?_;refine rq rfl rfl rfl rfl rfl ?_ (hp:=⟨x6 h0 h1,ua h0 h1⟩);refine w_2 ?_
 exact hx8 rfl rfl rfl (⟨cci (rg h0 h1),trivial⟩)
theorem apt:goodFn Tryz.prog 76:=wgx Tryz.func76
theorem b7i (n:Int) (l:List Fd):af Tryz.prog 76 [pI n,pP (fdl l)] (aj [pI (gi n l 8)]):=by
 refine a8 (nt:=14) a7 Tryz.func76 rfl rfl l9 ?_;refine w_9 ?_;refine qcx sd (wo n l) ?_;refine w_7 ?_;refine a6 _ rfl (fun r0=>?_) (fun r0=>?_)
 ·
  have h0:=r0
  have h0:=aa (au h0)
  try simp only [ty] at h0
  refine w_5 ?_
  exact hx8 rfl rfl rfl (⟨cci (by unfold gi;first | (rw [if_neg (by assumption)]) | (rw [if_pos (by omega),if_pos (by omega)]) | (rw [if_pos (by omega),if_neg (by omega)])),trivial⟩)
 have h0:=r0
 have h0:=ae (ar h0)
 try simp only [ty] at h0
 refine w_7 ?_;refine a6 _ rfl (fun r1=>?_) (fun r1=>?_)
 ·
  have h1:=ae r1
  try simp only [ty] at h1
  refine w_4 ?_
  exact hx8 rfl rfl rfl (⟨cci (by unfold gi;first | (rw [if_neg (by assumption)]) | (rw [if_pos (by omega),if_pos (by omega)]) | (rw [if_pos (by omega),if_neg (by omega)])),trivial⟩)
 have h1:=aa r1
 try simp only [ty] at h1
 refine w_5 ?_
 exact hx8 rfl rfl rfl (⟨cci (by unfold gi;first | (rw [if_neg (by assumption)]) | (rw [if_pos (by omega),if_pos (by omega)]) | (rw [if_pos (by omega),if_neg (by omega)])),trivial⟩)
theorem a9f:goodFn Tryz.prog 72:=wgx Tryz.func72
theorem adv (n:Int) (l:List Fd) (s:AS):af Tryz.prog 72 [pI n,pP (fdl l),pA s] (aj [pB (jo n l s)]):=by
 refine a8 (nt:=25) a7 Tryz.func72 rfl rfl l9 ?_;refine w_8 ?_;refine qcx sd (wo n l) ?_;refine w_2 ?_;refine b9 rfl rfl (fun r0=>?_) (fun r0=>?_)
 ·
  have h0:=ae r0
  try simp only [ty] at h0
  obtain ⟨hv0,hv1,_,_⟩:=gp h0
  (iterate 4 refine qy ?_ (hg:=(gtt r0)));refine w_2 ?_;refine b9 rfl rfl (fun r1=>?_) (fun r1=>?_)
  ·
   have h1:=r1
   have h1:=du r0 h1
   have h1:=ae h1
   try simp only [ty] at h1
   (iterate 2 refine qy ?_ (hg:=(gtt r1)));refine qcx qf (uf l s) ?_ (hg:=(gtt r1));refine qy ?_ (hg:=(gtt r1))
   refine qcx b2i (b5q n (gp (by assumption)).1 (gp (by assumption)).2.1) ?_ (hg:=(gtt r1));refine qy ?_ (hg:=(gtt r1));refine w_3 ?_
   exact hx8 rfl rfl rfl (⟨ccb (by first | exact dc (by assumption) (au0 (by assumption) (by assumption)) | exact (ang (by assumption)).symm | exact (alf (by assumption) (by assumption)).symm),trivial⟩)
  have h1:=r1
  have h1:=du r0 h1
  have h1:=aa h1
  try simp only [ty] at h1
  (iterate 6 refine k9 (gft r1) ?_);refine rq rfl rfl rfl rfl rfl ?_ (hp:=r1);refine w_2 ?_
  exact hx8 rfl rfl rfl (⟨ccb (by first | exact dc (by assumption) (au0 (by assumption) (by assumption)) | exact (ang (by assumption)).symm | exact (alf (by assumption) (by assumption)).symm),trivial⟩)
 have h0:=aa r0
 try simp only [ty] at h0
 (iterate 4 refine k9 (gft r0) ?_);refine rq rfl rfl rfl rfl rfl ?_ (hp:=r0);refine qy ?_;(iterate 6 refine k9 rfl ?_);refine w_3 ?_
 exact hx8 rfl rfl rfl (⟨ccb (by first | exact dc (by assumption) (au0 (by assumption) (by assumption)) | exact (ang (by assumption)).symm | exact (alf (by assumption) (by assumption)).symm),trivial⟩)
end
section
def bsz (s:AS):Nat:=(List.range 32).countP fun i=>s.getLsbD i
def bef (a b:AS):Bool:=decide (bsz a < bsz b) || (decide (bsz a = bsz b) && decide (a.toNat < b.toNat))
theorem zg (a:AS):bef a a = false:=by simp [bef]
theorem kz {a b:AS}:bef a b = true ↔ bsz a < bsz b ∨ (bsz a = bsz b ∧ a.toNat < b.toNat):=by simp [bef]
theorem qj {a b c:AS} (h:bef a b = true) (k:bef b c = true):bef a c = true:=by
 rw [kz] at *
 omega
theorem a4s {a b:AS} (h:a ≠ b):bef a b = true ∨ bef b a = true:=by
 have hn:a.toNat ≠ b.toNat:=fun e=>h (BitVec.eq_of_toNat_eq e)
 rw [kz,kz]
 omega
theorem awi {a b:AS} (h:bef a b = true):bef b a = false:=by
 rw [Bool.eq_false_iff]
 intro k
 have:=qj h k
 rw [zg] at this
 cases this
def p9 (l:List AS):Prop:=l.Pairwise fun a b=>bef a b = true
theorem oe:∀ {l k:List AS},p9 l → p9 k → (∀ x,x ∈ l ↔ x ∈ k) → l = k
 | [],[],_,_,_=>rfl
 | [],y :: k,_,_,h=>absurd ((h y).2 (List.mem_cons_self ..)) (by simp)
 | x :: l,[],_,_,h=>absurd ((h x).1 (List.mem_cons_self ..)) (by simp)
 | x :: l,y :: k,hl,hk,h=>by
  obtain ⟨h1,h2⟩:=List.pairwise_cons.1 hl
  obtain ⟨k1,k2⟩:=List.pairwise_cons.1 hk
  have e:x = y:=by
   rcases List.mem_cons.1 ((h x).1 (List.mem_cons_self ..)) with e | hx
   · exact e
   rcases List.mem_cons.1 ((h y).2 (List.mem_cons_self ..)) with e | hy
   · exact e.symm
   have:=awi (k1 x hx)
   rw [h1 y hy] at this
   cases this
  subst e
  congr 1
  refine oe h2 k2 fun z=>?_
  constructor
  · intro hz
    rcases List.mem_cons.1 ((h z).1 (List.mem_cons_of_mem _ hz)) with e | hz'
    · subst e
      have:=h1 z hz
      rw [zg] at this
      cases this
    exact hz'
  intro hz
  rcases List.mem_cons.1 ((h z).2 (List.mem_cons_of_mem _ hz)) with e | hz'
  · subst e
    have:=k1 z hz
    rw [zg] at this
    cases this
  exact hz'
def ke (x:AS):List AS → List AS
 | []=>[x]
 | y :: l=>if x = y then y :: l else if bef x y = true then x :: y :: l else y :: ke x l
theorem w8 {x z:AS}:∀ {l:List AS},z ∈ ke x l ↔ z = x ∨ z ∈ l
 | []=>by simp [ke]
 | y :: l=>by
  unfold ke
  split
  · rename_i e
    subst e
    simp
  split
  · simp
  rw [List.mem_cons,w8,List.mem_cons]
  constructor
  · rintro (h | h | h) <;> simp [h]
  rintro (h | h | h) <;> simp [h]
theorem xw {x:AS}:∀ {l:List AS},p9 l → p9 (ke x l)
 | [],_=>by simp [ke,p9]
 | y :: l,h=>by
  obtain ⟨h1,h2⟩:=List.pairwise_cons.1 h
  unfold ke
  split
  · exact h
  split
  · rename_i hxy
    refine List.pairwise_cons.2 ⟨fun z hz=>?_,h⟩
    rcases List.mem_cons.1 hz with rfl | hz
    · exact hxy
    exact qj hxy (h1 z hz)
  rename_i hne hxy
  refine List.pairwise_cons.2 ⟨fun z hz=>?_,xw h2⟩
  rcases w8.1 hz with rfl | hz
  · exact (a4s hne).resolve_left hxy
  exact h1 z hz
def ord (l:List AS):List AS:=l.foldl (fun o x=>ke x o) []
theorem aa8:∀ {l o:List AS},p9 o → p9 (l.foldl (fun o x=>ke x o) o) ∧ ∀ z,z ∈ l.foldl (fun o x=>ke x o) o ↔ z ∈ o ∨ z ∈ l
 | [],o,h=>⟨h,fun z=>by simp⟩
 | x :: l,o,h=>by
  obtain ⟨h1,h2⟩:=aa8 (l:=l) (xw (x:=x) h)
  refine ⟨h1,fun z=>?_⟩
  show z ∈ l.foldl (fun o x=>ke x o) (ke x o) ↔ _
  rw [h2 z,w8,List.mem_cons]
  constructor
  · rintro ((h | h) | h) <;> simp [h]
  rintro (h | h | h) <;> simp [h]
theorem j8 (l:List AS):p9 (ord l):=(aa8 (o:=[]) List.Pairwise.nil).1
theorem ve {l:List AS} {z:AS}:z ∈ ord l ↔ z ∈ l:=by
 show z ∈ l.foldl (fun o x=>ke x o) [] ↔ _
 rw [(aa8 (l:=l) (o:=[]) List.Pairwise.nil).2 z]
 simp
theorem b7y {l k:List AS} (hk:p9 k) (h:∀ z,z ∈ k ↔ z ∈ l):k = ord l:=oe hk (j8 l) fun z=>by rw [h z,ve]
end
section
def ap (s:AS):List Nat:=(List.range 32).filter fun i=>s.getLsbD i
def iC:Nat → Nat → PV:=fun n _=>.raw (.int .i64 (n:Int))
abbrev il (l:List Nat):PV:=psl 1 iC l
theorem tx (s:AS):bsz s = (ap s).length:=by unfold bsz ap;rw [List.countP_eq_length_filter]
theorem kb {s:AS} {i:Nat}:i ∈ ap s ↔ i < 32 ∧ s.getLsbD i = true:=by simp [ap,List.mem_filter,List.mem_range]
theorem a2j {p:Nat → Bool} {t:Nat}:∀ {l:List Nat},l.Pairwise (· < ·) → t ∈ l → p t = true → (∀ k,k < t → p k = false) → l.filter p = t :: l.filter fun k=>decide (k ≠ t) && p k
 | [],_,h,_,_=>by cases h
 | a :: l,hp,hm,h1,h2=>by
  obtain ⟨q1,q2⟩:=List.pairwise_cons.1 hp
  by_cases ha:a = t
  · subst ha
    have e:l.filter p = l.filter fun k=>decide (k ≠ a) && p k:=by
     apply List.filter_congr
     intro k hk
     have:=q1 k hk
     rw [decide_eq_true (by omega),Bool.true_and]
    simp [List.filter_cons,h1,e]
  have hm':t ∈ l:=by
   rcases List.mem_cons.1 hm with h | h
   · exact absurd h.symm ha
   exact h
  have:=q1 t hm'
  have hpa:=h2 a this
  simp [List.filter_cons,hpa,a2j q2 hm' h1 h2]
def i6 (s:AS):Nat:=Lib.ctz 32 s.toNat
theorem aw5 {s:AS} (h:s ≠ 0):∃ m,s.toNat = 2 ^ (i6 s + 1) * m + 2 ^ i6 s ∧ i6 s < 32:=by
 have h0:s.toNat ≠ 0:=fun e=>h (BitVec.eq_of_toNat_eq e)
 obtain ⟨m,h1,h2⟩:=Lib.ctzFrom_spec 32 s.toNat (by omega) s.isLt
 have e:i6 s = Lib.ctzFrom 32 s.toNat:=by unfold i6 Lib.ctz;rw [if_neg h0]
 rw [e]
 refine ⟨m, ?_,h2⟩
 rw [Nat.pow_succ]
 rw [h1] at *
 simp only [Nat.mul_add,Nat.mul_assoc,Nat.mul_one] at *
 exact h1
theorem sq {s:AS} (h:s ≠ 0):i6 s < 32 ∧ s.getLsbD (i6 s) = true ∧ (∀ k,k < i6 s → s.getLsbD k = false) ∧ s &&& (s - 1) = s &&& ~~~((1:AS) <<< i6 s):=by
 obtain ⟨m,h1,h2⟩:=aw5 h
 generalize i6 s = t at *
 have hp:2 ^ t < 2 ^ (t + 1):=Nat.pow_lt_pow_right (by omega) (by omega)
 have hb:∀ k,s.getLsbD k = if k < t + 1 then (2 ^ t).testBit k else m.testBit (k - (t + 1)):=fun k=>by
  show s.toNat.testBit k = _
  rw [h1,Nat.testBit_two_pow_mul_add _ hp]
 have hq:0 < 2 ^ t:=Nat.two_pow_pos t
 have e1:(s - 1).toNat = 2 ^ (t + 1) * m + (2 ^ t - 1):=by
  have:=s.isLt
  rw [BitVec.toNat_sub]
  show (2 ^ 32 - 1 + s.toNat) % 2 ^ 32 = _
  omega
 have hd:∀ k,(s - 1).getLsbD k = if k < t + 1 then (2 ^ t - 1).testBit k else m.testBit (k - (t + 1)):=fun k=>by
  show (s - 1).toNat.testBit k = _
  rw [e1,Nat.testBit_two_pow_mul_add _ (by omega)]
 refine ⟨h2, ?_,fun k hk=>?_, ?_⟩
 · rw [hb,if_pos (by omega),Nat.testBit_two_pow_self]
 · rw [hb,if_pos (by omega),Nat.testBit_two_pow]
   simp;omega
 apply BitVec.eq_of_getLsbD_eq
 intro k hk
 rw [BitVec.getLsbD_and,BitVec.getLsbD_and,BitVec.getLsbD_not,sv _ _ hk,hd k,hb k]
 by_cases h3:k < t + 1
 · rw [if_pos h3,if_pos h3,Nat.testBit_two_pow,Nat.testBit_two_pow_sub_one]
   by_cases h4:k = t
   · subst h4;simp
   have:¬ t = k:=fun e=>h4 e.symm
   simp [this]
 rw [if_neg h3,if_neg h3]
 have:¬ k = t:=by omega
 simp [hk,this]
theorem a2l {s:AS} (h:s ≠ 0) (k:Nat) (hk:k < 32):(s &&& (s - 1)).getLsbD k = (decide (k ≠ i6 s) && s.getLsbD k):=by
 rw [(sq h).2.2.2,BitVec.getLsbD_and,BitVec.getLsbD_not,sv _ _ hk]
 by_cases e:k = i6 s <;> simp [e,hk,Bool.and_comm]
theorem ao7 {s:AS} (h:s ≠ 0):ap s = i6 s :: ap (s &&& (s - 1)):=by
 obtain ⟨h1,h2,h3,_⟩:=sq h
 unfold ap
 rw [a2j List.pairwise_lt_range (List.mem_range.2 h1) h2 h3]
 congr 1
 apply List.filter_congr
 intro k hk
 rw [a2l h k (List.mem_range.1 hk)]
theorem a8h:ap 0 = []:=by
 unfold ap
 rw [List.filter_eq_nil_iff]
 intro k _
 simp
theorem atb {s:AS} (h:s ≠ 0):(s &&& (s - 1)).toNat < s.toNat:=by
 refine wq (ct.2 fun i hi hb=>?_) fun e=>?_
 · rw [a2l h i hi] at hb
   simp only [Bool.and_eq_true] at hb
   exact hb.2
 have:=a2l h (i6 s) (sq h).1
 rw [e,(sq h).2.1] at this
 simp at this
end
end Go.Hx

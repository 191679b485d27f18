/- A part of the proof: X1 X2 Ch3 X3. -/
import Derived.Test.YtidophngianjiaaGreatDoorBx21
set_option linter.all false
section
namespace Go.Hx
open Go.Proofs
set_option maxRecDepth 100000
set_option maxHeartbeats 1000000
theorem axq:goodFn Tryz.prog 245:=⟨Tryz.f245,Tryz.func245,by kernel_rfl,by kernel_rfl⟩
theorem b3t (l:List Int) (g k:Nat) (caps:Nat → PV) (V:Int → Bool) (hg:goodFn Tryz.prog g) (hV:∀ x,ai Tryz.prog g (pI x :: gw caps k 0) (ao [pB (V x)])):ai Tryz.prog 245 [pP (zl l),pP (.fn g k caps)] (ao [pI (idx V l)]):=by
 refine ah (nt:=19) ae Tryz.func245 rfl rfl l9 ?_;refine a7 ?_
 refine d9 0 rfl fun hn=>?_
 refine gy ?_;refine qy ?_;refine a6 ?_;refine dm (ι:=Unit) ⟨[],[]⟩ ⟨trivial,trivial⟩ (fun _i=>⟨[],[]⟩) (fun _i=>idx V l = -1) ?_ ?_
 ·
  refine sx7 ?_;(iterate 3 refine qy ?_);refine a6 ?_;refine ab ?_
  refine aj (ι:=Nat) ⟨[(0,some _),(1,some _),(7,some _)],[]⟩ ⟨⟨c9,c9,c9,trivial⟩,trivial⟩ (fun i=>⟨[(8,some (vI i))],[]⟩) (fun i=>i ≤ l.length ∧ (∀ j,j < i → V (l.getD j default) = false)) (fun i=>l.length - i) (0) (⟨Nat.zero_le _,cg⟩) ⟨⟨zy,trivial⟩,trivial⟩ ?_
  rintro i ⟨hi,hI⟩
  refine sx7 ?_;refine qy ?_;refine a6 ?_;refine a7 ?_;refine a8 _ rfl (fun r0=>?_) (fun r0=>?_)
  ·
   have h0:=of_decide_eq_true r0
   try simp only [ty] at h0
   refine aa ?_;refine a7 ?_;refine ab ?_;refine sx7 ?_;(iterate 2 refine qy ?_);refine a6 ?_;refine sx7 ?_;(iterate 5 refine qy ?_)
   refine rc rfl rfl rfl rfl rfl rfl hg (hV (l.getD i default)) (CoL.refl _) rfl rfl ?_;refine a6 ?_;refine a8 _ rfl (fun r1=>?_) (fun r1=>?_)
   ·
    have h1:=r1
    refine sx7 ?_;(iterate 2 refine qy ?_);refine a6 ?_
    exact hx8 rfl rfl rfl (⟨cci (a6p (i:=i) (by omega) hI h1).symm,trivial⟩)
   ·
    have h1:=r1
    refine aa ?_;refine gy ?_;(iterate 2 refine qy ?_);refine a6 ?_;refine ⟨i + 1, ?_, ?_, ?_⟩
    · exact ⟨by show i + 1 ≤ _;omega,br hI (h1)⟩
    · first | omega | (dsimp only;omega)
    · exact ⟨⟨zy,c9,c9,c9,trivial⟩,trivial⟩
  ·
   have h0:=of_decide_eq_false r0
   try simp only [ty] at h0
   refine ak ?_;refine ⟨(), ?_, ?_⟩
   · exact a5k fun j hj=>hI j (by omega)
   · exact ⟨trivial,trivial⟩
 · rintro _ hj
   refine sx7 ?_;refine qy ?_;refine a6 ?_
   exact hx8 rfl rfl rfl (⟨cci hj.symm,trivial⟩)
theorem auc:goodFn Tryz.prog 184:=⟨Tryz.f184,Tryz.func184,by kernel_rfl,by kernel_rfl⟩
theorem b3u (l:List Rw) (g k:Nat) (caps:Nat → PV) (V:Rw → Bool) (hg:goodFn Tryz.prog g) (hV:∀ x,ai Tryz.prog g (pZ x :: gw caps k 0) (ao [pB (V x)])):ai Tryz.prog 184 [pP (rl l),pP (.fn g k caps)] (ao [pI (idx V l)]):=by
 refine ah (nt:=19) ae Tryz.func184 rfl rfl l9 ?_;refine a7 ?_
 refine d9 0 rfl fun hn=>?_
 refine gy ?_;refine qy ?_;refine a6 ?_;refine dm (ι:=Unit) ⟨[],[]⟩ ⟨trivial,trivial⟩ (fun _i=>⟨[],[]⟩) (fun _i=>idx V l = -1) ?_ ?_
 ·
  refine sx7 ?_;(iterate 3 refine qy ?_);refine a6 ?_;refine ab ?_
  refine aj (ι:=Nat) ⟨[(0,some _),(1,some _),(7,some _)],[]⟩ ⟨⟨c9,c9,c9,trivial⟩,trivial⟩ (fun i=>⟨[(8,some (vI i))],[]⟩) (fun i=>i ≤ l.length ∧ (∀ j,j < i → V (l.getD j default) = false)) (fun i=>l.length - i) (0) (⟨Nat.zero_le _,cg⟩) ⟨⟨zy,trivial⟩,trivial⟩ ?_
  rintro i ⟨hi,hI⟩
  refine sx7 ?_;refine qy ?_;refine a6 ?_;refine a7 ?_;refine a8 _ rfl (fun r0=>?_) (fun r0=>?_)
  ·
   have h0:=of_decide_eq_true r0
   try simp only [ty] at h0
   refine aa ?_;refine a7 ?_;refine ab ?_;refine sx7 ?_;(iterate 2 refine qy ?_);refine a6 ?_;refine sx7 ?_;(iterate 5 refine qy ?_)
   refine rc rfl rfl rfl rfl rfl rfl hg (hV (l.getD i default)) (CoL.refl _) rfl rfl ?_;refine a6 ?_;refine a8 _ rfl (fun r1=>?_) (fun r1=>?_)
   ·
    have h1:=r1
    refine sx7 ?_;(iterate 2 refine qy ?_);refine a6 ?_
    exact hx8 rfl rfl rfl (⟨cci (a6p (i:=i) (by omega) hI h1).symm,trivial⟩)
   ·
    have h1:=r1
    refine aa ?_;refine gy ?_;(iterate 2 refine qy ?_);refine a6 ?_;refine ⟨i + 1, ?_, ?_, ?_⟩
    · exact ⟨by show i + 1 ≤ _;omega,br hI (h1)⟩
    · first | omega | (dsimp only;omega)
    · exact ⟨⟨zy,c9,c9,c9,trivial⟩,trivial⟩
  ·
   have h0:=of_decide_eq_false r0
   try simp only [ty] at h0
   refine ak ?_;refine ⟨(), ?_, ?_⟩
   · exact a5k fun j hj=>hI j (by omega)
   · exact ⟨trivial,trivial⟩
 · rintro _ hj
   refine sx7 ?_;refine qy ?_;refine a6 ?_
   exact hx8 rfl rfl rfl (⟨cci hj.symm,trivial⟩)
theorem ax9:goodFn Tryz.prog 232:=⟨Tryz.f232,Tryz.func232,by kernel_rfl,by kernel_rfl⟩
theorem b3g (l:List Int) (g k:Nat) (caps:Nat → PV) (V:Int → Bool) (hg:goodFn Tryz.prog g) (hV:∀ x,ai Tryz.prog g (pI x :: gw caps k 0) (ao [pB (V x)])):ai Tryz.prog 232 [pP (zl l),pP (.fn g k caps)] (ao [pB (l.any V)]):=by
 refine ah (nt:=9) ae Tryz.func232 rfl rfl l9 ?_;refine sx7 ?_;refine qy ?_;refine a6 ?_;refine sx7 ?_;(iterate 2 refine qy ?_)
 refine rc rfl rfl rfl rfl rfl rfl axq (b3t l g k caps V hg hV) (CoL.refl _) rfl rfl ?_;(iterate 2 refine qy ?_);refine a6 ?_
 exact hx8 rfl rfl rfl (⟨ccb a0j,trivial⟩)
theorem axb:goodFn Tryz.prog 150:=⟨Tryz.f150,Tryz.func150,by kernel_rfl,by kernel_rfl⟩
theorem b31 (l:List Rw) (g k:Nat) (caps:Nat → PV) (V:Rw → Bool) (hg:goodFn Tryz.prog g) (hV:∀ x,ai Tryz.prog g (pZ x :: gw caps k 0) (ao [pB (V x)])):ai Tryz.prog 150 [pP (rl l),pP (.fn g k caps)] (ao [pB (l.any V)]):=by
 refine ah (nt:=9) ae Tryz.func150 rfl rfl l9 ?_;refine sx7 ?_;refine qy ?_;refine a6 ?_;refine sx7 ?_;(iterate 2 refine qy ?_)
 refine rc rfl rfl rfl rfl rfl rfl auc (b3u l g k caps V hg hV) (CoL.refl _) rfl rfl ?_;(iterate 2 refine qy ?_);refine a6 ?_
 exact hx8 rfl rfl rfl (⟨ccb a0j,trivial⟩)
theorem a73:goodFn Tryz.prog 152:=⟨Tryz.f152,Tryz.func152,by kernel_rfl,by kernel_rfl⟩
theorem aph (a b:Rw):ai Tryz.prog 152 [pZ a,pZ b] (ao [pB (decide (a = b))]):=by
 refine ah (nt:=26) ae Tryz.func152 rfl rfl l9 ?_;refine a7 ?_
 refine d9 0 rfl fun hn0=>?_
 refine d9 1 rfl fun hn1=>?_
 refine gy ?_;refine qy ?_;refine a6 ?_;refine a7 ?_;refine sx7 ?_;(iterate 5 refine qy ?_);refine a6 ?_;refine a8 _ rfl (fun r0=>?_) (fun r0=>?_)
 ·
  have h0:=r0
  have h0:=of_decide_eq_false (av h0)
  try simp only [ty] at h0
  refine sx7 ?_;refine qy ?_;refine a6 ?_
  exact hx8 rfl rfl rfl (⟨ccb (decide_eq_false fun e=>by subst e;omega).symm,trivial⟩)
 ·
  have h0:=r0
  have h0:=of_decide_eq_true (aw h0)
  try simp only [ty] at h0
  refine aa ?_;refine dm (ι:=Unit) ⟨[],[]⟩ ⟨trivial,trivial⟩ (fun _i=>⟨[],[]⟩) (fun _i=>a = b) ?_ ?_
  ·
   refine sx7 ?_;(iterate 3 refine qy ?_);refine a6 ?_;refine ab ?_
   refine aj (ι:=Nat) ⟨[(0,some _),(1,some _),(12,some _)],[]⟩ ⟨⟨c9,c9,c9,trivial⟩,trivial⟩ (fun i=>⟨[(13,some (vI i))],[]⟩) (fun i=>i ≤ a.length ∧ (∀ j,j < i → decide (a.getD j default = b.getD j default) = true)) (fun i=>a.length - i) (0) (⟨Nat.zero_le _,cg⟩) ⟨⟨zy,trivial⟩,trivial⟩ ?_
   rintro i ⟨hi,hI⟩
   refine sx7 ?_;refine qy ?_;refine a6 ?_;refine a7 ?_;refine a8 _ rfl (fun r1=>?_) (fun r1=>?_)
   ·
    have h1:=of_decide_eq_true r1
    try simp only [ty] at h1
    refine aa ?_;refine a7 ?_;refine ab ?_;refine sx7 ?_;(iterate 2 refine qy ?_);refine a6 ?_;refine a7 ?_;refine ax (E:=bf) ae ar [0,1,2,3,4,5,6,7,8] ?_
    (iterate 9 refine qy ?_);refine a6 ?_;refine ⟨by kernel_rfl, ?_⟩;refine a8 _ rfl (fun r2=>?_) (fun r2=>?_)
    ·
     have h2:=r2
     have h2:=of_decide_eq_false (av h2)
     try simp only [ty] at h2
     refine sx7 ?_;refine qy ?_;refine a6 ?_
     exact hx8 rfl rfl rfl (⟨ccb (decide_eq_false fun e=>by subst e;simp_all).symm,trivial⟩)
    ·
     have h2:=r2
     have h2:=of_decide_eq_true (aw h2)
     try simp only [ty] at h2
     refine aa ?_;refine gy ?_;(iterate 2 refine qy ?_);refine a6 ?_;refine ⟨i + 1, ?_, ?_, ?_⟩
     · exact ⟨by show i + 1 ≤ _;omega,br hI (decide_eq_true (by simp_all))⟩
     · first | omega | (dsimp only;omega)
     · exact ⟨⟨zy,c9,c9,c9,trivial⟩,trivial⟩
   ·
    have h1:=of_decide_eq_false r1
    try simp only [ty] at h1
    refine ak ?_;refine ⟨(), ?_, ?_⟩
    · exact asy (by omega) fun j hj=>hI j (by omega)
    · exact ⟨trivial,trivial⟩
  · rintro _ hj
    refine sx7 ?_;refine qy ?_;refine a6 ?_
    exact hx8 rfl rfl rfl (⟨ccb (decide_eq_true hj).symm,trivial⟩)
theorem ax2:goodFn Tryz.prog 147:=⟨Tryz.f147,Tryz.func147,by kernel_rfl,by kernel_rfl⟩
theorem b1l (a b:Rw):ai Tryz.prog 147 [pZ a,pZ b] (ao [pB (decide (a = b))]):=by
 refine ah (nt:=26) ae Tryz.func147 rfl rfl l9 ?_;refine a7 ?_
 refine d9 0 rfl fun hn0=>?_
 refine d9 1 rfl fun hn1=>?_
 refine gy ?_;refine qy ?_;refine a6 ?_;refine a7 ?_;refine sx7 ?_;(iterate 5 refine qy ?_);refine a6 ?_;refine a8 _ rfl (fun r0=>?_) (fun r0=>?_)
 ·
  have h0:=r0
  have h0:=of_decide_eq_false (av h0)
  try simp only [ty] at h0
  refine sx7 ?_;refine qy ?_;refine a6 ?_
  exact hx8 rfl rfl rfl (⟨ccb (decide_eq_false fun e=>by subst e;omega).symm,trivial⟩)
 ·
  have h0:=r0
  have h0:=of_decide_eq_true (aw h0)
  try simp only [ty] at h0
  refine aa ?_;refine dm (ι:=Unit) ⟨[],[]⟩ ⟨trivial,trivial⟩ (fun _i=>⟨[],[]⟩) (fun _i=>a = b) ?_ ?_
  ·
   refine sx7 ?_;refine qy ?_;refine a6 ?_;refine ab ?_
   refine aj (ι:=Nat) ⟨[(0,some _),(1,some _)],[]⟩ ⟨⟨c9,c9,trivial⟩,trivial⟩ (fun i=>⟨[(5,some (vI i))],[]⟩) (fun i=>i ≤ a.length ∧ (∀ j,j < i → decide (a.getD j default = b.getD j default) = true)) (fun i=>a.length - i) (0) (⟨Nat.zero_le _,cg⟩) ⟨⟨zy,trivial⟩,trivial⟩ ?_
   rintro i ⟨hi,hI⟩
   refine a7 ?_;refine sx7 ?_;(iterate 4 refine qy ?_);refine a6 ?_;refine a8 _ rfl (fun r1=>?_) (fun r1=>?_)
   ·
    have h1:=of_decide_eq_true r1
    try simp only [ty] at h1
    refine aa ?_;refine a7 ?_;refine ab ?_;refine a7 ?_;refine ax (E:=bf) ae ar [0,1,2,3,4,5,6,7,8] ?_;(iterate 9 refine qy ?_);refine a6 ?_;refine ⟨by kernel_rfl, ?_⟩
    refine a8 _ rfl (fun r2=>?_) (fun r2=>?_)
    ·
     have h2:=r2
     have h2:=of_decide_eq_false (av h2)
     try simp only [ty] at h2
     refine sx7 ?_;refine qy ?_;refine a6 ?_
     exact hx8 rfl rfl rfl (⟨ccb (decide_eq_false fun e=>by subst e;simp_all).symm,trivial⟩)
    ·
     have h2:=r2
     have h2:=of_decide_eq_true (aw h2)
     try simp only [ty] at h2
     refine aa ?_;refine gy ?_;(iterate 3 refine qy ?_);refine a6 ?_;refine ⟨i + 1, ?_, ?_, ?_⟩
     · exact ⟨by show i + 1 ≤ _;omega,br hI (decide_eq_true (by simp_all))⟩
     · first | omega | (dsimp only;omega)
     · exact ⟨⟨zy,c9,c9,trivial⟩,trivial⟩
   ·
    have h1:=of_decide_eq_false r1
    try simp only [ty] at h1
    refine ak ?_;refine ⟨(), ?_, ?_⟩
    · exact asy (by omega) fun j hj=>hI j (by omega)
    · exact ⟨trivial,trivial⟩
  · rintro _ hj
    refine sx7 ?_;refine qy ?_;refine a6 ?_
    exact hx8 rfl rfl rfl (⟨ccb (decide_eq_true hj).symm,trivial⟩)
theorem ava:goodFn Tryz.prog 212:=⟨Tryz.f212,Tryz.func212,by kernel_rfl,by kernel_rfl⟩
theorem atf (a b:Rw):ai Tryz.prog 212 [pZ a,pZ b] (ao [pI (nc a b)]):=by
 refine ah (nt:=36) ae Tryz.func212 rfl rfl l9 ?_;refine a7 ?_
 refine d9 0 rfl fun hn0=>?_
 refine d9 1 rfl fun hn1=>?_
 refine gy ?_;refine qy ?_;refine a6 ?_
 refine dm (ι:=Unit) ⟨[(0,some _),(1,some _)],[]⟩ ⟨⟨c9,c9,trivial⟩,trivial⟩ (fun _i=>⟨[],[]⟩) (fun _i=>∀ j,j < a.length → j < b.length ∧ a.getD j default = b.getD j default) ?_ ?_
 ·
  refine sx7 ?_;(iterate 3 refine qy ?_);refine a6 ?_;refine ab ?_
  refine aj (ι:=Nat) ⟨[(0,some _),(1,some _),(9,some _),(10,some _)],[]⟩ ⟨⟨c9,c9,c9,c9,trivial⟩,trivial⟩ (fun i=>⟨[(11,some (vI i))],[]⟩) (fun i=>i ≤ a.length ∧ (∀ j,j < i → j < b.length ∧ a.getD j default = b.getD j default)) (fun i=>a.length - i) (0) (⟨Nat.zero_le _,cg⟩) ⟨⟨zy,trivial⟩,trivial⟩ ?_
  rintro i ⟨hi,hI⟩
  refine sx7 ?_;refine qy ?_;refine a6 ?_;refine a7 ?_;refine a8 _ rfl (fun r0=>?_) (fun r0=>?_)
  ·
   have h0:=of_decide_eq_true r0
   try simp only [ty] at h0
   refine aa ?_;refine a7 ?_;refine ab ?_;refine sx7 ?_;(iterate 5 refine qy ?_);refine a6 ?_;refine a7 ?_;refine sx7 ?_;(iterate 4 refine qy ?_);refine a6 ?_
   refine a8 _ rfl (fun r1=>?_) (fun r1=>?_)
   ·
    have h1:=of_decide_eq_true r1
    try simp only [ty] at h1
    refine sx7 ?_;refine qy ?_;refine a6 ?_
    exact hx8 rfl rfl rfl (⟨cci (axc (i:=i) (by omega) (by omega) fun j hj=>(hI j hj).2),trivial⟩)
   ·
    have h1:=of_decide_eq_false r1
    try simp only [ty] at h1
    refine aa ?_;refine sx7 ?_;(iterate 5 refine qy ?_);refine a6 ?_;refine sx7 ?_;(iterate 2 refine qy ?_)
    refine rc rfl rfl rfl rfl rfl rfl ahq (at1 (a.getD i default) (b.getD i default)) (CoL.refl _) rfl rfl ?_;refine qy ?_;refine a6 ?_;refine sx7 ?_;(iterate 2 refine qy ?_);refine a6 ?_
    refine a8 _ rfl (fun r2=>?_) (fun r2=>?_)
    ·
     have h2:=r2
     have h2:=of_decide_eq_false (av h2)
     try simp only [ty] at h2
     refine sx7 ?_;(iterate 2 refine qy ?_);refine a6 ?_
     exact hx8 rfl rfl rfl (⟨cci (av5 (i:=i) (by omega) (by omega) (fun j hj=>(hI j hj).2) (by assumption)),trivial⟩)
    ·
     have h2:=r2
     have h2:=of_decide_eq_true (aw h2)
     try simp only [ty] at h2
     refine aa ?_;refine gy ?_;(iterate 2 refine qy ?_);refine a6 ?_;refine ⟨i + 1, ?_, ?_, ?_⟩
     · exact ⟨by show i + 1 ≤ _;omega,br hI (⟨by omega,b0y (by assumption)⟩)⟩
     · first | omega | (dsimp only;omega)
     · exact ⟨⟨zy,c9,c9,c9,c9,trivial⟩,trivial⟩
  ·
   have h0:=of_decide_eq_false r0
   try simp only [ty] at h0
   refine ak ?_;refine ⟨(), ?_, ?_⟩
   · exact fun j hj=>hI j (by omega)
   · exact ⟨⟨c9,c9,trivial⟩,trivial⟩
 · rintro _ hj
   refine a7 ?_;refine sx7 ?_;(iterate 5 refine qy ?_);refine a6 ?_;refine a8 _ rfl (fun r3=>?_) (fun r3=>?_)
   ·
    have h3:=of_decide_eq_true r3
    try simp only [ty] at h3
    refine sx7 ?_;refine qy ?_;refine a6 ?_
    exact hx8 rfl rfl rfl (⟨cci (aub (by omega) fun j h=>(hj j h).2),trivial⟩)
   ·
    have h3:=of_decide_eq_false r3
    try simp only [ty] at h3
    refine aa ?_;refine sx7 ?_;refine qy ?_;refine a6 ?_
    exact hx8 rfl rfl rfl (⟨cci (awd (azq fun j h=>(hj j h).1) (by omega) fun j h=>(hj j h).2),trivial⟩)
theorem ahl:goodFn Tryz.prog 209:=⟨Tryz.f209,Tryz.func209,by kernel_rfl,by kernel_rfl⟩
theorem atq (a b:Rw):ai Tryz.prog 209 [pZ a,pZ b] (ao [pB (ltZ a b)]):=by
 refine ah (nt:=41) ae Tryz.func209 rfl rfl l9 ?_;refine a7 ?_
 refine d9 0 rfl fun hn0=>?_
 refine d9 1 rfl fun hn1=>?_
 refine gy ?_;refine qy ?_;refine a6 ?_
 refine dm (ι:=Unit) ⟨[(0,some _),(1,some _)],[]⟩ ⟨⟨c9,c9,trivial⟩,trivial⟩ (fun _i=>⟨[],[]⟩) (fun _i=>∀ j,j < a.length → j < b.length → a.getD j default = b.getD j default) ?_ ?_
 ·
  refine sx7 ?_;refine qy ?_;refine a6 ?_;refine ab ?_
  refine aj (ι:=Nat) ⟨[(0,some _),(1,some _)],[]⟩ ⟨⟨c9,c9,trivial⟩,trivial⟩ (fun i=>⟨[(5,some (vI i))],[]⟩) (fun i=>i ≤ a.length ∧ (∀ j,j < i → j < b.length ∧ a.getD j default = b.getD j default)) (fun i=>a.length - i) (0) (⟨Nat.zero_le _,cg⟩) ⟨⟨zy,trivial⟩,trivial⟩ ?_
  rintro i ⟨hi,hI⟩
  refine a7 ?_;refine sx7 ?_;(iterate 5 refine qy ?_);refine b4 rfl rfl (fun r0=>?_) (fun r0=>?_)
  ·
   have h0:=of_decide_eq_true r0
   try simp only [ty] at h0
   (iterate 4 refine qy ?_ (hg:=(gtt r0)));refine qy ?_;refine a6 ?_;refine a8 _ rfl (fun r1=>?_) (fun r1=>?_)
   ·
    have h1:=r1
    have h1:=df r0 h1
    have h1:=of_decide_eq_true h1
    try simp only [ty] at h1
    refine aa ?_;refine a7 ?_;refine ab ?_;refine a7 ?_;refine ax (E:=bf) ae ar [0,1,2,3,4,5,6,7,8] ?_;(iterate 9 refine qy ?_);refine a6 ?_;refine ⟨by kernel_rfl, ?_⟩
    refine a8 _ rfl (fun r2=>?_) (fun r2=>?_)
    ·
     have h2:=r2
     have h2:=of_decide_eq_false (av h2)
     try simp only [ty] at h2
     refine a7 ?_;refine ax (E:=bf) ae ar [0,1,2,3,4,5,6,7,8,9] ?_;(iterate 10 refine qy ?_);refine a6 ?_;refine ⟨by kernel_rfl, ?_⟩
     exact hx8 rfl rfl rfl (⟨ccb (acb (i:=i) (by omega) (by omega) (fun j h=>(hI j h).2) (by assumption)).symm,trivial⟩)
    ·
     have h2:=r2
     have h2:=of_decide_eq_true (aw h2)
     try simp only [ty] at h2
     refine aa ?_;refine gy ?_;(iterate 3 refine qy ?_);refine a6 ?_;refine ⟨i + 1, ?_, ?_, ?_⟩
     · exact ⟨by show i + 1 ≤ _;omega,br hI (⟨by omega,by assumption⟩)⟩
     · first | omega | (dsimp only;omega)
     · exact ⟨⟨zy,c9,c9,trivial⟩,trivial⟩
   ·
    have h1:=r1
    have h1:=df r0 h1
    have h1:=of_decide_eq_false h1
    try simp only [ty] at h1
    refine ak ?_;refine ⟨(), ?_, ?_⟩
    · exact fun j h1 h2=>(hI j (by omega)).2
    · exact ⟨⟨c9,c9,trivial⟩,trivial⟩
  ·
   have h0:=of_decide_eq_false r0
   try simp only [ty] at h0
   (iterate 4 refine k9 (gft r0) ?_);refine rq rfl rfl rfl rfl rfl ?_ (hp:=r0);refine a6 ?_;refine a8 _ rfl (fun e=>by cases e) (fun _=>?_);refine ak ?_;refine ⟨(), ?_, ?_⟩
   · exact fun j h1 h2=>(hI j (by omega)).2
   · exact ⟨⟨c9,c9,trivial⟩,trivial⟩
 · rintro _ hj
   refine sx7 ?_;(iterate 6 refine qy ?_);refine a6 ?_
   exact hx8 rfl rfl rfl (⟨ccb (by rw [a1o hj,decide_eq_decide];omega),trivial⟩)
end Go.Hx
end
section
namespace Go.Hx
open Go.Proofs
set_option maxRecDepth 100000
abbrev bxZ (a:PV):PV:=.vp 1 fun j=>[a].getD j .any
theorem aty:goodFn Tryz.prog 151:=⟨Tryz.f151,Tryz.func151,by kernel_rfl,by kernel_rfl⟩
theorem ay4 (r row:Rw):ai Tryz.prog 151 [pZ r,pP (bxZ (zl row))] (ao [pB (decide (r = row))]):=by
 refine ah (nt:=7) ae Tryz.func151 rfl rfl l9 ?_;refine sx7 ?_;refine qy ?_;refine a6 ?_;refine sx7 ?_;(iterate 2 refine qy ?_);refine rc rfl rfl rfl rfl rfl rfl a73 (aph _ _) (CoL.refl _) rfl rfl ?_
 refine qy ?_;refine a6 ?_
 exact hx8 rfl rfl rfl (CoL.refl _)
theorem aln:goodFn Tryz.prog 99:=⟨Tryz.f99,Tryz.func99,by kernel_rfl,by kernel_rfl⟩
theorem asw (n:Int) (l:List Rw) (row:Rw):ai Tryz.prog 99 [pT n l,pZ row] (ao [pB (l.any fun r=>decide (r = row))]):=by
 refine ah (nt:=9) ae Tryz.func99 rfl rfl l9 ?_;refine sx7 ?_;refine m9 0 ?_;refine m9 1 ?_;refine qy ?_;refine a6 ?_;refine a7 ?_;refine l7 3 rfl rfl rfl ?_;refine gy ?_
 (iterate 3 refine qy ?_);refine rc rfl rfl rfl rfl rfl rfl axb (b31 l 151 1 (fun i=>[bxZ (zl row)].getD i .any) (fun r=>decide (r = row)) aty (fun r=>ay4 r row)) (CoL.refl _) rfl rfl ?_;refine qy ?_
 refine a6 ?_
 exact hx8 rfl rfl rfl (CoL.refl _)
theorem ax1:goodFn Tryz.prog 233:=⟨Tryz.f233,Tryz.func233,by kernel_rfl,by kernel_rfl⟩
theorem b3b (x:Int):ai Tryz.prog 233 [pI x] (ao [pB (decide (x < 0))]):=by
 refine ah (nt:=5) ae Tryz.func233 rfl rfl l9 ?_;refine sx7 ?_;refine qy ?_;refine a6 ?_;refine sx7 ?_;(iterate 3 refine qy ?_);refine a6 ?_
 exact hx8 rfl rfl rfl (CoL.refl _)
theorem xe:goodFn Tryz.prog 176:=⟨Tryz.f176,Tryz.func176,by kernel_rfl,by kernel_rfl⟩
theorem xl (a b:Rw) (s:AS) (h:b.length = a.length) (h16:a.length ≤ 16):ai Tryz.prog 176 [pZ a,pZ b,pA s] (ao [pB (j0 a b s)]):=by
 refine ah (nt:=28) ae Tryz.func176 rfl rfl l9 ?_;refine a7 ?_
 refine d9 0 rfl fun hn0=>?_
 refine d9 1 rfl fun hn1=>?_
 refine gy ?_;refine qy ?_;refine a6 ?_;refine dm (ι:=Unit) ⟨[],[]⟩ ⟨trivial,trivial⟩ (fun _i=>⟨[],[]⟩) (fun _i=>j0 a b s = true) ?_ ?_
 ·
  refine sx7 ?_;refine qy ?_;refine a6 ?_;refine ab ?_
  refine aj (ι:=Nat) ⟨[(0,some _),(1,some _),(2,some _)],[]⟩ ⟨⟨c9,c9,c9,trivial⟩,trivial⟩ (fun i=>⟨[(7,some (vI i))],[]⟩) (fun i=>i ≤ a.length ∧ (∀ j:Nat,j < i → (c4 s (j:Int) = true → a.getD j default = b.getD j default))) (fun i=>a.length - i) (0) (⟨Nat.zero_le _,cg⟩) ⟨⟨zy,trivial⟩,trivial⟩ ?_
  rintro i ⟨hi,hI⟩
  refine a7 ?_;refine sx7 ?_;(iterate 4 refine qy ?_);refine a6 ?_;refine a8 _ rfl (fun r0=>?_) (fun r0=>?_)
  ·
   have h0:=of_decide_eq_true r0
   try simp only [ty] at h0
   refine aa ?_;refine a7 ?_;refine ab ?_;refine a7 ?_;refine ax (E:=bf) ae ar [0,1,2,3,4,5,6,7,8,9,10,11,12,13] ?_;(iterate 2 refine qy ?_)
   refine rc rfl rfl rfl rfl rfl rfl tj (a89 s (i:Int)) (CoL.refl _) rfl rfl ?_;refine qy ?_;refine b4 rfl rfl (fun r1=>?_) (fun r1=>?_)
   ·
    have h1:=r1
    (iterate 9 refine qy ?_ (hg:=(gtt r1)));refine qy ?_;refine a6 ?_;refine ⟨by kernel_rfl, ?_⟩;refine a8 _ rfl (fun r2=>?_) (fun r2=>?_)
    ·
     have h2:=r2
     have h2:=df r1 h2
     have h2:=of_decide_eq_false (av h2)
     try simp only [ty] at h2
     refine sx7 ?_;refine qy ?_;refine a6 ?_
     exact hx8 rfl rfl rfl (⟨ccb (akb (i:=i) (by omega) (by simp_all) (by simp_all)).symm,trivial⟩)
    ·
     have h2:=r2
     have h2:=df r1 h2
     have h2:=of_decide_eq_true (aw h2)
     try simp only [ty] at h2
     refine aa ?_;refine gy ?_;(iterate 3 refine qy ?_);refine a6 ?_;refine ⟨i + 1, ?_, ?_, ?_⟩
     · exact ⟨by show i + 1 ≤ _;omega,br hI (fun hh=>by simp_all)⟩
     · first | omega | (dsimp only;omega)
     · exact ⟨⟨zy,c9,c9,c9,trivial⟩,trivial⟩
   ·
    have h1:=r1
    (iterate 9 refine k9 (gft r1) ?_);refine rq rfl rfl rfl rfl rfl ?_ (hp:=r1);refine a6 ?_;refine ⟨by kernel_rfl, ?_⟩;refine a8 _ rfl (fun e=>by cases e) (fun _=>?_);refine aa ?_;refine gy ?_
    (iterate 3 refine qy ?_);refine a6 ?_;refine ⟨i + 1, ?_, ?_, ?_⟩
    · exact ⟨by show i + 1 ≤ _;omega,br hI (fun hh=>by simp_all)⟩
    · first | omega | (dsimp only;omega)
    · exact ⟨⟨zy,c9,c9,c9,trivial⟩,trivial⟩
  ·
   have h0:=of_decide_eq_false r0
   try simp only [ty] at h0
   refine ak ?_;refine ⟨(), ?_, ?_⟩
   · exact y8 fun j hj=>hI j (by omega)
   · exact ⟨trivial,trivial⟩
 · rintro _ hj
   refine sx7 ?_;refine qy ?_;refine a6 ?_
   exact hx8 rfl rfl rfl (⟨ccb hj.symm,trivial⟩)
theorem xc:goodFn Tryz.prog 216:=⟨Tryz.f216,Tryz.func216,by kernel_rfl,by kernel_rfl⟩
theorem a0n (a b:Rw) (s:AS) (h:b.length = a.length) (h16:a.length ≤ 16):ai Tryz.prog 216 [pZ a,pZ b,pA s] (ao [pB (j0 a b s)]):=by
 refine ah (nt:=30) ae Tryz.func216 rfl rfl l9 ?_;refine a7 ?_
 refine d9 0 rfl fun hn0=>?_
 refine d9 1 rfl fun hn1=>?_
 refine gy ?_;refine qy ?_;refine a6 ?_;refine dm (ι:=Unit) ⟨[],[]⟩ ⟨trivial,trivial⟩ (fun _i=>⟨[],[]⟩) (fun _i=>j0 a b s = true) ?_ ?_
 ·
  refine sx7 ?_;(iterate 3 refine qy ?_);refine a6 ?_;refine ab ?_
  refine aj (ι:=Nat) ⟨[(0,some _),(1,some _),(2,some _),(9,some _)],[]⟩ ⟨⟨c9,c9,c9,c9,trivial⟩,trivial⟩ (fun i=>⟨[(10,some (vI i))],[]⟩) (fun i=>i ≤ a.length ∧ (∀ j:Nat,j < i → (c4 s (j:Int) = true → a.getD j default = b.getD j default))) (fun i=>a.length - i) (0) (⟨Nat.zero_le _,cg⟩) ⟨⟨zy,trivial⟩,trivial⟩ ?_
  rintro i ⟨hi,hI⟩
  refine sx7 ?_;refine qy ?_;refine a6 ?_;refine a7 ?_;refine a8 _ rfl (fun r0=>?_) (fun r0=>?_)
  ·
   have h0:=of_decide_eq_true r0
   try simp only [ty] at h0
   refine aa ?_;refine a7 ?_;refine ab ?_;refine sx7 ?_;(iterate 2 refine qy ?_);refine a6 ?_;refine a7 ?_
   refine ax (E:=bf) ae ar [0,1,2,3,4,5,6,7,8,9,10,11,12,13,14,15] ?_;(iterate 6 refine qy ?_);refine b4 rfl rfl (fun r1=>?_) (fun r1=>?_)
   ·
    have h1:=of_decide_eq_true r1
    try simp only [ty] at h1
    (iterate 9 refine qy ?_ (hg:=(gtt r1)));refine qy ?_;refine a6 ?_;refine ⟨by kernel_rfl, ?_⟩;refine a8 _ rfl (fun r2=>?_) (fun r2=>?_)
    ·
     have h2:=r2
     have h2:=df r1 h2
     have h2:=of_decide_eq_false (av h2)
     try simp only [ty] at h2
     refine sx7 ?_;refine qy ?_;refine a6 ?_
     exact hx8 rfl rfl rfl (⟨ccb (akb (i:=i) (by omega) ((pl (by omega)).1 (by assumption)) (by assumption)).symm,trivial⟩)
    ·
     have h2:=r2
     have h2:=df r1 h2
     have h2:=of_decide_eq_true (aw h2)
     try simp only [ty] at h2
     refine aa ?_;refine gy ?_;(iterate 2 refine qy ?_);refine a6 ?_;refine ⟨i + 1, ?_, ?_, ?_⟩
     · exact ⟨by show i + 1 ≤ _;omega,br hI (fun hh=>by first | (exact absurd ((pl (by omega)).2 hh) (by assumption)) | assumption)⟩
     · first | omega | (dsimp only;omega)
     · exact ⟨⟨zy,c9,c9,c9,c9,trivial⟩,trivial⟩
   ·
    have h1:=of_decide_eq_false r1
    try simp only [ty] at h1
    (iterate 9 refine k9 (gft r1) ?_);refine rq rfl rfl rfl rfl rfl ?_ (hp:=r1);refine a6 ?_;refine ⟨by kernel_rfl, ?_⟩;refine a8 _ rfl (fun e=>by cases e) (fun _=>?_);refine aa ?_;refine gy ?_
    (iterate 2 refine qy ?_);refine a6 ?_;refine ⟨i + 1, ?_, ?_, ?_⟩
    · exact ⟨by show i + 1 ≤ _;omega,br hI (fun hh=>by first | (exact absurd ((pl (by omega)).2 hh) (by assumption)) | assumption)⟩
    · first | omega | (dsimp only;omega)
    · exact ⟨⟨zy,c9,c9,c9,c9,trivial⟩,trivial⟩
  ·
   have h0:=of_decide_eq_false r0
   try simp only [ty] at h0
   refine ak ?_;refine ⟨(), ?_, ?_⟩
   · exact y8 fun j hj=>hI j (by omega)
   · exact ⟨trivial,trivial⟩
 · rintro _ hj
   refine sx7 ?_;refine qy ?_;refine a6 ?_
   exact hx8 rfl rfl rfl (⟨ccb hj.symm,trivial⟩)
end Go.Hx
end
section
namespace Go.Hx
def c8 (n:Int) (l m:List Fd):Int:=if dl n l = 0 then (if 64 < m.length then 3 else if m.all (inU n) = true then 0 else 1) else dl n l
section
variable {n:Int} {l m:List Fd}
theorem amt (h:¬ dl n l = 0):dl n l = c8 n l m:=by unfold c8;rw [if_neg h]
theorem aly (h:dl n l = 0) (h2:64 < m.length):3 = c8 n l m:=by unfold c8;rw [if_pos h,if_pos h2]
theorem ach {i:Nat} (h:dl n l = 0) (h2:¬ 64 < m.length) (hi:i < m.length) (hu:¬ inU n (m.getD i default) = true):1 = c8 n l m:=by
 unfold c8
 rw [if_pos h,if_neg h2,if_neg (fun e=>absurd (a5b (l:=m) (p:=inU n) hi (Bool.eq_false_iff.2 hu)) (by rw [e];decide))]
theorem ab5 (h:dl n l = 0) (h2:¬ 64 < m.length) (hu:∀ j,j < m.length → inU n (m.getD j default) = true):0 = c8 n l m:=by
 unfold c8
 rw [if_pos h,if_neg h2,if_pos (aap hu)]
theorem k7 (h:c8 n l m = 0):0 ≤ n ∧ n ≤ 16 ∧ l.length ≤ 64 ∧ l.all (inU n) = true ∧ m.length ≤ 64 ∧ m.all (inU n) = true:=by
 unfold c8 at h
 by_cases h1:dl n l = 0
 · rw [if_pos h1] at h
   obtain ⟨a,b,c,d⟩:=a6z h1
   by_cases h2:64 < m.length
   · rw [if_pos h2] at h;omega
   · rw [if_neg h2] at h
     by_cases h3:m.all (inU n) = true
     · exact ⟨a,b,c,d,by omega,h3⟩
     · rw [if_neg h3] at h;omega
 · rw [if_neg h1] at h;exact absurd h h1
end
theorem a0p {n:Int} {l:List Rw} {i:Nat} (h1:((l.getD i default).length:Int) = n) (h2:(l.getD i default).any (fun x=>decide (x < 0)) = false) (h3:i = 0 ∨ ltZ (l.getD (i - 1) default) (l.getD i default) = true):ll n l i = true:=by
 unfold ll
 rw [decide_eq_true h1,h2]
 rcases h3 with h3 | h3
 · rw [decide_eq_true h3];rfl
 · rw [h3];simp
theorem a1t {n:Int} {l:List Rw} {i:Nat} (h:¬ ((l.getD i default).length:Int) = n):ll n l i = false:=by unfold ll;rw [decide_eq_false h];rfl
theorem t8 {n:Int} {l:List Rw} {i:Nat} (h:(l.getD i default).any (fun x=>decide (x < 0)) = true):ll n l i = false:=by unfold ll;rw [h];simp
theorem y4 {n:Int} {l:List Rw} {i:Nat} (h0:0 < i) (h:¬ ltZ (l.getD (i - 1) default) (l.getD i default) = true):ll n l i = false:=by
 unfold ll
 rw [Bool.eq_false_iff.2 h,decide_eq_false (by omega:¬ i = 0)]
 simp
theorem yk {a b:Rw}:nc a b < 0 ↔ ltZ a b = true:=by
 unfold nc
 by_cases e:a = b
 · subst e
   rw [if_pos rfl,qh]
   exact ⟨fun h=>absurd h (by omega),fun h=>by cases h⟩
 · rw [if_neg e]
   by_cases h:ltZ a b = true
   · rw [if_pos h];exact ⟨fun _=>h,fun _=>by omega⟩
   · rw [if_neg h];exact ⟨fun h=>absurd h (by omega),fun h2=>absurd h2 h⟩
end Go.Hx
end
section
namespace Go.Hx
open Go.Proofs
set_option maxRecDepth 100000
theorem a1r:goodFn Tryz.prog 105:=⟨Tryz.f105,Tryz.func105,by kernel_rfl,by kernel_rfl⟩
theorem a1p (n:Int) (s:AS):ai Tryz.prog 105 [pI n,pA s] (ao [pB (decide (sub s (af n)))]):=by
 refine ah (nt:=9) ae Tryz.func105 rfl rfl l9 ?_;refine sx7 ?_;refine qy ?_;refine a6 ?_;refine sx7 ?_;(iterate 2 refine qy ?_);refine rc rfl rfl rfl rfl rfl rfl kx (l6 n) (CoL.refl _) rfl rfl ?_
 refine rc rfl rfl rfl rfl rfl rfl uf (z7 _ _) (CoL.refl _) rfl rfl ?_;refine qy ?_;refine a6 ?_
 exact hx8 rfl rfl rfl (CoL.refl _)
theorem a6s:goodFn Tryz.prog 91:=⟨Tryz.f91,Tryz.func91,by kernel_rfl,by kernel_rfl⟩
theorem a1j (n:Int) (l m:List Fd):ai Tryz.prog 91 [pI n,pP (fdl l),pP (fdl m)] (ao [pI (c8 n l m)]):=by
 refine ah (nt:=34) ae Tryz.func91 rfl rfl l9 ?_;refine a7 ?_
 refine d9 2 rfl fun hn2=>?_
 refine gy ?_;refine qy ?_;refine a6 ?_;refine a7 ?_;refine sx7 ?_;(iterate 2 refine qy ?_);refine rc rfl rfl rfl rfl rfl rfl ayo (b00 n l) (CoL.refl _) rfl rfl ?_;refine qy ?_;refine a6 ?_;refine sx7 ?_
 (iterate 2 refine qy ?_);refine a6 ?_;refine a8 _ rfl (fun r0=>?_) (fun r0=>?_)
 ·
  have h0:=r0
  have h0:=of_decide_eq_false (av h0)
  try simp only [ty] at h0
  refine sx7 ?_;(iterate 2 refine qy ?_);refine a6 ?_
  exact hx8 rfl rfl rfl (⟨cci (amt (by assumption)),trivial⟩)
 ·
  have h0:=r0
  have h0:=of_decide_eq_true (aw h0)
  try simp only [ty] at h0
  have hv0:dl n l = 0:=by assumption
  obtain ⟨hn0,hn16,_,_⟩:=a6z hv0
  refine aa ?_;refine a7 ?_;refine sx7 ?_;(iterate 3 refine qy ?_);refine a6 ?_;refine a8 _ rfl (fun r1=>?_) (fun r1=>?_)
  ·
   have h1:=of_decide_eq_true r1
   try simp only [ty] at h1
   refine sx7 ?_;refine qy ?_;refine a6 ?_
   exact hx8 rfl rfl rfl (⟨cci (aly hv0 (by omega)),trivial⟩)
  ·
   have h1:=of_decide_eq_false r1
   try simp only [ty] at h1
   refine aa ?_;refine dm (ι:=Unit) ⟨[],[]⟩ ⟨trivial,trivial⟩ (fun _i=>⟨[],[]⟩) (fun _i=>∀ j,j < m.length → inU n (m.getD j default) = true) ?_ ?_
   ·
    refine sx7 ?_;(iterate 3 refine qy ?_);refine a6 ?_;refine ab ?_
    refine aj (ι:=Nat) ⟨[(0,some _),(19,some _),(20,some _)],[]⟩ ⟨⟨c9,c9,c9,trivial⟩,trivial⟩ (fun i=>⟨[(21,some (vI i))],[]⟩) (fun i=>i ≤ m.length ∧ (∀ j,j < i → inU n (m.getD j default) = true)) (fun i=>m.length - i) (0) (⟨Nat.zero_le _,cg⟩) ⟨⟨zy,trivial⟩,trivial⟩ ?_
    rintro i ⟨hi,hI⟩
    refine sx7 ?_;refine qy ?_;refine a6 ?_;refine a7 ?_;refine a8 _ rfl (fun r2=>?_) (fun r2=>?_)
    ·
     have h2:=of_decide_eq_true r2
     try simp only [ty] at h2
     refine aa ?_;refine a7 ?_;refine ab ?_;refine sx7 ?_;(iterate 2 refine qy ?_);refine m9 0 ?_;refine s9 ?_;refine a6 ?_;refine sx7 ?_;(iterate 8 refine qy ?_);refine a6 ?_
     refine a8 _ rfl (fun r3=>?_) (fun r3=>?_)
     ·
      have h3:=r3
      have h3:=of_decide_eq_false (av h3)
      try simp only [ty] at h3
      refine sx7 ?_;refine qy ?_;refine a6 ?_
      exact hx8 rfl rfl rfl (⟨cci (ach (i:=i) hv0 (by omega) (by omega) (fun e=>absurd (a23.2 e) (by assumption))),trivial⟩)
     ·
      have h3:=r3
      have h3:=of_decide_eq_true (aw h3)
      try simp only [ty] at h3
      refine aa ?_;refine gy ?_;(iterate 2 refine qy ?_);refine a6 ?_;refine ⟨i + 1, ?_, ?_, ?_⟩
      · exact ⟨by show i + 1 ≤ _;omega,br hI (a23.1 (by assumption))⟩
      · first | omega | (dsimp only;omega)
      · exact ⟨⟨zy,c9,c9,c9,trivial⟩,trivial⟩
    ·
     have h2:=of_decide_eq_false r2
     try simp only [ty] at h2
     refine ak ?_;refine ⟨(), ?_, ?_⟩
     · exact fun j hj=>hI j (by omega)
     · exact ⟨trivial,trivial⟩
   · rintro _ hj
     refine sx7 ?_;refine qy ?_;refine a6 ?_
     exact hx8 rfl rfl rfl (⟨cci (ab5 hv0 (by omega) hj),trivial⟩)
theorem x8:goodFn Tryz.prog 104:=⟨Tryz.f104,Tryz.func104,by kernel_rfl,by kernel_rfl⟩
theorem uc (n:Int) (l m:List Fd):ai Tryz.prog 104 [pI n,pP (fdl l),pP (fdl m)] (ao [pI (c8 n l m)]):=by
 refine ah (nt:=42) ae Tryz.func104 rfl rfl l9 ?_;refine a7 ?_
 refine d9 2 rfl fun hn2=>?_
 refine gy ?_;refine qy ?_;refine a6 ?_;refine a7 ?_;refine sx7 ?_;(iterate 2 refine qy ?_);refine rc rfl rfl rfl rfl rfl rfl b15 (aw1 n l) (CoL.refl _) rfl rfl ?_;refine qy ?_;refine a6 ?_;refine sx7 ?_
 (iterate 2 refine qy ?_);refine a6 ?_;refine a8 _ rfl (fun r0=>?_) (fun r0=>?_)
 ·
  have h0:=r0
  have h0:=of_decide_eq_false (av h0)
  try simp only [ty] at h0
  refine sx7 ?_;(iterate 2 refine qy ?_);refine a6 ?_
  exact hx8 rfl rfl rfl (⟨cci (amt (by assumption)),trivial⟩)
 ·
  have h0:=r0
  have h0:=of_decide_eq_true (aw h0)
  try simp only [ty] at h0
  have hv0:dl n l = 0:=by assumption
  obtain ⟨hn0,hn16,_,_⟩:=a6z hv0
  refine aa ?_;refine a7 ?_;refine sx7 ?_;(iterate 3 refine qy ?_);refine a6 ?_;refine a8 _ rfl (fun r1=>?_) (fun r1=>?_)
  ·
   have h1:=of_decide_eq_true r1
   try simp only [ty] at h1
   refine sx7 ?_;refine qy ?_;refine a6 ?_
   exact hx8 rfl rfl rfl (⟨cci (aly hv0 (by omega)),trivial⟩)
  ·
   have h1:=of_decide_eq_false r1
   try simp only [ty] at h1
   refine aa ?_;refine dm (ι:=Unit) ⟨[],[]⟩ ⟨trivial,trivial⟩ (fun _i=>⟨[],[]⟩) (fun _i=>∀ j,j < m.length → inU n (m.getD j default) = true) ?_ ?_
   ·
    refine sx7 ?_;refine qy ?_;refine a6 ?_;refine ab ?_
    refine aj (ι:=Nat) ⟨[(0,some _),(2,some _)],[]⟩ ⟨⟨c9,c9,trivial⟩,trivial⟩ (fun i=>⟨[(8,some (vI i))],[]⟩) (fun i=>i ≤ m.length ∧ (∀ j,j < i → inU n (m.getD j default) = true)) (fun i=>m.length - i) (0) (⟨Nat.zero_le _,cg⟩) ⟨⟨zy,trivial⟩,trivial⟩ ?_
    rintro i ⟨hi,hI⟩
    refine a7 ?_;refine sx7 ?_;(iterate 4 refine qy ?_);refine a6 ?_;refine a8 _ rfl (fun r2=>?_) (fun r2=>?_)
    ·
     have h2:=of_decide_eq_true r2
     try simp only [ty] at h2
     refine aa ?_;refine a7 ?_;refine ab ?_;refine sx7 ?_;(iterate 6 refine qy ?_);refine rc rfl rfl rfl rfl rfl rfl a1r (a1p n _) (CoL.refl _) rfl rfl ?_;(iterate 2 refine qy ?_)
     refine b4 rfl rfl (fun r3=>?_) (fun r3=>?_)
     ·
      have h3:=r3
      have h3:=av h3
      (iterate 8 refine k9 (gtf r3) ?_);refine rq rfl rfl rfl rfl rfl ?_ (hp:=r3);refine a6 ?_;refine a8 _ rfl (fun _=>?_) (fun e=>by cases e);refine sx7 ?_;refine qy ?_;refine a6 ?_
      exact hx8 rfl rfl rfl (⟨cci (ach (i:=i) hv0 (by omega) (by omega) (fun e=>by rw [n7 (by omega) (by omega)] at e;simp_all)),trivial⟩)
     ·
      have h3:=r3
      have h3:=aw h3
      (iterate 6 refine qy ?_ (hg:=(gff r3)));refine rc rfl rfl rfl rfl rfl rfl a1r (a1p n _) (CoL.refl _) rfl (gff r3) ?_;refine qy ?_ (hg:=(gff r3));refine qy ?_;refine a6 ?_
      refine a8 _ rfl (fun r4=>?_) (fun r4=>?_)
      ·
       have h4:=r4
       have h4:=bg r3 h4
       have h4:=av h4
       refine sx7 ?_;refine qy ?_;refine a6 ?_
       exact hx8 rfl rfl rfl (⟨cci (ach (i:=i) hv0 (by omega) (by omega) (fun e=>by rw [n7 (by omega) (by omega)] at e;simp_all)),trivial⟩)
      ·
       have h4:=r4
       have h4:=bg r3 h4
       have h4:=aw h4
       refine aa ?_;refine gy ?_;(iterate 3 refine qy ?_);refine a6 ?_;refine ⟨i + 1, ?_, ?_, ?_⟩
       · exact ⟨by show i + 1 ≤ _;omega,br hI ((n7 (by omega) (by omega)).2 (by simp_all))⟩
       · first | omega | (dsimp only;omega)
       · exact ⟨⟨zy,c9,c9,trivial⟩,trivial⟩
    ·
     have h2:=of_decide_eq_false r2
     try simp only [ty] at h2
     refine ak ?_;refine ⟨(), ?_, ?_⟩
     · exact fun j hj=>hI j (by omega)
     · exact ⟨trivial,trivial⟩
   · rintro _ hj
     refine sx7 ?_;refine qy ?_;refine a6 ?_
     exact hx8 rfl rfl rfl (⟨cci (ab5 hv0 (by omega) hj),trivial⟩)
end Go.Hx
end

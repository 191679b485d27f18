/- A part of the proof: X1 X2 Ch3 X3 X4 Ch4 X5. -/
import Derived.Test.YtkkenjdfbojdlaaGreatDoorFx25
set_option linter.all false
set_option maxRecDepth 100000
set_option maxHeartbeats 1000000
namespace Go.Hx
section
open Go.Proofs
theorem b2e:goodFn Tryz.prog 276:=wgx Tryz.func276
theorem bch (l:List Int) (g k:Nat) (caps:Nat → PV) (V:Int → Bool) (hg:goodFn Tryz.prog g) (hV:∀ x,af Tryz.prog g (pI x :: gn caps k 0) (aj [pB (V x)])):af Tryz.prog 276 [pP (zl l),pP (.fn g k caps)] (aj [pI (idx V l)]):=by
 refine a8 (nt:=19) a7 Tryz.func276 rfl rfl l9 ?_;refine d8 ?_
 refine dg 0 rfl fun hn=>?_
 refine w_3 ?_;refine d4 (ι:=Unit) ⟨[],[]⟩ ⟨trivial,trivial⟩ (fun _i=>⟨[],[]⟩) (fun _i=>idx V l = -1) ?_ ?_
 ·
  refine w_7 ?_
  refine ah (ι:=Nat) ⟨[(0,some _),(1,some _),(7,some _)],[]⟩ ⟨⟨c9,c9,c9,trivial⟩,trivial⟩ (fun i=>⟨[(8,some (vI i))],[]⟩) (fun i=>i ≤ l.length ∧ (∀ j,j < i → V (l.getD j default) = false)) (fun i=>l.length - i) (0) (⟨Nat.zero_le _,cr⟩) ⟨⟨zy,trivial⟩,trivial⟩ ?_
  rintro i ⟨hi,hI⟩
  refine w_5 ?_;refine a6 _ rfl (fun r0=>?_) (fun r0=>?_)
  ·
   have h0:=ae r0
   try simp only [ty] at h0
   refine mr ?_;refine rc rfl rfl rfl rfl rfl rfl hg (hV (l.getD i default)) (CoL.refl _) rfl rfl ?_;refine ax ?_;refine a6 _ rfl (fun r1=>?_) (fun r1=>?_)
   ·
    have h1:=r1
    refine w_5 ?_
    exact hx8 rfl rfl rfl (⟨cci (qt (i:=i) (by omega) hI h1).symm,trivial⟩)
   have h1:=r1
   refine w_5 ?_;refine ⟨i + 1, ?_, ?_, ?_⟩
   · exact ⟨by show i + 1 ≤ _;omega,bz hI (h1)⟩
   · first | omega | (dsimp only;omega)
   exact ⟨⟨zy,c9,c9,c9,trivial⟩,trivial⟩
  have h0:=aa r0
  try simp only [ty] at h0
  refine fe ?_;refine ⟨(), ?_, ?_⟩
  · exact re fun j hj=>hI j (by omega)
  exact ⟨trivial,trivial⟩
 rintro _ hj
 refine w_4 ?_
 exact hx8 rfl rfl rfl (⟨cci hj.symm,trivial⟩)
theorem b14:goodFn Tryz.prog 202:=wgx Tryz.func202
theorem bc6 (l:List Rw) (g k:Nat) (caps:Nat → PV) (V:Rw → Bool) (hg:goodFn Tryz.prog g) (hV:∀ x,af Tryz.prog g (pZ x :: gn caps k 0) (aj [pB (V x)])):af Tryz.prog 202 [pP (rl l),pP (.fn g k caps)] (aj [pI (idx V l)]):=by
 refine a8 (nt:=19) a7 Tryz.func202 rfl rfl l9 ?_;refine d8 ?_
 refine dg 0 rfl fun hn=>?_
 refine w_3 ?_;refine d4 (ι:=Unit) ⟨[],[]⟩ ⟨trivial,trivial⟩ (fun _i=>⟨[],[]⟩) (fun _i=>idx V l = -1) ?_ ?_
 ·
  refine w_7 ?_
  refine ah (ι:=Nat) ⟨[(0,some _),(1,some _),(7,some _)],[]⟩ ⟨⟨c9,c9,c9,trivial⟩,trivial⟩ (fun i=>⟨[(8,some (vI i))],[]⟩) (fun i=>i ≤ l.length ∧ (∀ j,j < i → V (l.getD j default) = false)) (fun i=>l.length - i) (0) (⟨Nat.zero_le _,cr⟩) ⟨⟨zy,trivial⟩,trivial⟩ ?_
  rintro i ⟨hi,hI⟩
  refine w_5 ?_;refine a6 _ rfl (fun r0=>?_) (fun r0=>?_)
  ·
   have h0:=ae r0
   try simp only [ty] at h0
   refine mr ?_;refine rc rfl rfl rfl rfl rfl rfl hg (hV (l.getD i default)) (CoL.refl _) rfl rfl ?_;refine ax ?_;refine a6 _ rfl (fun r1=>?_) (fun r1=>?_)
   ·
    have h1:=r1
    refine w_5 ?_
    exact hx8 rfl rfl rfl (⟨cci (qt (i:=i) (by omega) hI h1).symm,trivial⟩)
   have h1:=r1
   refine w_5 ?_;refine ⟨i + 1, ?_, ?_, ?_⟩
   · exact ⟨by show i + 1 ≤ _;omega,bz hI (h1)⟩
   · first | omega | (dsimp only;omega)
   exact ⟨⟨zy,c9,c9,c9,trivial⟩,trivial⟩
  have h0:=aa r0
  try simp only [ty] at h0
  refine fe ?_;refine ⟨(), ?_, ?_⟩
  · exact re fun j hj=>hI j (by omega)
  exact ⟨trivial,trivial⟩
 rintro _ hj
 refine w_4 ?_
 exact hx8 rfl rfl rfl (⟨cci hj.symm,trivial⟩)
theorem b2z:goodFn Tryz.prog 250:=wgx Tryz.func250
theorem bb9 (l:List Int) (g k:Nat) (caps:Nat → PV) (V:Int → Bool) (hg:goodFn Tryz.prog g) (hV:∀ x,af Tryz.prog g (pI x :: gn caps k 0) (aj [pB (V x)])):af Tryz.prog 250 [pP (zl l),pP (.fn g k caps)] (aj [pB (l.any V)]):=by
 refine a8 (nt:=9) a7 Tryz.func250 rfl rfl l9 ?_;refine w_8 ?_;refine qcx b2e (bch l g k caps V hg hV) ?_;refine w_3 ?_
 exact hx8 rfl rfl rfl (⟨ccb x8,trivial⟩)
theorem b39:goodFn Tryz.prog 152:=wgx Tryz.func152
theorem bcn (l:List Rw) (g k:Nat) (caps:Nat → PV) (V:Rw → Bool) (hg:goodFn Tryz.prog g) (hV:∀ x,af Tryz.prog g (pZ x :: gn caps k 0) (aj [pB (V x)])):af Tryz.prog 152 [pP (rl l),pP (.fn g k caps)] (aj [pB (l.any V)]):=by
 refine a8 (nt:=9) a7 Tryz.func152 rfl rfl l9 ?_;refine w_8 ?_;refine qcx b14 (bc6 l g k caps V hg hV) ?_;refine w_3 ?_
 exact hx8 rfl rfl rfl (⟨ccb x8,trivial⟩)
theorem ab8:goodFn Tryz.prog 154:=wgx Tryz.func154
theorem au1 (a b:Rw):af Tryz.prog 154 [pZ a,pZ b] (aj [pB (decide (a = b))]):=by
 refine a8 (nt:=26) a7 Tryz.func154 rfl rfl l9 ?_;refine d8 ?_
 refine dg 0 rfl fun hn0=>?_
 refine dg 1 rfl fun hn1=>?_
 refine fc ?_;refine a6 _ rfl (fun r0=>?_) (fun r0=>?_)
 ·
  have h0:=r0
  have h0:=aa (au h0)
  try simp only [ty] at h0
  refine w_4 ?_
  exact hx8 rfl rfl rfl (⟨ccb (decide_eq_false fun e=>by subst e;omega).symm,trivial⟩)
 have h0:=r0
 have h0:=ae (ar h0)
 try simp only [ty] at h0
 refine dn ?_;refine d4 (ι:=Unit) ⟨[],[]⟩ ⟨trivial,trivial⟩ (fun _i=>⟨[],[]⟩) (fun _i=>a = b) ?_ ?_
 ·
  refine w_7 ?_
  refine ah (ι:=Nat) ⟨[(0,some _),(1,some _),(12,some _)],[]⟩ ⟨⟨c9,c9,c9,trivial⟩,trivial⟩ (fun i=>⟨[(13,some (vI i))],[]⟩) (fun i=>i ≤ a.length ∧ (∀ j,j < i → decide (a.getD j default = b.getD j default) = true)) (fun i=>a.length - i) (0) (⟨Nat.zero_le _,cr⟩) ⟨⟨zy,trivial⟩,trivial⟩ ?_
  rintro i ⟨hi,hI⟩
  refine w_5 ?_;refine a6 _ rfl (fun r1=>?_) (fun r1=>?_)
  ·
   have h1:=ae r1
   try simp only [ty] at h1
   refine w_9 ?_;refine bg (E:=bj) a7 aw [0,1,2,3,4,5,6,7,8] ?_;refine dl ?_;refine ⟨by kernel_rfl, ?_⟩;refine a6 _ rfl (fun r2=>?_) (fun r2=>?_)
   ·
    have h2:=r2
    have h2:=aa (au h2)
    try simp only [ty] at h2
    refine w_4 ?_
    exact hx8 rfl rfl rfl (⟨ccb (decide_eq_false fun e=>by subst e;simp_all).symm,trivial⟩)
   have h2:=r2
   have h2:=ae (ar h2)
   try simp only [ty] at h2
   refine w_5 ?_;refine ⟨i + 1, ?_, ?_, ?_⟩
   · exact ⟨by show i + 1 ≤ _;omega,bz hI (decide_eq_true (by simp_all))⟩
   · first | omega | (dsimp only;omega)
   exact ⟨⟨zy,c9,c9,c9,trivial⟩,trivial⟩
  have h1:=aa r1
  try simp only [ty] at h1
  refine fe ?_;refine ⟨(), ?_, ?_⟩
  · exact b9y (by omega) fun j hj=>hI j (by omega)
  exact ⟨trivial,trivial⟩
 rintro _ hj
 refine w_4 ?_
 exact hx8 rfl rfl rfl (⟨ccb (decide_eq_true hj).symm,trivial⟩)
theorem b43:goodFn Tryz.prog 220:=wgx Tryz.func220
theorem ayb (a b:Rw):af Tryz.prog 220 [pZ a,pZ b] (aj [pI (o3 a b)]):=by
 refine a8 (nt:=36) a7 Tryz.func220 rfl rfl l9 ?_;refine d8 ?_
 refine dg 0 rfl fun hn0=>?_
 refine dg 1 rfl fun hn1=>?_
 refine w_3 ?_;refine d4 (ι:=Unit) ⟨[(0,some _),(1,some _)],[]⟩ ⟨⟨c9,c9,trivial⟩,trivial⟩ (fun _i=>⟨[],[]⟩) (fun _i=>∀ j,j < a.length → j < b.length ∧ a.getD j default = b.getD j default) ?_ ?_
 ·
  refine w_7 ?_
  refine ah (ι:=Nat) ⟨[(0,some _),(1,some _),(9,some _),(10,some _)],[]⟩ ⟨⟨c9,c9,c9,c9,trivial⟩,trivial⟩ (fun i=>⟨[(11,some (vI i))],[]⟩) (fun i=>i ≤ a.length ∧ (∀ j,j < i → j < b.length ∧ a.getD j default = b.getD j default)) (fun i=>a.length - i) (0) (⟨Nat.zero_le _,cr⟩) ⟨⟨zy,trivial⟩,trivial⟩ ?_
  rintro i ⟨hi,hI⟩
  refine w_5 ?_;refine a6 _ rfl (fun r0=>?_) (fun r0=>?_)
  ·
   have h0:=ae r0
   try simp only [ty] at h0
   refine a2e ?_;refine a6 _ rfl (fun r1=>?_) (fun r1=>?_)
   ·
    have h1:=ae r1
    try simp only [ty] at h1
    refine w_4 ?_
    exact hx8 rfl rfl rfl (⟨cci (b3m (i:=i) (by omega) (by omega) fun j hj=>(hI j hj).2),trivial⟩)
   have h1:=aa r1
   try simp only [ty] at h1
   refine kf ?_;refine qcx ajx (axz (a.getD i default) (b.getD i default)) ?_;refine w_7 ?_;refine a6 _ rfl (fun r2=>?_) (fun r2=>?_)
   ·
    have h2:=r2
    have h2:=aa (au h2)
    try simp only [ty] at h2
    refine w_5 ?_
    exact hx8 rfl rfl rfl (⟨cci (b0s (i:=i) (by omega) (by omega) (fun j hj=>(hI j hj).2) (by assumption)),trivial⟩)
   have h2:=r2
   have h2:=ae (ar h2)
   try simp only [ty] at h2
   refine w_5 ?_;refine ⟨i + 1, ?_, ?_, ?_⟩
   · exact ⟨by show i + 1 ≤ _;omega,bz hI (⟨by omega,b5a (by assumption)⟩)⟩
   · first | omega | (dsimp only;omega)
   exact ⟨⟨zy,c9,c9,c9,c9,trivial⟩,trivial⟩
  have h0:=aa r0
  try simp only [ty] at h0
  refine fe ?_;refine ⟨(), ?_, ?_⟩
  · exact fun j hj=>hI j (by omega)
  exact ⟨⟨c9,c9,trivial⟩,trivial⟩
 rintro _ hj
 refine w_9 ?_;refine a6 _ rfl (fun r3=>?_) (fun r3=>?_)
 ·
  have h3:=ae r3
  try simp only [ty] at h3
  refine w_4 ?_
  exact hx8 rfl rfl rfl (⟨cci (b13 (by omega) fun j h=>(hj j h).2),trivial⟩)
 have h3:=aa r3
 try simp only [ty] at h3
 refine w_5 ?_
 exact hx8 rfl rfl rfl (⟨cci (ayg (b88 fun j h=>(hj j h).1) (by omega) fun j h=>(hj j h).2),trivial⟩)
end
section
open Go.Proofs
abbrev bxZ (a:PV):PV:=.vp 1 fun j=>[a].getD j .any
theorem b1y:goodFn Tryz.prog 153:=wgx Tryz.func153
theorem b4a (r row:Rw):af Tryz.prog 153 [pZ r,pP (bxZ (zl row))] (aj [pB (decide (r = row))]):=by
 refine a8 (nt:=7) a7 Tryz.func153 rfl rfl l9 ?_;refine w_8 ?_;refine qcx ab8 (au1 _ _) ?_;refine w_2 ?_
 exact hx8 rfl rfl rfl (CoL.refl _)
theorem aau:goodFn Tryz.prog 101:=wgx Tryz.func101
theorem alr (n:Int) (l:List Rw) (row:Rw):af Tryz.prog 101 [pT n l,pZ row] (aj [pB (l.any fun r=>decide (r = row))]):=by
 refine a8 (nt:=9) a7 Tryz.func101 rfl rfl l9 ?_;refine sx7 ?_;refine m9 0 ?_;refine m9 1 ?_;refine w_3 ?_;refine cz 3 rfl rfl rfl ?_;refine w_4 ?_
 refine qcx b39 (bcn l 153 1 (fun i=>[bxZ (zl row)].getD i .any) (fun r=>decide (r = row)) b1y (fun r=>b4a r row)) ?_;refine w_2 ?_
 exact hx8 rfl rfl rfl (CoL.refl _)
theorem az5:goodFn Tryz.prog 251:=wgx Tryz.func251
theorem bcc (x:Int):af Tryz.prog 251 [pI x] (aj [pB (decide (x < 0))]):=by
 refine a8 (nt:=5) a7 Tryz.func251 rfl rfl l9 ?_;refine dl ?_
 exact hx8 rfl rfl rfl (CoL.refl _)
theorem zz:goodFn Tryz.prog 223:=wgx Tryz.func223
theorem a2y (a b:Rw) (s:AS) (h:b.length = a.length) (h16:a.length ≤ 16):af Tryz.prog 223 [pZ a,pZ b,pA s] (aj [pB (ld a b s)]):=by
 refine a8 (nt:=30) a7 Tryz.func223 rfl rfl l9 ?_;refine d8 ?_
 refine dg 0 rfl fun hn0=>?_
 refine dg 1 rfl fun hn1=>?_
 refine w_3 ?_;refine d4 (ι:=Unit) ⟨[],[]⟩ ⟨trivial,trivial⟩ (fun _i=>⟨[],[]⟩) (fun _i=>ld a b s = true) ?_ ?_
 ·
  refine w_7 ?_
  refine ah (ι:=Nat) ⟨[(0,some _),(1,some _),(2,some _),(9,some _)],[]⟩ ⟨⟨c9,c9,c9,c9,trivial⟩,trivial⟩ (fun i=>⟨[(10,some (vI i))],[]⟩) (fun i=>i ≤ a.length ∧ (∀ j:Nat,j < i → (dx s (j:Int) = true → a.getD j default = b.getD j default))) (fun i=>a.length - i) (0) (⟨Nat.zero_le _,cr⟩) ⟨⟨zy,trivial⟩,trivial⟩ ?_
  rintro i ⟨hi,hI⟩
  refine w_5 ?_;refine a6 _ rfl (fun r0=>?_) (fun r0=>?_)
  ·
   have h0:=ae r0
   try simp only [ty] at h0
   refine w_9 ?_;refine bg (E:=bj) a7 aw [0,1,2,3,4,5,6,7,8,9,10,11,12,13,14,15] ?_;refine w_6 ?_;refine b9 rfl rfl (fun r1=>?_) (fun r1=>?_)
   ·
    have h1:=ae r1
    try simp only [ty] at h1
    (iterate 9 refine qy ?_ (hg:=(gtt r1)));refine w_2 ?_;refine ⟨by kernel_rfl, ?_⟩;refine a6 _ rfl (fun r2=>?_) (fun r2=>?_)
    ·
     have h2:=r2
     have h2:=du r1 h2
     have h2:=aa (au h2)
     try simp only [ty] at h2
     refine w_4 ?_
     exact hx8 rfl rfl rfl (⟨ccb (b6z (i:=i) (by omega) ((rh (by omega)).1 (by assumption)) (by assumption)).symm,trivial⟩)
    have h2:=r2
    have h2:=du r1 h2
    have h2:=ae (ar h2)
    try simp only [ty] at h2
    refine w_5 ?_;refine ⟨i + 1, ?_, ?_, ?_⟩
    · exact ⟨by show i + 1 ≤ _;omega,bz hI (fun hh=>by first | (exact absurd ((rh (by omega)).2 hh) (by assumption)) | assumption)⟩
    · first | omega | (dsimp only;omega)
    exact ⟨⟨zy,c9,c9,c9,c9,trivial⟩,trivial⟩
   have h1:=aa r1
   try simp only [ty] at h1
   (iterate 9 refine k9 (gft r1) ?_);refine rq rfl rfl rfl rfl rfl ?_ (hp:=r1);refine ax ?_;refine ⟨by kernel_rfl, ?_⟩;refine a6 _ rfl (fun e=>by cases e) (fun _=>?_);refine w_5 ?_;refine ⟨i + 1, ?_, ?_, ?_⟩
   · exact ⟨by show i + 1 ≤ _;omega,bz hI (fun hh=>by first | (exact absurd ((rh (by omega)).2 hh) (by assumption)) | assumption)⟩
   · first | omega | (dsimp only;omega)
   exact ⟨⟨zy,c9,c9,c9,c9,trivial⟩,trivial⟩
  have h0:=aa r0
  try simp only [ty] at h0
  refine fe ?_;refine ⟨(), ?_, ?_⟩
  · exact a3x fun j hj=>hI j (by omega)
  exact ⟨trivial,trivial⟩
 rintro _ hj
 refine w_4 ?_
 exact hx8 rfl rfl rfl (⟨ccb hj.symm,trivial⟩)
end
section
def d9 (n:Int) (l m:List Fd):Int:=if br n l = 0 then (if 64 < m.length then 3 else if m.all (inU n) = true then 0 else 1) else br n l
section
variable {n:Int} {l m:List Fd}
theorem arw (h:¬ br n l = 0):br n l = d9 n l m:=by unfold d9;rw [if_neg h]
theorem aqg (h:br n l = 0) (h2:64 < m.length):3 = d9 n l m:=by unfold d9;rw [if_pos h,if_pos h2]
theorem ag9 {i:Nat} (h:br n l = 0) (h2:¬ 64 < m.length) (hi:i < m.length) (hu:¬ inU n (m.getD i default) = true):1 = d9 n l m:=by
 unfold d9
 rw [if_pos h,if_neg h2,if_neg (fun e=>absurd (a88 (l:=m) (p:=inU n) hi (Bool.eq_false_iff.2 hu)) (by rw [e];decide))]
theorem arh (h:br n l = 0) (h2:¬ 64 < m.length) (hu:∀ j,j < m.length → inU n (m.getD j default) = true):0 = d9 n l m:=by
 unfold d9
 rw [if_pos h,if_neg h2,if_pos (ado hu)]
theorem m8 (h:d9 n l m = 0):0 ≤ n ∧ n ≤ 16 ∧ l.length ≤ 64 ∧ l.all (inU n) = true ∧ m.length ≤ 64 ∧ m.all (inU n) = true:=by
 unfold d9 at h
 by_cases h1:br n l = 0
 · rw [if_pos h1] at h
   obtain ⟨a,b,c,d⟩:=gp h1
   by_cases h2:64 < m.length
   · rw [if_pos h2] at h;omega
   rw [if_neg h2] at h
   by_cases h3:m.all (inU n) = true
   · exact ⟨a,b,c,d,by omega,h3⟩
   rw [if_neg h3] at h;omega
 rw [if_neg h1] at h;exact absurd h h1
end
theorem ae5 {n:Int} {l:List Rw} {i:Nat} (h1:((l.getD i default).length:Int) = n) (h2:(l.getD i default).any (fun x=>decide (x < 0)) = false) (h3:i = 0 ∨ ltZ (l.getD (i - 1) default) (l.getD i default) = true):my n l i = true:=by
 unfold my
 rw [decide_eq_true h1,h2]
 rcases h3 with h3 | h3
 · rw [decide_eq_true h3];rfl
 rw [h3];simp
theorem al1 {n:Int} {l:List Rw} {i:Nat} (h:¬ ((l.getD i default).length:Int) = n):my n l i = false:=by unfold my;rw [decide_eq_false h];rfl
theorem ak5 {n:Int} {l:List Rw} {i:Nat} (h:(l.getD i default).any (fun x=>decide (x < 0)) = true):my n l i = false:=by unfold my;rw [h];simp
theorem ab6 {n:Int} {l:List Rw} {i:Nat} (h0:0 < i) (h:¬ ltZ (l.getD (i - 1) default) (l.getD i default) = true):my n l i = false:=by
 unfold my
 rw [Bool.eq_false_iff.2 h,decide_eq_false (by omega:¬ i = 0)]
 simp
theorem a0h {a b:Rw}:o3 a b < 0 ↔ ltZ a b = true:=by
 unfold o3
 by_cases e:a = b
 · subst e
   rw [if_pos rfl,sn]
   exact ⟨fun h=>absurd h (by omega),fun h=>by cases h⟩
 rw [if_neg e]
 by_cases h:ltZ a b = true
 · rw [if_pos h];exact ⟨fun _=>h,fun _=>by omega⟩
 rw [if_neg h];exact ⟨fun h=>absurd h (by omega),fun h2=>absurd h2 h⟩
end
section
open Go.Proofs
theorem ar9:goodFn Tryz.prog 99:=wgx Tryz.func99
theorem akf (n:Int) (s:AS):af Tryz.prog 99 [pI n,pA s] (aj [pB (decide (sub s (aq n)))]):=by
 refine a8 (nt:=9) a7 Tryz.func99 rfl rfl l9 ?_;refine w_8 ?_;refine qcx ze (a00 n) ?_;refine qcx qe (xv _ _) ?_;refine w_2 ?_
 exact hx8 rfl rfl rfl (CoL.refl _)
theorem zq:goodFn Tryz.prog 53:=wgx Tryz.func53
theorem vw (n:Int) (l m:List Fd):af Tryz.prog 53 [pI n,pP (fdl l),pP (fdl m)] (aj [pI (d9 n l m)]):=by
 refine a8 (nt:=34) a7 Tryz.func53 rfl rfl l9 ?_;refine d8 ?_
 refine dg 2 rfl fun hn2=>?_
 refine w_8 ?_;refine qcx sd (wo n l) ?_;refine w_7 ?_;refine a6 _ rfl (fun r0=>?_) (fun r0=>?_)
 ·
  have h0:=r0
  have h0:=aa (au h0)
  try simp only [ty] at h0
  refine w_5 ?_
  exact hx8 rfl rfl rfl (⟨cci (arw (by assumption)),trivial⟩)
 have h0:=r0
 have h0:=ae (ar h0)
 try simp only [ty] at h0
 have hv0:br n l = 0:=by assumption
 obtain ⟨hn0,hn16,_,_⟩:=gp hv0
 refine w_8 ?_;refine a6 _ rfl (fun r1=>?_) (fun r1=>?_)
 ·
  have h1:=ae r1
  try simp only [ty] at h1
  refine w_4 ?_
  exact hx8 rfl rfl rfl (⟨cci (aqg hv0 (by omega)),trivial⟩)
 have h1:=aa r1
 try simp only [ty] at h1
 refine dn ?_;refine d4 (ι:=Unit) ⟨[],[]⟩ ⟨trivial,trivial⟩ (fun _i=>⟨[],[]⟩) (fun _i=>∀ j,j < m.length → inU n (m.getD j default) = true) ?_ ?_
 ·
  refine w_7 ?_
  refine ah (ι:=Nat) ⟨[(0,some _),(19,some _),(20,some _)],[]⟩ ⟨⟨c9,c9,c9,trivial⟩,trivial⟩ (fun i=>⟨[(21,some (vI i))],[]⟩) (fun i=>i ≤ m.length ∧ (∀ j,j < i → inU n (m.getD j default) = true)) (fun i=>m.length - i) (0) (⟨Nat.zero_le _,cr⟩) ⟨⟨zy,trivial⟩,trivial⟩ ?_
  rintro i ⟨hi,hI⟩
  refine w_5 ?_;refine a6 _ rfl (fun r2=>?_) (fun r2=>?_)
  ·
   have h2:=ae r2
   try simp only [ty] at h2
   refine w_7 ?_;refine m9 0 ?_;refine kf ?_;refine a6 _ rfl (fun r3=>?_) (fun r3=>?_)
   ·
    have h3:=r3
    have h3:=aa (au h3)
    try simp only [ty] at h3
    refine w_4 ?_
    exact hx8 rfl rfl rfl (⟨cci (ag9 (i:=i) hv0 (by omega) (by omega) (fun e=>absurd (a4m.2 e) (by assumption))),trivial⟩)
   have h3:=r3
   have h3:=ae (ar h3)
   try simp only [ty] at h3
   refine w_5 ?_;refine ⟨i + 1, ?_, ?_, ?_⟩
   · exact ⟨by show i + 1 ≤ _;omega,bz hI (a4m.1 (by assumption))⟩
   · first | omega | (dsimp only;omega)
   exact ⟨⟨zy,c9,c9,c9,trivial⟩,trivial⟩
  have h2:=aa r2
  try simp only [ty] at h2
  refine fe ?_;refine ⟨(), ?_, ?_⟩
  · exact fun j hj=>hI j (by omega)
  exact ⟨trivial,trivial⟩
 rintro _ hj
 refine w_4 ?_
 exact hx8 rfl rfl rfl (⟨cci (arh hv0 (by omega) hj),trivial⟩)
theorem b4c:goodFn Tryz.prog 44:=wgx Tryz.func44
theorem at6 (n:Int) (l m:List Fd):af Tryz.prog 44 [pI n,pP (fdl l),pP (fdl m)] (aj [pI (d9 n l m)]):=by
 refine a8 (nt:=42) a7 Tryz.func44 rfl rfl l9 ?_;refine d8 ?_
 refine dg 2 rfl fun hn2=>?_
 refine w_8 ?_;refine qcx b6x (b1a n l) ?_;refine w_7 ?_;refine a6 _ rfl (fun r0=>?_) (fun r0=>?_)
 ·
  have h0:=r0
  have h0:=aa (au h0)
  try simp only [ty] at h0
  refine w_5 ?_
  exact hx8 rfl rfl rfl (⟨cci (arw (by assumption)),trivial⟩)
 have h0:=r0
 have h0:=ae (ar h0)
 try simp only [ty] at h0
 have hv0:br n l = 0:=by assumption
 obtain ⟨hn0,hn16,_,_⟩:=gp hv0
 refine w_8 ?_;refine a6 _ rfl (fun r1=>?_) (fun r1=>?_)
 ·
  have h1:=ae r1
  try simp only [ty] at h1
  refine w_4 ?_
  exact hx8 rfl rfl rfl (⟨cci (aqg hv0 (by omega)),trivial⟩)
 have h1:=aa r1
 try simp only [ty] at h1
 refine dn ?_;refine d4 (ι:=Unit) ⟨[],[]⟩ ⟨trivial,trivial⟩ (fun _i=>⟨[],[]⟩) (fun _i=>∀ j,j < m.length → inU n (m.getD j default) = true) ?_ ?_
 ·
  refine w_5 ?_
  refine ah (ι:=Nat) ⟨[(0,some _),(2,some _)],[]⟩ ⟨⟨c9,c9,trivial⟩,trivial⟩ (fun i=>⟨[(8,some (vI i))],[]⟩) (fun i=>i ≤ m.length ∧ (∀ j,j < i → inU n (m.getD j default) = true)) (fun i=>m.length - i) (0) (⟨Nat.zero_le _,cr⟩) ⟨⟨zy,trivial⟩,trivial⟩ ?_
  rintro i ⟨hi,hI⟩
  refine w_8 ?_;refine a6 _ rfl (fun r2=>?_) (fun r2=>?_)
  ·
   have h2:=ae r2
   try simp only [ty] at h2
   refine f8 ?_;refine qcx ar9 (akf n _) ?_;refine w_2 ?_;refine b9 rfl rfl (fun r3=>?_) (fun r3=>?_)
   ·
    have h3:=r3
    have h3:=au h3
    (iterate 8 refine k9 (gtf r3) ?_);refine rq rfl rfl rfl rfl rfl ?_ (hp:=r3);refine ax ?_;refine a6 _ rfl (fun _=>?_) (fun e=>by cases e);refine w_4 ?_
    exact hx8 rfl rfl rfl (⟨cci (ag9 (i:=i) hv0 (by omega) (by omega) (fun e=>by rw [qd (by omega) (by omega)] at e;simp_all)),trivial⟩)
   have h3:=r3
   have h3:=ar h3
   (iterate 6 refine qy ?_ (hg:=(gff r3)));refine qcx ar9 (akf n _) ?_ (hg:=(gff r3));refine qy ?_ (hg:=(gff r3));refine w_2 ?_;refine a6 _ rfl (fun r4=>?_) (fun r4=>?_)
   ·
    have h4:=r4
    have h4:=c6 r3 h4
    have h4:=au h4
    refine w_4 ?_
    exact hx8 rfl rfl rfl (⟨cci (ag9 (i:=i) hv0 (by omega) (by omega) (fun e=>by rw [qd (by omega) (by omega)] at e;simp_all)),trivial⟩)
   have h4:=r4
   have h4:=c6 r3 h4
   have h4:=ar h4
   refine w_6 ?_;refine ⟨i + 1, ?_, ?_, ?_⟩
   · exact ⟨by show i + 1 ≤ _;omega,bz hI ((qd (by omega) (by omega)).2 (by simp_all))⟩
   · first | omega | (dsimp only;omega)
   exact ⟨⟨zy,c9,c9,trivial⟩,trivial⟩
  have h2:=aa r2
  try simp only [ty] at h2
  refine fe ?_;refine ⟨(), ?_, ?_⟩
  · exact fun j hj=>hI j (by omega)
  exact ⟨trivial,trivial⟩
 rintro _ hj
 refine w_4 ?_
 exact hx8 rfl rfl rfl (⟨cci (arh hv0 (by omega) hj),trivial⟩)
end
section
open Go.Proofs
theorem a43 (i:Nat):((i:Int) - 1).toNat = i - 1:=by omega
theorem b22:goodFn Tryz.prog 222:=wgx Tryz.func222
theorem b2x (n:Int) (l:List Rw):af Tryz.prog 222 [pT n l] (aj [pB (tok n l)]):=by
 refine a8 (nt:=50) a7 Tryz.func222 rfl rfl l9 ?_;refine sx7 ?_;refine m9 0 ?_;refine w_9 ?_;refine b9 rfl rfl (fun r0=>?_) (fun r0=>?_)
 ·
  have h0:=ae r0
  try simp only [ty] at h0
  (iterate 3 refine k9 (gtf r0) ?_);refine rq rfl rfl rfl rfl rfl ?_ (hp:=r0);refine qy ?_;(iterate 4 refine k9 rfl ?_);refine w_2 ?_;refine a6 _ rfl (fun _=>?_) (fun e=>by cases e);refine w_4 ?_
  exact hx8 rfl rfl rfl (⟨ccb (ago (by omega)).symm,trivial⟩)
 have h0:=aa r0
 try simp only [ty] at h0
 (iterate 3 refine qy ?_ (hg:=(gff r0)));refine w_2 ?_;refine b9 rfl rfl (fun r1=>?_) (fun r1=>?_)
 ·
  have h1:=r1
  have h1:=c6 r0 h1
  have h1:=ae h1
  try simp only [ty] at h1
  (iterate 4 refine k9 (gtf r1) ?_);refine rq rfl rfl rfl rfl rfl ?_ (hp:=r1);refine ax ?_;refine a6 _ rfl (fun _=>?_) (fun e=>by cases e);refine w_4 ?_
  exact hx8 rfl rfl rfl (⟨ccb (ago (by omega)).symm,trivial⟩)
 have h1:=r1
 have h1:=c6 r0 h1
 have h1:=aa h1
 try simp only [ty] at h1
 (iterate 4 refine qy ?_ (hg:=(gff r1)));refine w_2 ?_;refine a6 _ rfl (fun r2=>?_) (fun r2=>?_)
 ·
  have h2:=r2
  have h2:=c6 r1 h2
  have h2:=ae h2
  try simp only [ty] at h2
  refine w_4 ?_
  exact hx8 rfl rfl rfl (⟨ccb (ago (by omega)).symm,trivial⟩)
 have h2:=r2
 have h2:=c6 r1 h2
 have h2:=aa h2
 try simp only [ty] at h2
 refine dl ?_
 refine ah (ι:=Nat) ⟨[(1,some _),(20,some _),(21,some _)],[(0,some _)]⟩ ⟨⟨c9,c9,c9,trivial⟩,⟨u9,trivial⟩⟩ (fun i=>⟨[(22,some (vI i))],[]⟩) (fun i=>i ≤ l.length ∧ (∀ j,j < i → my n l j = true)) (fun i=>l.length - i) (0) (⟨Nat.zero_le _,cr⟩) ⟨⟨zy,trivial⟩,trivial⟩ ?_
 rintro i ⟨hi,hI⟩
 refine w_5 ?_;refine a6 _ rfl (fun r3=>?_) (fun r3=>?_)
 ·
  have h3:=ae r3
  try simp only [ty] at h3
  refine aay ?_;refine b9 rfl rfl (fun r4=>?_) (fun r4=>?_)
  ·
   have h4:=r4
   have h4:=aa (au h4)
   try simp only [ty] at h4
   (iterate 2 refine k9 (gtf r4) ?_);refine rq rfl rfl rfl rfl rfl ?_ (hp:=r4);refine ax ?_;refine a6 _ rfl (fun _=>?_) (fun e=>by cases e);refine w_4 ?_
   exact hx8 rfl rfl rfl (⟨ccb (anc (i:=i) (by omega) (by first | exact al1 (by assumption) | exact ak5 (by assumption) | exact ab6 (by omega) (by simp_all [a43]))).symm,trivial⟩)
  have h4:=r4
  have h4:=ae (ar h4)
  try simp only [ty] at h4
  refine qy ?_ (hg:=(gff r4));refine qcx b2z (bb9 (l.getD i default) 251 0 (fun _=>.any) (fun x=>decide (x < 0)) az5 (fun x=>bcc x)) ?_ (hg:=(gff r4));refine w_2 ?_
  refine a6 _ rfl (fun r5=>?_) (fun r5=>?_)
  ·
   have h5:=r5
   have h5:=c6 r4 h5
   refine w_4 ?_
   exact hx8 rfl rfl rfl (⟨ccb (anc (i:=i) (by omega) (by first | exact al1 (by assumption) | exact ak5 (by assumption) | exact ab6 (by omega) (by simp_all [a43]))).symm,trivial⟩)
  have h5:=r5
  have h5:=c6 r4 h5
  refine w_6 ?_;refine b9 rfl rfl (fun r6=>?_) (fun r6=>?_)
  ·
   have h6:=ae r6
   try simp only [ty] at h6
   (iterate 7 refine qy ?_ (hg:=(gtt r6)));refine qcx b43 (ayb (l.getD ((i:Int) - 1).toNat default) (l.getD i default)) ?_ (hg:=(gtt r6));refine qy ?_ (hg:=(gtt r6));refine w_2 ?_
   refine a6 _ rfl (fun r7=>?_) (fun r7=>?_)
   ·
    have h7:=r7
    have h7:=du r6 h7
    have h7:=ae h7
    try simp only [ty] at h7
    refine w_4 ?_
    exact hx8 rfl rfl rfl (⟨ccb (anc (i:=i) (by omega) (ab6 (by omega) fun e=>absurd (a0h.2 e) (by simp only [a43] at *;omega))).symm,trivial⟩)
   have h7:=r7
   have h7:=du r6 h7
   have h7:=aa h7
   try simp only [ty] at h7
   refine w_5 ?_;refine ⟨i + 1, ?_, ?_, ?_⟩
   · exact ⟨by show i + 1 ≤ _;omega,bz hI (ae5 (by assumption) (by assumption) (by first | (exact .inl (by omega)) | (exact .inr (a0h.1 (by simp only [a43] at *;omega)))))⟩
   · first | omega | (dsimp only;omega)
   exact ⟨⟨zy,c9,c9,c9,trivial⟩,⟨u9,trivial⟩⟩
  have h6:=aa r6
  try simp only [ty] at h6
  (iterate 9 refine k9 (gft r6) ?_);refine rq rfl rfl rfl rfl rfl ?_ (hp:=r6);refine ax ?_;refine a6 _ rfl (fun e=>by cases e) (fun _=>?_);refine w_5 ?_;refine ⟨i + 1, ?_, ?_, ?_⟩
  · exact ⟨by show i + 1 ≤ _;omega,bz hI (ae5 (by assumption) (by assumption) (by first | (exact .inl (by omega)) | (exact .inr (a0h.1 (by simp only [a43] at *;omega)))))⟩
  · first | omega | (dsimp only;omega)
  exact ⟨⟨zy,c9,c9,c9,trivial⟩,⟨u9,trivial⟩⟩
 have h3:=aa r3
 try simp only [ty] at h3
 refine w_5 ?_
 exact hx8 rfl rfl rfl (⟨ccb (ax4 (by omega) (by omega) (by omega) fun j hj=>hI j (by omega)).symm,trivial⟩)
theorem abh:goodFn Tryz.prog 175:=wgx Tryz.func175
theorem a81 (n:Int) (l:List Rw) (p m:List Fd):af Tryz.prog 175 [pT n l,pP (fdl p),pP (fdl m)] (aj [pI (if tok n l = true then d9 n p m else 1)]):=by
 refine a8 (nt:=15) a7 Tryz.func175 rfl rfl l9 ?_;refine sx7 ?_;refine m9 0 ?_;refine w_6 ?_;refine qcx b22 (b2x n l) ?_;refine w_2 ?_;refine a6 _ rfl (fun r0=>?_) (fun r0=>?_)
 ·
  have h0:=r0
  have h0:=au h0
  refine w_4 ?_
  exact hx8 rfl rfl rfl (⟨cci (if_neg (by simp_all)).symm,trivial⟩)
 have h0:=r0
 have h0:=ar h0
 refine w_7 ?_;refine qcx zq (vw n p m) ?_;refine w_2 ?_
 exact hx8 rfl rfl rfl (⟨cci (if_pos (by simp_all)).symm,trivial⟩)
end
section
def mw (a b:Rw) (s:AS) (i:Nat):Rw:=(List.range b.length).map fun (j:Nat)=>if j < i ∧ dx s (j:Int) = true then a.getD j default else b.getD j default
theorem p7 (a b:Rw) (s:AS) (i:Nat):(mw a b s i).length = b.length:=by unfold mw;simp
theorem aap {a b:Rw} {s:AS} {i k:Nat} (hk:k < b.length):(mw a b s i).getD k default = if k < i ∧ dx s (k:Int) = true then a.getD k default else b.getD k default:=by
 unfold mw
 rw [List.getD_eq_getElem?_getD,List.getElem?_map,List.getElem?_range hk]
 rfl
theorem aoh (a b:Rw) (s:AS):b = mw a b s 0:=nk (p7 a b s 0).symm fun j hj=>by
 rw [aap hj,if_neg (by omega)]
theorem asy (a b:Rw) (s:AS):mw a b s b.length = fw a b s:=by
 unfold mw fw
 refine List.map_congr_left fun k hk=>?_
 have:=List.mem_range.1 hk
 by_cases h:dx s (k:Int) = true
 · rw [if_pos ⟨this,h⟩,if_pos h]
 rw [if_neg (fun e=>h e.2),if_neg h]
theorem b6k {a b:Rw} {s:AS} {i:Nat} (h:¬ dx s (i:Int) = true):mw a b s i = mw a b s (i + 1):=by
 unfold mw
 refine List.map_congr_left fun k hk=>?_
 by_cases h2:k < i ∧ dx s (k:Int) = true
 · rw [if_pos h2,if_pos ⟨by omega,h2.2⟩]
 rw [if_neg h2, if_neg fun e => h2 ⟨by rcases Nat.lt_or_eq_of_le (Nat.le_of_lt_succ e.1) with h3 | h3
                                       · exact h3
                                       subst h3;exact absurd e.2 h,e.2⟩]
theorem b6a {a b:Rw} {s:AS} {i:Nat} (hi:i < b.length) (h:dx s (i:Int) = true):(mw a b s i).set i (a.getD i default) = mw a b s (i + 1):=by
 refine nk (by rw [List.length_set,p7,p7]) fun j hj=>?_
 rw [List.length_set,p7] at hj
 rw [aap hj]
 by_cases e:j = i
 · subst e
   rw [ly (by rw [p7];exact hj),if_pos ⟨by omega,h⟩]
 rw [getD_set_ne' e,aap hj]
 by_cases h2:j < i ∧ dx s (j:Int) = true
 · rw [if_pos h2,if_pos ⟨by omega,h2.2⟩]
 rw [if_neg h2,if_neg fun e2=>h2 ⟨by omega,e2.2⟩]
theorem pj (a b:Rw) (s:AS):(fw a b s).length = b.length:=by unfold fw;simp
theorem afn {a b:Rw} {s:AS} {i n:Nat} {k:Nat} (hi:i < b.length) (h:dx s (i:Int) = true) (hn:n = b.length:=by rfl) (hk:k = i:=by rfl) :
 CoO (.arr true 1 3 n (eu (lf zC (mw a b s i)) k 0 [.raw (.int .i64 (a.getD i default))])) (.arr true 1 3 n (lf zC (mw a b s (i + 1)))):=by
 rw [← b6a hi h]
 exact abo (fun h=>h) (hn.trans (p7 a b s i).symm) hk (by rw [p7];exact hi) rfl
theorem aeu {a b:Rw} {s:AS} {i n:Nat} (h:¬ dx s (i:Int) = true):CoO (.arr true 1 3 n (lf zC (mw a b s i))) (.arr true 1 3 n (lf zC (mw a b s (i + 1)))):=by
 rw [← b6k h]
 exact CoO.refl _
theorem axu {n:Nat} {r:Rw} (h:r.length = n):CoC (.one (.sl n 1 false (lf zC r))) (pZ r):=by subst h;exact CoC.refl _
end
section
open Go.Proofs
theorem ab9:goodFn Tryz.prog 237:=wgx Tryz.func237
theorem aak (n:Nat) (c:Bool) (f:Nat → Nat → PV) (hn:n ≤ 17592186044416) :
 dw Tryz.prog 237 [.one (.p (.sl n 1 c f))] [] (.v (.one (.ref 0 n))) [(0, .arr true 1 3 n f)] []:=by
 refine gd (nt:=8) a7 Tryz.func237 rfl rfl l9 rfl ?_;refine sx7 ?_;refine ce true rfl rfl rfl rfl rfl trivial ?_;refine ax ?_
 refine zd (ι:=Bool) (fun c=>⟨[(0,some (bp (.sl n 1 c f)))],[]⟩) (fun _=>True) ?_ fun c _=>?_
 · rcases Nat.eq_zero_or_pos n with hz | h0
   · subst hz
     refine hw_exact' 0 rfl fun ad cap hcap=>?_
     refine sx7 ?_;(iterate 2 refine ce true rfl rfl rfl rfl rfl trivial ?_);refine ax ?_;refine a6 ad.isNone rfl (fun hc=>?_) (fun hc=>?_)
     · refine sx7 ?_
       refine ce true rfl rfl rfl rfl rfl trivial ?_;refine ax ?_;refine d6 2 0 true 1 3 f (by decide) rfl (CoP.sl rfl (.inr rfl) (fun h=>h) fun i j hi _=>absurd hi (Nat.not_lt_zero i)) (.inr rfl) rfl ?_
       refine go ?_;refine ⟨.inr rfl, ?_⟩
       exact ⟨_,_,rfl,trivial,CoR.refl _,⟨u9,trivial⟩⟩
     refine dn ?_
     exact ⟨false,trivial,⟨⟨_,rfl,CoP.raw_sl hcap⟩,trivial⟩,trivial⟩
   refine sx7 ?_;refine ce true rfl rfl rfl rfl rfl trivial ?_;refine ce true rfl rfl rfl rfl rfl h0 ?_;refine ax ?_;refine a6 false rfl (fun hc=>by cases hc) (fun hc=>?_);refine dn ?_
   exact ⟨c,trivial,⟨c9,trivial⟩,trivial⟩
 refine sx7 ?_;refine vn 0 rfl rfl rfl rfl rfl rfl trivial ?_;refine ce true rfl rfl rfl rfl rfl trivial ?_
 refine a35 0 true rfl rfl rfl rfl rfl rfl ⟨trivial,rfl,rfl,rfl, .inl rfl,by show 0 + n ≤ 9223372036854775807;omega,by show (0 + n) * 8 ≤ 140737488355328;omega,fun _=>.inl rfl⟩ ?_
 refine ce true rfl rfl rfl rfl rfl trivial ?_;refine w_2 ?_;refine ⟨.inr rfl, ?_⟩;refine ⟨_,_,rfl,trivial,CoR.of_eq (by show HR.v (.one (.ref 0 (0 + n))) = _;rw [Nat.zero_add]),⟨⟨_,rfl, ?_⟩,trivial⟩⟩
 exact ⟨fun h=>h,rfl,rfl,(Nat.zero_add n).symm,fun i j _ _=>CoP.of_eq (by simp [gk])⟩
theorem aw8 (n:Nat) (c:Bool) (f:Nat → Nat → PV) (hn:n ≤ 17592186044416):af Tryz.prog 237 [.one (.sl n 1 c f)] (.v (.one (.sl n 1 false f))) :=
 dw.pure (args:=[.one (.sl n 1 c f)]) (l:=[.one (.ref 0 n)]) (aak n c f hn) rfl ⟨rfl,trivial⟩
theorem aas:goodFn Tryz.prog 200:=wgx Tryz.func200
theorem ajt (n:Int) (l:List Rw) (hl:∀ i,i < l.length → (l.getD i default).length ≤ 17592186044416) (hl2:l.length ≤ 5864062014805):dw Tryz.prog 200 [.agg [.p (.raw (.int .i64 n)), .p (rl l)]] [] (.v (.agg [.p (.raw (.int .i64 n)), .ref 901 l.length])) [(901, .arr true 1 84 l.length (lf rC l))] []:=by
 refine gd (nt:=25) a7 Tryz.func200 rfl rfl l9 rfl ?_;refine sx7 ?_;refine m9 0 ?_;refine m9 1 ?_;refine w_6 ?_;refine m9 2 ?_;refine w_2 ?_
 refine a1v 2 1 901 true 1 84 (lf rC l) (by decide) rfl rfl (CoP.sl rfl (.inr rfl) (fun h=>h) (fun i j hi _=>absurd hi (Nat.not_lt_zero i))) (.inr rfl) rfl rfl ?_;refine w_9 ?_
 refine ah (ι:=Nat) ⟨[(2,some _),(3,some _),(10,some _),(11,some _)],[(1,some _)]⟩ ⟨⟨c9,c9,c9,c9,trivial⟩,⟨u9,trivial⟩⟩ (fun i=>⟨[(12,some (vI i))],[(2,some (.box [.p (.raw (.int .i64 n)), .ref 901 i])),(901,some (.arr true 1 84 i (lf rC l)))]⟩) (fun i=>i ≤ l.length) (fun i=>l.length - i) (0) (Nat.zero_le _) ⟨⟨zy,trivial⟩,⟨u9,u9,trivial⟩⟩ ?_
 rintro i hi
 refine w_5 ?_;refine a6 _ rfl (fun r0=>?_) (fun r0=>?_)
 ·
  have h0:=ae r0
  try simp only [ty] at h0
  refine w_9 ?_;refine bg (E:=bj) a7 aw [0,1,2,3,4,5,6,7] ?_;refine w_3 ?_;refine qcx ab9 (aw8 (l.getD i default).length false (lf zC (l.getD i default)) (hl i (by omega))) ?_
  refine m9 3 ?_;refine ra 4 true rfl rfl rfl rfl rfl rfl ?_;refine w_3 ?_;refine ⟨by kernel_rfl, ?_⟩;refine w_4 ?_;refine ⟨i + 1, ?_, ?_, ?_⟩
  · show i + 1 ≤ _;omega
  · first | omega | (dsimp only;omega)
  exact ⟨⟨zy,c9,c9,c9,c9,trivial⟩,⟨u9,⟨_,rfl,(akt (fun h=>h) (fun j hj=>by obtain rfl:j = 0:=(by omega);exact CoP.refl _))⟩,u9,trivial⟩⟩
 have h0:=aa r0
 try simp only [ty] at h0
 obtain rfl:i = l.length:=by omega
 refine w_7 ?_;refine ⟨.inr rfl, ?_⟩
 exact ⟨_,_,rfl,(by (repeat' apply And.intro) <;> first | trivial | exact Nat.le_of_ble_eq_true rfl),CoR.refl _,⟨u9,trivial⟩⟩
theorem at5 (n:Int) (l:List Rw) (hl:∀ i,i < l.length → (l.getD i default).length ≤ 17592186044416) (hl2:l.length ≤ 5864062014805):af Tryz.prog 200 [pT n l] (aj [pT n l]) :=
 dw.pure (args:=[pT n l]) (l:=[.agg [.p (.raw (.int .i64 n)), .ref 901 l.length]]) (ajt n l hl hl2) rfl ⟨⟨trivial,rfl,trivial⟩,trivial⟩
theorem ajn:goodFn Tryz.prog 226:=wgx Tryz.func226
theorem as8 (a b:Rw) (s:AS) (h:a.length = b.length) (h16:b.length ≤ 16):af Tryz.prog 226 [pZ a,pZ b,pA s] (aj [pZ (fw a b s)]):=by
 refine a8 (nt:=30) a7 Tryz.func226 rfl rfl l9 ?_;refine w_7 ?_;refine bf rfl rfl rfl rfl rfl rfl ab9 (aak b.length false (lf zC b) (by omega)) (da.refl _) trivial rfl rfl ?_;refine dl ?_
 refine ah (ι:=Nat) ⟨[(0,some _),(2,some _),(7,some _),(12,some _)],[]⟩ ⟨⟨c9,c9,c9,c9,trivial⟩,trivial⟩ (fun i=>⟨[(13,some (vI i))],[(0,some (.arr true 1 3 b.length (lf zC (mw a b s i))))]⟩) (fun i=>i ≤ b.length) (fun i=>b.length - i) (0) (Nat.zero_le _) ⟨⟨zy,trivial⟩,⟨⟨_,rfl,(CoO.of_eq (by rw [← aoh]))⟩,trivial⟩⟩ ?_
 rintro i hi
 refine w_5 ?_;refine a6 _ rfl (fun r0=>?_) (fun r0=>?_)
 ·
  have h0:=ae r0
  try simp only [ty] at h0
  refine a6o ?_;refine a6 _ rfl (fun r1=>?_) (fun r1=>?_)
  ·
   have h1:=ae r1
   try simp only [ty] at h1
   refine wg ?_;refine ⟨i + 1, ?_, ?_, ?_⟩
   · show i + 1 ≤ _;omega
   · first | omega | (dsimp only;omega)
   exact ⟨⟨zy,c9,c9,c9,c9,trivial⟩,⟨⟨_,rfl,(by first | exact afn (by omega) ((rh (by omega)).1 (by assumption)) | exact aeu (fun e=>absurd ((rh (by omega)).2 e) (by assumption)))⟩,trivial⟩⟩
  have h1:=aa r1
  try simp only [ty] at h1
  refine w_5 ?_;refine ⟨i + 1, ?_, ?_, ?_⟩
  · show i + 1 ≤ _;omega
  · first | omega | (dsimp only;omega)
  exact ⟨⟨zy,c9,c9,c9,c9,trivial⟩,⟨⟨_,rfl,(by first | exact afn (by omega) ((rh (by omega)).1 (by assumption)) | exact aeu (fun e=>absurd ((rh (by omega)).2 e) (by assumption)))⟩,trivial⟩⟩
 have h0:=aa r0
 try simp only [ty] at h0
 obtain rfl:i = b.length:=by omega
 refine w_2 ?_;refine bi 7 rfl rfl rfl ?_;refine w_4 ?_
 exact hx8 rfl rfl rfl (⟨by rw [asy];exact axu (pj a b s),trivial⟩)
end
end Go.Hx

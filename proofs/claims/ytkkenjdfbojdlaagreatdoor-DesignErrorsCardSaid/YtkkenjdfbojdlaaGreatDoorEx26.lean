/- A part of the proof: Ch2 X1 X2 Ch3 X3 X4 Ch4 X5. -/
import Derived.Test.YtkkenjdfbojdlaaGreatDoorEx16
import Derived.Test.YtkkenjdfbojdlaaGreatDoorEx18
import Derived.Test.YtkkenjdfbojdlaaGreatDoorEx25
set_option linter.all false
section
namespace Go.Hx
abbrev pZ (r:Rw):PC:=.one (zl r)
abbrev pR (l:List Rw):PC:=.one (rl l)
abbrev pT (n:Int) (l:List Rw):PC:=.agg [.raw (.int .i64 n),rl l]
theorem asb:∀ {a b:Rw} {i:Nat},i < a.length → i < b.length → (∀ j,j < i → a.getD j default = b.getD j default) → ¬ a.getD i default = b.getD i default → ltZ a b = decide (a.getD i default < b.getD i default)
 | [],_,_,h,_,_,_=>by simp at h
 | _ :: _,[],_,_,h,_,_=>by simp at h
 | x :: a,y :: b,0,_,_,_,hn=>by
  have:¬ x = y:=hn
  unfold ltZ
  rw [if_neg this]
  rfl
 | x :: a,y :: b,i + 1,ha,hb,h,hn=>by
  have e:x = y:=h 0 (by omega)
  unfold ltZ
  rw [if_pos e]
  exact asb (by simpa using ha) (by simpa using hb) (fun j hj=>h (j + 1) (by omega)) hn
theorem a98:∀ {a b:Rw},(∀ j,j < a.length → j < b.length → a.getD j default = b.getD j default) → ltZ a b = decide (a.length < b.length)
 | [],[],_=>rfl
 | [],_ :: _,_=>by simp [ltZ]
 | _ :: _,[],_=>by simp [ltZ]
 | x :: a,y :: b,h=>by
  have e:x = y:=h 0 (by simp) (by simp)
  unfold ltZ
  rw [if_pos e,a98 fun j h1 h2=>h (j + 1) (by simpa using h1) (by simpa using h2)]
  simp
def my (a b:Rw):Int:=if a = b then 0 else if ltZ a b = true then -1 else 1
theorem b37 {a b:Rw} {i:Nat} (ha:i < a.length) (hb:i < b.length) (h:∀ j,j < i → a.getD j default = b.getD j default) (hn:¬ iw (a.getD i default) (b.getD i default) = 0):iw (a.getD i default) (b.getD i default) = my a b:=by
 have hne:¬ a.getD i default = b.getD i default:=fun e=>hn (by unfold iw;rw [if_neg (by omega),if_neg (by omega)])
 unfold iw my
 rw [if_neg (fun e:a = b=>hne (by rw [e])),asb ha hb h hne]
 simp only [decide_eq_true_eq]
 split
 · rfl
 rw [if_pos (by omega)]
theorem b8d {a b:Int} (h:iw a b = 0):a = b:=by
 unfold iw at h
 split at h
 · omega
 split at h <;> omega
theorem b4g {a b:Rw} {i:Nat} (ha:i < a.length) (hb:¬ i < b.length) (h:∀ j,j < i → a.getD j default = b.getD j default):(1:Int) = my a b:=by
 unfold my
 rw [if_neg (fun e:a = b=>by subst e;omega),a98 fun j h1 h2=>h j (by omega),if_neg (by simp only [decide_eq_true_eq];omega)]
theorem b2e {a b:Rw} (hl:a.length < b.length) (h:∀ j,j < a.length → a.getD j default = b.getD j default):(-1:Int) = my a b:=by
 unfold my
 rw [if_neg (fun e:a = b=>by subst e;omega),a98 fun j h1 h2=>h j h1,if_pos (by simp only [decide_eq_true_eq];omega)]
theorem b2o {a b:Rw} (hl:a.length ≤ b.length) (hl2:¬ a.length < b.length) (h:∀ j,j < a.length → a.getD j default = b.getD j default):(0:Int) = my a b:=by
 unfold my
 rw [if_pos (l6 (by omega) h)]
theorem bb6 {a b:Rw} (h:a.length = b.length) (hI:∀ j,j < a.length → decide (a.getD j default = b.getD j default) = true):a = b:=l6 h fun j hj=>of_decide_eq_true (hI j hj)
theorem b8r {a b:Nat} (h:∀ j,j < a → j < b):a ≤ b:=Nat.le_of_not_lt fun e=>Nat.lt_irrefl _ (h b e)
def kn (a b:Rw) (s:AS):Bool:=decide (∀ i:Nat,i < a.length → (ep s (i:Int) = true → a.getD i default = b.getD i default))
theorem b9h {a b:Rw} {s:AS} {i:Nat} (hi:i < a.length) (h:ep s (i:Int) = true) (hn:¬ a.getD i default = b.getD i default):kn a b s = false:=decide_eq_false fun e=>hn (e i hi h)
theorem a0p {a b:Rw} {s:AS} (h:∀ i:Nat,i < a.length → (ep s (i:Int) = true → a.getD i default = b.getD i default)):kn a b s = true:=decide_eq_true h
theorem po {s:AS} {i:Nat} (h:i < 32):bj .and .u32 ((asI s).fdiv (2 ^ (min i 32))) 1 = 1 ↔ ep s (i:Int) = true:=by
 rw [← bah (s:=s) (i:=(i:Int)) (by omega) (by omega),decide_eq_true_iff]
 rfl
def lq (n:Int) (l:List Rw) (i:Nat):Bool:=decide (((l.getD i default).length:Int) = n) && !(l.getD i default).any (fun x=>decide (x < 0)) && (decide (i = 0) || ltZ (l.getD (i - 1) default) (l.getD i default))
def tok (n:Int) (l:List Rw):Bool:=decide (0 ≤ n ∧ n ≤ 16 ∧ l.length ≤ 256) && decide (∀ i,i < l.length → lq n l i = true)
theorem azh {n:Int} {l:List Rw} (h0:0 ≤ n) (h1:n ≤ 16) (h2:l.length ≤ 256) (h:∀ i,i < l.length → lq n l i = true):tok n l = true:=by
 unfold tok
 rw [decide_eq_true (show 0 ≤ n ∧ n ≤ 16 ∧ l.length ≤ 256 from ⟨h0,h1,h2⟩),decide_eq_true h]
 rfl
theorem adf {n:Int} {l:List Rw} (h:¬ (0 ≤ n ∧ n ≤ 16 ∧ l.length ≤ 256)):tok n l = false:=by
 unfold tok
 rw [decide_eq_false h]
 rfl
theorem ajc {n:Int} {l:List Rw} {i:Nat} (hi:i < l.length) (h:lq n l i = false):tok n l = false:=by
 unfold tok
 rw [decide_eq_false (fun e:∀ i,i < l.length → lq n l i = true=>by rw [e i hi] at h;cases h),Bool.and_false]
def f7 (a b:Rw) (s:AS):Rw:=(List.range b.length).map fun (i:Nat)=>if ep s (i:Int) = true then a.getD i default else b.getD i default
end Go.Hx
end
section
namespace Go.Hx
open Go.Proofs
set_option maxRecDepth 100000
set_option maxHeartbeats 1000000
theorem b2a:goodFn Tryz.prog 276:=⟨Tryz.f276,Tryz.func276,by kernel_rfl,by kernel_rfl⟩
theorem bc7 (l:List Int) (g k:Nat) (caps:Nat → PV) (V:Int → Bool) (hg:goodFn Tryz.prog g) (hV:∀ x,ae Tryz.prog g (pI x :: fp caps k 0) (ai [pB (V x)])):ae Tryz.prog 276 [pP (zl l),pP (.fn g k caps)] (ai [pI (idx V l)]):=by
 refine a8 (nt:=19) a7 Tryz.func276 rfl rfl l9 ?_;refine ct ?_
 refine dg 0 rfl fun hn=>?_
 refine w_3 ?_;refine cj (ι:=Unit) ⟨[],[]⟩ ⟨trivial,trivial⟩ (fun _i=>⟨[],[]⟩) (fun _i=>idx V l = -1) ?_ ?_
 ·
  refine w_7 ?_
  refine aj (ι:=Nat) ⟨[(0,some _),(1,some _),(7,some _)],[]⟩ ⟨⟨c9,c9,c9,trivial⟩,trivial⟩ (fun i=>⟨[(8,some (vI i))],[]⟩) (fun i=>i ≤ l.length ∧ (∀ j,j < i → V (l.getD j default) = false)) (fun i=>l.length - i) (0) (⟨Nat.zero_le _,ck⟩) ⟨⟨zy,trivial⟩,trivial⟩ ?_
  rintro i ⟨hi,hI⟩
  refine w_5 ?_;refine a6 _ rfl (fun r0=>?_) (fun r0=>?_)
  ·
   have h0:=of_decide_eq_true r0
   try simp only [ty] at h0
   refine o0 ?_;refine rc rfl rfl rfl rfl rfl rfl hg (hV (l.getD i default)) (CoL.refl _) rfl rfl ?_;refine b8 ?_;refine a6 _ rfl (fun r1=>?_) (fun r1=>?_)
   ·
    have h1:=r1
    refine w_5 ?_
    exact hx8 rfl rfl rfl (⟨cci (rz (i:=i) (by omega) hI h1).symm,trivial⟩)
   have h1:=r1
   refine w_5 ?_;refine ⟨i + 1, ?_, ?_, ?_⟩
   · exact ⟨by show i + 1 ≤ _;omega,br hI (h1)⟩
   · first | omega | (dsimp only;omega)
   exact ⟨⟨zy,c9,c9,c9,trivial⟩,trivial⟩
  have h0:=of_decide_eq_false r0
  try simp only [ty] at h0
  refine er ?_;refine ⟨(), ?_, ?_⟩
  · exact rr fun j hj=>hI j (by omega)
  exact ⟨trivial,trivial⟩
 rintro _ hj
 refine w_4 ?_
 exact hx8 rfl rfl rfl (⟨cci hj.symm,trivial⟩)
theorem b47:goodFn Tryz.prog 202:=⟨Tryz.f202,Tryz.func202,by kernel_rfl,by kernel_rfl⟩
theorem bdd (l:List Rw) (g k:Nat) (caps:Nat → PV) (V:Rw → Bool) (hg:goodFn Tryz.prog g) (hV:∀ x,ae Tryz.prog g (pZ x :: fp caps k 0) (ai [pB (V x)])):ae Tryz.prog 202 [pP (rl l),pP (.fn g k caps)] (ai [pI (idx V l)]):=by
 refine a8 (nt:=19) a7 Tryz.func202 rfl rfl l9 ?_;refine ct ?_
 refine dg 0 rfl fun hn=>?_
 refine w_3 ?_;refine cj (ι:=Unit) ⟨[],[]⟩ ⟨trivial,trivial⟩ (fun _i=>⟨[],[]⟩) (fun _i=>idx V l = -1) ?_ ?_
 ·
  refine w_7 ?_
  refine aj (ι:=Nat) ⟨[(0,some _),(1,some _),(7,some _)],[]⟩ ⟨⟨c9,c9,c9,trivial⟩,trivial⟩ (fun i=>⟨[(8,some (vI i))],[]⟩) (fun i=>i ≤ l.length ∧ (∀ j,j < i → V (l.getD j default) = false)) (fun i=>l.length - i) (0) (⟨Nat.zero_le _,ck⟩) ⟨⟨zy,trivial⟩,trivial⟩ ?_
  rintro i ⟨hi,hI⟩
  refine w_5 ?_;refine a6 _ rfl (fun r0=>?_) (fun r0=>?_)
  ·
   have h0:=of_decide_eq_true r0
   try simp only [ty] at h0
   refine o0 ?_;refine rc rfl rfl rfl rfl rfl rfl hg (hV (l.getD i default)) (CoL.refl _) rfl rfl ?_;refine b8 ?_;refine a6 _ rfl (fun r1=>?_) (fun r1=>?_)
   ·
    have h1:=r1
    refine w_5 ?_
    exact hx8 rfl rfl rfl (⟨cci (rz (i:=i) (by omega) hI h1).symm,trivial⟩)
   have h1:=r1
   refine w_5 ?_;refine ⟨i + 1, ?_, ?_, ?_⟩
   · exact ⟨by show i + 1 ≤ _;omega,br hI (h1)⟩
   · first | omega | (dsimp only;omega)
   exact ⟨⟨zy,c9,c9,c9,trivial⟩,trivial⟩
  have h0:=of_decide_eq_false r0
  try simp only [ty] at h0
  refine er ?_;refine ⟨(), ?_, ?_⟩
  · exact rr fun j hj=>hI j (by omega)
  exact ⟨trivial,trivial⟩
 rintro _ hj
 refine w_4 ?_
 exact hx8 rfl rfl rfl (⟨cci hj.symm,trivial⟩)
theorem b5m:goodFn Tryz.prog 250:=⟨Tryz.f250,Tryz.func250,by kernel_rfl,by kernel_rfl⟩
theorem bc8 (l:List Int) (g k:Nat) (caps:Nat → PV) (V:Int → Bool) (hg:goodFn Tryz.prog g) (hV:∀ x,ae Tryz.prog g (pI x :: fp caps k 0) (ai [pB (V x)])):ae Tryz.prog 250 [pP (zl l),pP (.fn g k caps)] (ai [pB (l.any V)]):=by
 refine a8 (nt:=9) a7 Tryz.func250 rfl rfl l9 ?_;refine w_8 ?_;refine rc rfl rfl rfl rfl rfl rfl b2a (bc7 l g k caps V hg hV) (CoL.refl _) rfl rfl ?_;refine w_3 ?_
 exact hx8 rfl rfl rfl (⟨ccb vi,trivial⟩)
theorem b2q:goodFn Tryz.prog 152:=⟨Tryz.f152,Tryz.func152,by kernel_rfl,by kernel_rfl⟩
theorem bcr (l:List Rw) (g k:Nat) (caps:Nat → PV) (V:Rw → Bool) (hg:goodFn Tryz.prog g) (hV:∀ x,ae Tryz.prog g (pZ x :: fp caps k 0) (ai [pB (V x)])):ae Tryz.prog 152 [pP (rl l),pP (.fn g k caps)] (ai [pB (l.any V)]):=by
 refine a8 (nt:=9) a7 Tryz.func152 rfl rfl l9 ?_;refine w_8 ?_;refine rc rfl rfl rfl rfl rfl rfl b47 (bdd l g k caps V hg hV) (CoL.refl _) rfl rfl ?_;refine w_3 ?_
 exact hx8 rfl rfl rfl (⟨ccb vi,trivial⟩)
theorem a9b:goodFn Tryz.prog 154:=⟨Tryz.f154,Tryz.func154,by kernel_rfl,by kernel_rfl⟩
theorem ax5 (a b:Rw):ae Tryz.prog 154 [pZ a,pZ b] (ai [pB (decide (a = b))]):=by
 refine a8 (nt:=26) a7 Tryz.func154 rfl rfl l9 ?_;refine ct ?_
 refine dg 0 rfl fun hn0=>?_
 refine dg 1 rfl fun hn1=>?_
 refine fl ?_;refine a6 _ rfl (fun r0=>?_) (fun r0=>?_)
 ·
  have h0:=r0
  have h0:=of_decide_eq_false (ap h0)
  try simp only [ty] at h0
  refine w_4 ?_
  exact hx8 rfl rfl rfl (⟨ccb (decide_eq_false fun e=>by subst e;omega).symm,trivial⟩)
 have h0:=r0
 have h0:=of_decide_eq_true (am h0)
 try simp only [ty] at h0
 refine dp ?_;refine cj (ι:=Unit) ⟨[],[]⟩ ⟨trivial,trivial⟩ (fun _i=>⟨[],[]⟩) (fun _i=>a = b) ?_ ?_
 ·
  refine w_7 ?_
  refine aj (ι:=Nat) ⟨[(0,some _),(1,some _),(12,some _)],[]⟩ ⟨⟨c9,c9,c9,trivial⟩,trivial⟩ (fun i=>⟨[(13,some (vI i))],[]⟩) (fun i=>i ≤ a.length ∧ (∀ j,j < i → decide (a.getD j default = b.getD j default) = true)) (fun i=>a.length - i) (0) (⟨Nat.zero_le _,ck⟩) ⟨⟨zy,trivial⟩,trivial⟩ ?_
  rintro i ⟨hi,hI⟩
  refine w_5 ?_;refine a6 _ rfl (fun r1=>?_) (fun r1=>?_)
  ·
   have h1:=of_decide_eq_true r1
   try simp only [ty] at h1
   refine w_9 ?_;refine bp (E:=bm) a7 ax [0,1,2,3,4,5,6,7,8] ?_;refine d7 ?_;refine ⟨by kernel_rfl, ?_⟩;refine a6 _ rfl (fun r2=>?_) (fun r2=>?_)
   ·
    have h2:=r2
    have h2:=of_decide_eq_false (ap h2)
    try simp only [ty] at h2
    refine w_4 ?_
    exact hx8 rfl rfl rfl (⟨ccb (decide_eq_false fun e=>by subst e;simp_all).symm,trivial⟩)
   have h2:=r2
   have h2:=of_decide_eq_true (am h2)
   try simp only [ty] at h2
   refine w_5 ?_;refine ⟨i + 1, ?_, ?_, ?_⟩
   · exact ⟨by show i + 1 ≤ _;omega,br hI (decide_eq_true (by simp_all))⟩
   · first | omega | (dsimp only;omega)
   exact ⟨⟨zy,c9,c9,c9,trivial⟩,trivial⟩
  have h1:=of_decide_eq_false r1
  try simp only [ty] at h1
  refine er ?_;refine ⟨(), ?_, ?_⟩
  · exact bb6 (by omega) fun j hj=>hI j (by omega)
  exact ⟨trivial,trivial⟩
 rintro _ hj
 refine w_4 ?_
 exact hx8 rfl rfl rfl (⟨ccb (decide_eq_true hj).symm,trivial⟩)
theorem b4z:goodFn Tryz.prog 220:=⟨Tryz.f220,Tryz.func220,by kernel_rfl,by kernel_rfl⟩
theorem b04 (a b:Rw):ae Tryz.prog 220 [pZ a,pZ b] (ai [pI (my a b)]):=by
 refine a8 (nt:=36) a7 Tryz.func220 rfl rfl l9 ?_;refine ct ?_
 refine dg 0 rfl fun hn0=>?_
 refine dg 1 rfl fun hn1=>?_
 refine w_3 ?_;refine cj (ι:=Unit) ⟨[(0,some _),(1,some _)],[]⟩ ⟨⟨c9,c9,trivial⟩,trivial⟩ (fun _i=>⟨[],[]⟩) (fun _i=>∀ j,j < a.length → j < b.length ∧ a.getD j default = b.getD j default) ?_ ?_
 ·
  refine w_7 ?_
  refine aj (ι:=Nat) ⟨[(0,some _),(1,some _),(9,some _),(10,some _)],[]⟩ ⟨⟨c9,c9,c9,c9,trivial⟩,trivial⟩ (fun i=>⟨[(11,some (vI i))],[]⟩) (fun i=>i ≤ a.length ∧ (∀ j,j < i → j < b.length ∧ a.getD j default = b.getD j default)) (fun i=>a.length - i) (0) (⟨Nat.zero_le _,ck⟩) ⟨⟨zy,trivial⟩,trivial⟩ ?_
  rintro i ⟨hi,hI⟩
  refine w_5 ?_;refine a6 _ rfl (fun r0=>?_) (fun r0=>?_)
  ·
   have h0:=of_decide_eq_true r0
   try simp only [ty] at h0
   refine a86 ?_;refine a6 _ rfl (fun r1=>?_) (fun r1=>?_)
   ·
    have h1:=of_decide_eq_true r1
    try simp only [ty] at h1
    refine w_4 ?_
    exact hx8 rfl rfl rfl (⟨cci (b4g (i:=i) (by omega) (by omega) fun j hj=>(hI j hj).2),trivial⟩)
   have h1:=of_decide_eq_false r1
   try simp only [ty] at h1
   refine ld ?_;refine rc rfl rfl rfl rfl rfl rfl aia (b0b (a.getD i default) (b.getD i default)) (CoL.refl _) rfl rfl ?_;refine w_7 ?_;refine a6 _ rfl (fun r2=>?_) (fun r2=>?_)
   ·
    have h2:=r2
    have h2:=of_decide_eq_false (ap h2)
    try simp only [ty] at h2
    refine w_5 ?_
    exact hx8 rfl rfl rfl (⟨cci (b37 (i:=i) (by omega) (by omega) (fun j hj=>(hI j hj).2) (by assumption)),trivial⟩)
   have h2:=r2
   have h2:=of_decide_eq_true (am h2)
   try simp only [ty] at h2
   refine w_5 ?_;refine ⟨i + 1, ?_, ?_, ?_⟩
   · exact ⟨by show i + 1 ≤ _;omega,br hI (⟨by omega,b8d (by assumption)⟩)⟩
   · first | omega | (dsimp only;omega)
   exact ⟨⟨zy,c9,c9,c9,c9,trivial⟩,trivial⟩
  have h0:=of_decide_eq_false r0
  try simp only [ty] at h0
  refine er ?_;refine ⟨(), ?_, ?_⟩
  · exact fun j hj=>hI j (by omega)
  exact ⟨⟨c9,c9,trivial⟩,trivial⟩
 rintro _ hj
 refine w_9 ?_;refine a6 _ rfl (fun r3=>?_) (fun r3=>?_)
 ·
  have h3:=of_decide_eq_true r3
  try simp only [ty] at h3
  refine w_4 ?_
  exact hx8 rfl rfl rfl (⟨cci (b2e (by omega) fun j h=>(hj j h).2),trivial⟩)
 have h3:=of_decide_eq_false r3
 try simp only [ty] at h3
 refine w_5 ?_
 exact hx8 rfl rfl rfl (⟨cci (b2o (b8r fun j h=>(hj j h).1) (by omega) fun j h=>(hj j h).2),trivial⟩)
end Go.Hx
end
section
namespace Go.Hx
open Go.Proofs
set_option maxRecDepth 100000
abbrev bxZ (a:PV):PV:=.vp 1 fun j=>[a].getD j .any
theorem b22:goodFn Tryz.prog 153:=⟨Tryz.f153,Tryz.func153,by kernel_rfl,by kernel_rfl⟩
theorem b77 (r row:Rw):ae Tryz.prog 153 [pZ r,pP (bxZ (zl row))] (ai [pB (decide (r = row))]):=by
 refine a8 (nt:=7) a7 Tryz.func153 rfl rfl l9 ?_;refine w_8 ?_;refine rc rfl rfl rfl rfl rfl rfl a9b (ax5 _ _) (CoL.refl _) rfl rfl ?_;refine w_2 ?_
 exact hx8 rfl rfl rfl (CoL.refl _)
theorem a9h:goodFn Tryz.prog 101:=⟨Tryz.f101,Tryz.func101,by kernel_rfl,by kernel_rfl⟩
theorem ajs (n:Int) (l:List Rw) (row:Rw):ae Tryz.prog 101 [pT n l,pZ row] (ai [pB (l.any fun r=>decide (r = row))]):=by
 refine a8 (nt:=9) a7 Tryz.func101 rfl rfl l9 ?_;refine sx7 ?_;refine m9 0 ?_;refine m9 1 ?_;refine w_3 ?_;refine cg 3 rfl rfl rfl ?_;refine w_4 ?_
 refine rc rfl rfl rfl rfl rfl rfl b2q (bcr l 153 1 (fun i=>[bxZ (zl row)].getD i .any) (fun r=>decide (r = row)) b22 (fun r=>b77 r row)) (CoL.refl _) rfl rfl ?_;refine w_2 ?_
 exact hx8 rfl rfl rfl (CoL.refl _)
theorem b1c:goodFn Tryz.prog 251:=⟨Tryz.f251,Tryz.func251,by kernel_rfl,by kernel_rfl⟩
theorem bd9 (x:Int):ae Tryz.prog 251 [pI x] (ai [pB (decide (x < 0))]):=by
 refine a8 (nt:=5) a7 Tryz.func251 rfl rfl l9 ?_;refine d7 ?_
 exact hx8 rfl rfl rfl (CoL.refl _)
theorem yg:goodFn Tryz.prog 223:=⟨Tryz.f223,Tryz.func223,by kernel_rfl,by kernel_rfl⟩
theorem a1u (a b:Rw) (s:AS) (h:b.length = a.length) (h16:a.length ≤ 16):ae Tryz.prog 223 [pZ a,pZ b,pA s] (ai [pB (kn a b s)]):=by
 refine a8 (nt:=30) a7 Tryz.func223 rfl rfl l9 ?_;refine ct ?_
 refine dg 0 rfl fun hn0=>?_
 refine dg 1 rfl fun hn1=>?_
 refine w_3 ?_;refine cj (ι:=Unit) ⟨[],[]⟩ ⟨trivial,trivial⟩ (fun _i=>⟨[],[]⟩) (fun _i=>kn a b s = true) ?_ ?_
 ·
  refine w_7 ?_
  refine aj (ι:=Nat) ⟨[(0,some _),(1,some _),(2,some _),(9,some _)],[]⟩ ⟨⟨c9,c9,c9,c9,trivial⟩,trivial⟩ (fun i=>⟨[(10,some (vI i))],[]⟩) (fun i=>i ≤ a.length ∧ (∀ j:Nat,j < i → (ep s (j:Int) = true → a.getD j default = b.getD j default))) (fun i=>a.length - i) (0) (⟨Nat.zero_le _,ck⟩) ⟨⟨zy,trivial⟩,trivial⟩ ?_
  rintro i ⟨hi,hI⟩
  refine w_5 ?_;refine a6 _ rfl (fun r0=>?_) (fun r0=>?_)
  ·
   have h0:=of_decide_eq_true r0
   try simp only [ty] at h0
   refine w_9 ?_;refine bp (E:=bm) a7 ax [0,1,2,3,4,5,6,7,8,9,10,11,12,13,14,15] ?_;refine w_6 ?_;refine bc rfl rfl (fun r1=>?_) (fun r1=>?_)
   ·
    have h1:=of_decide_eq_true r1
    try simp only [ty] at h1
    (iterate 9 refine qy ?_ (hg:=(gtt r1)));refine w_2 ?_;refine ⟨by kernel_rfl, ?_⟩;refine a6 _ rfl (fun r2=>?_) (fun r2=>?_)
    ·
     have h2:=r2
     have h2:=dc r1 h2
     have h2:=of_decide_eq_false (ap h2)
     try simp only [ty] at h2
     refine w_4 ?_
     exact hx8 rfl rfl rfl (⟨ccb (b9h (i:=i) (by omega) ((po (by omega)).1 (by assumption)) (by assumption)).symm,trivial⟩)
    have h2:=r2
    have h2:=dc r1 h2
    have h2:=of_decide_eq_true (am h2)
    try simp only [ty] at h2
    refine w_5 ?_;refine ⟨i + 1, ?_, ?_, ?_⟩
    · exact ⟨by show i + 1 ≤ _;omega,br hI (fun hh=>by first | (exact absurd ((po (by omega)).2 hh) (by assumption)) | assumption)⟩
    · first | omega | (dsimp only;omega)
    exact ⟨⟨zy,c9,c9,c9,c9,trivial⟩,trivial⟩
   have h1:=of_decide_eq_false r1
   try simp only [ty] at h1
   (iterate 9 refine k9 (gft r1) ?_);refine rq rfl rfl rfl rfl rfl ?_ (hp:=r1);refine b8 ?_;refine ⟨by kernel_rfl, ?_⟩;refine a6 _ rfl (fun e=>by cases e) (fun _=>?_);refine w_5 ?_;refine ⟨i + 1, ?_, ?_, ?_⟩
   · exact ⟨by show i + 1 ≤ _;omega,br hI (fun hh=>by first | (exact absurd ((po (by omega)).2 hh) (by assumption)) | assumption)⟩
   · first | omega | (dsimp only;omega)
   exact ⟨⟨zy,c9,c9,c9,c9,trivial⟩,trivial⟩
  have h0:=of_decide_eq_false r0
  try simp only [ty] at h0
  refine er ?_;refine ⟨(), ?_, ?_⟩
  · exact a0p fun j hj=>hI j (by omega)
  exact ⟨trivial,trivial⟩
 rintro _ hj
 refine w_4 ?_
 exact hx8 rfl rfl rfl (⟨ccb hj.symm,trivial⟩)
end Go.Hx
end
section
namespace Go.Hx
def bw (n:Int) (l m:List Fd):Int:=if bg n l = 0 then (if 64 < m.length then 3 else if m.all (inU n) = true then 0 else 1) else bg n l
section
variable {n:Int} {l m:List Fd}
theorem alt (h:¬ bg n l = 0):bg n l = bw n l m:=by unfold bw;rw [if_neg h]
theorem am9 (h:bg n l = 0) (h2:64 < m.length):3 = bw n l m:=by unfold bw;rw [if_pos h,if_pos h2]
theorem abx {i:Nat} (h:bg n l = 0) (h2:¬ 64 < m.length) (hi:i < m.length) (hu:¬ inU n (m.getD i default) = true):1 = bw n l m:=by
 unfold bw
 rw [if_pos h,if_neg h2,if_neg (fun e=>absurd (a6y (l:=m) (p:=inU n) hi (Bool.eq_false_iff.2 hu)) (by rw [e];decide))]
theorem anm (h:bg n l = 0) (h2:¬ 64 < m.length) (hu:∀ j,j < m.length → inU n (m.getD j default) = true):0 = bw n l m:=by
 unfold bw
 rw [if_pos h,if_neg h2,if_pos (abl hu)]
theorem mi (h:bw n l m = 0):0 ≤ n ∧ n ≤ 16 ∧ l.length ≤ 64 ∧ l.all (inU n) = true ∧ m.length ≤ 64 ∧ m.all (inU n) = true:=by
 unfold bw at h
 by_cases h1:bg n l = 0
 · rw [if_pos h1] at h
   obtain ⟨a,b,c,d⟩:=fq h1
   by_cases h2:64 < m.length
   · rw [if_pos h2] at h;omega
   rw [if_neg h2] at h
   by_cases h3:m.all (inU n) = true
   · exact ⟨a,b,c,d,by omega,h3⟩
   rw [if_neg h3] at h;omega
 rw [if_neg h1] at h;exact absurd h h1
end
theorem ae7 {n:Int} {l:List Rw} {i:Nat} (h1:((l.getD i default).length:Int) = n) (h2:(l.getD i default).any (fun x=>decide (x < 0)) = false) (h3:i = 0 ∨ ltZ (l.getD (i - 1) default) (l.getD i default) = true):lq n l i = true:=by
 unfold lq
 rw [decide_eq_true h1,h2]
 rcases h3 with h3 | h3
 · rw [decide_eq_true h3];rfl
 rw [h3];simp
theorem ah7 {n:Int} {l:List Rw} {i:Nat} (h:¬ ((l.getD i default).length:Int) = n):lq n l i = false:=by unfold lq;rw [decide_eq_false h];rfl
theorem ahj {n:Int} {l:List Rw} {i:Nat} (h:(l.getD i default).any (fun x=>decide (x < 0)) = true):lq n l i = false:=by unfold lq;rw [h];simp
theorem a8j {n:Int} {l:List Rw} {i:Nat} (h0:0 < i) (h:¬ ltZ (l.getD (i - 1) default) (l.getD i default) = true):lq n l i = false:=by
 unfold lq
 rw [Bool.eq_false_iff.2 h,decide_eq_false (by omega:¬ i = 0)]
 simp
theorem a01 {a b:Rw}:my a b < 0 ↔ ltZ a b = true:=by
 unfold my
 by_cases e:a = b
 · subst e
   rw [if_pos rfl,qx]
   exact ⟨fun h=>absurd h (by omega),fun h=>by cases h⟩
 rw [if_neg e]
 by_cases h:ltZ a b = true
 · rw [if_pos h];exact ⟨fun _=>h,fun _=>by omega⟩
 rw [if_neg h];exact ⟨fun h=>absurd h (by omega),fun h2=>absurd h2 h⟩
end Go.Hx
end
section
namespace Go.Hx
open Go.Proofs
set_option maxRecDepth 100000
theorem ap5:goodFn Tryz.prog 99:=⟨Tryz.f99,Tryz.func99,by kernel_rfl,by kernel_rfl⟩
theorem ai8 (n:Int) (s:AS):ae Tryz.prog 99 [pI n,pA s] (ai [pB (decide (sub s (ar n)))]):=by
 refine a8 (nt:=9) a7 Tryz.func99 rfl rfl l9 ?_;refine w_8 ?_;refine rc rfl rfl rfl rfl rfl rfl adr (adg n) (CoL.refl _) rfl rfl ?_;refine rc rfl rfl rfl rfl rfl rfl a9t (aiv _ _) (CoL.refl _) rfl rfl ?_
 refine w_2 ?_
 exact hx8 rfl rfl rfl (CoL.refl _)
theorem y4:goodFn Tryz.prog 53:=⟨Tryz.f53,Tryz.func53,by kernel_rfl,by kernel_rfl⟩
theorem uc (n:Int) (l m:List Fd):ae Tryz.prog 53 [pI n,pP (fdl l),pP (fdl m)] (ai [pI (bw n l m)]):=by
 refine a8 (nt:=34) a7 Tryz.func53 rfl rfl l9 ?_;refine ct ?_
 refine dg 2 rfl fun hn2=>?_
 refine w_8 ?_;refine rc rfl rfl rfl rfl rfl rfl qg (vh n l) (CoL.refl _) rfl rfl ?_;refine w_7 ?_;refine a6 _ rfl (fun r0=>?_) (fun r0=>?_)
 ·
  have h0:=r0
  have h0:=of_decide_eq_false (ap h0)
  try simp only [ty] at h0
  refine w_5 ?_
  exact hx8 rfl rfl rfl (⟨cci (alt (by assumption)),trivial⟩)
 have h0:=r0
 have h0:=of_decide_eq_true (am h0)
 try simp only [ty] at h0
 have hv0:bg n l = 0:=by assumption
 obtain ⟨hn0,hn16,_,_⟩:=fq hv0
 refine w_8 ?_;refine a6 _ rfl (fun r1=>?_) (fun r1=>?_)
 ·
  have h1:=of_decide_eq_true r1
  try simp only [ty] at h1
  refine w_4 ?_
  exact hx8 rfl rfl rfl (⟨cci (am9 hv0 (by omega)),trivial⟩)
 have h1:=of_decide_eq_false r1
 try simp only [ty] at h1
 refine dp ?_;refine cj (ι:=Unit) ⟨[],[]⟩ ⟨trivial,trivial⟩ (fun _i=>⟨[],[]⟩) (fun _i=>∀ j,j < m.length → inU n (m.getD j default) = true) ?_ ?_
 ·
  refine w_7 ?_
  refine aj (ι:=Nat) ⟨[(0,some _),(19,some _),(20,some _)],[]⟩ ⟨⟨c9,c9,c9,trivial⟩,trivial⟩ (fun i=>⟨[(21,some (vI i))],[]⟩) (fun i=>i ≤ m.length ∧ (∀ j,j < i → inU n (m.getD j default) = true)) (fun i=>m.length - i) (0) (⟨Nat.zero_le _,ck⟩) ⟨⟨zy,trivial⟩,trivial⟩ ?_
  rintro i ⟨hi,hI⟩
  refine w_5 ?_;refine a6 _ rfl (fun r2=>?_) (fun r2=>?_)
  ·
   have h2:=of_decide_eq_true r2
   try simp only [ty] at h2
   refine w_7 ?_;refine m9 0 ?_;refine ld ?_;refine a6 _ rfl (fun r3=>?_) (fun r3=>?_)
   ·
    have h3:=r3
    have h3:=of_decide_eq_false (ap h3)
    try simp only [ty] at h3
    refine w_4 ?_
    exact hx8 rfl rfl rfl (⟨cci (abx (i:=i) hv0 (by omega) (by omega) (fun e=>absurd (a2j.2 e) (by assumption))),trivial⟩)
   have h3:=r3
   have h3:=of_decide_eq_true (am h3)
   try simp only [ty] at h3
   refine w_5 ?_;refine ⟨i + 1, ?_, ?_, ?_⟩
   · exact ⟨by show i + 1 ≤ _;omega,br hI (a2j.1 (by assumption))⟩
   · first | omega | (dsimp only;omega)
   exact ⟨⟨zy,c9,c9,c9,trivial⟩,trivial⟩
  have h2:=of_decide_eq_false r2
  try simp only [ty] at h2
  refine er ?_;refine ⟨(), ?_, ?_⟩
  · exact fun j hj=>hI j (by omega)
  exact ⟨trivial,trivial⟩
 rintro _ hj
 refine w_4 ?_
 exact hx8 rfl rfl rfl (⟨cci (anm hv0 (by omega) hj),trivial⟩)
theorem apl:goodFn Tryz.prog 44:=⟨Tryz.f44,Tryz.func44,by kernel_rfl,by kernel_rfl⟩
theorem aee (n:Int) (l m:List Fd):ae Tryz.prog 44 [pI n,pP (fdl l),pP (fdl m)] (ai [pI (bw n l m)]):=by
 refine a8 (nt:=42) a7 Tryz.func44 rfl rfl l9 ?_;refine ct ?_
 refine dg 2 rfl fun hn2=>?_
 refine w_8 ?_;refine rc rfl rfl rfl rfl rfl rfl b9n (b2m n l) (CoL.refl _) rfl rfl ?_;refine w_7 ?_;refine a6 _ rfl (fun r0=>?_) (fun r0=>?_)
 ·
  have h0:=r0
  have h0:=of_decide_eq_false (ap h0)
  try simp only [ty] at h0
  refine w_5 ?_
  exact hx8 rfl rfl rfl (⟨cci (alt (by assumption)),trivial⟩)
 have h0:=r0
 have h0:=of_decide_eq_true (am h0)
 try simp only [ty] at h0
 have hv0:bg n l = 0:=by assumption
 obtain ⟨hn0,hn16,_,_⟩:=fq hv0
 refine w_8 ?_;refine a6 _ rfl (fun r1=>?_) (fun r1=>?_)
 ·
  have h1:=of_decide_eq_true r1
  try simp only [ty] at h1
  refine w_4 ?_
  exact hx8 rfl rfl rfl (⟨cci (am9 hv0 (by omega)),trivial⟩)
 have h1:=of_decide_eq_false r1
 try simp only [ty] at h1
 refine dp ?_;refine cj (ι:=Unit) ⟨[],[]⟩ ⟨trivial,trivial⟩ (fun _i=>⟨[],[]⟩) (fun _i=>∀ j,j < m.length → inU n (m.getD j default) = true) ?_ ?_
 ·
  refine w_5 ?_
  refine aj (ι:=Nat) ⟨[(0,some _),(2,some _)],[]⟩ ⟨⟨c9,c9,trivial⟩,trivial⟩ (fun i=>⟨[(8,some (vI i))],[]⟩) (fun i=>i ≤ m.length ∧ (∀ j,j < i → inU n (m.getD j default) = true)) (fun i=>m.length - i) (0) (⟨Nat.zero_le _,ck⟩) ⟨⟨zy,trivial⟩,trivial⟩ ?_
  rintro i ⟨hi,hI⟩
  refine w_8 ?_;refine a6 _ rfl (fun r2=>?_) (fun r2=>?_)
  ·
   have h2:=of_decide_eq_true r2
   try simp only [ty] at h2
   refine ez ?_;refine rc rfl rfl rfl rfl rfl rfl ap5 (ai8 n _) (CoL.refl _) rfl rfl ?_;refine w_2 ?_;refine bc rfl rfl (fun r3=>?_) (fun r3=>?_)
   ·
    have h3:=r3
    have h3:=ap h3
    (iterate 8 refine k9 (gtf r3) ?_);refine rq rfl rfl rfl rfl rfl ?_ (hp:=r3);refine b8 ?_;refine a6 _ rfl (fun _=>?_) (fun e=>by cases e);refine w_4 ?_
    exact hx8 rfl rfl rfl (⟨cci (abx (i:=i) hv0 (by omega) (by omega) (fun e=>by rw [oh (by omega) (by omega)] at e;simp_all)),trivial⟩)
   have h3:=r3
   have h3:=am h3
   (iterate 6 refine qy ?_ (hg:=(gff r3)));refine rc rfl rfl rfl rfl rfl rfl ap5 (ai8 n _) (CoL.refl _) rfl (gff r3) ?_;refine qy ?_ (hg:=(gff r3));refine w_2 ?_;refine a6 _ rfl (fun r4=>?_) (fun r4=>?_)
   ·
    have h4:=r4
    have h4:=bu r3 h4
    have h4:=ap h4
    refine w_4 ?_
    exact hx8 rfl rfl rfl (⟨cci (abx (i:=i) hv0 (by omega) (by omega) (fun e=>by rw [oh (by omega) (by omega)] at e;simp_all)),trivial⟩)
   have h4:=r4
   have h4:=bu r3 h4
   have h4:=am h4
   refine w_6 ?_;refine ⟨i + 1, ?_, ?_, ?_⟩
   · exact ⟨by show i + 1 ≤ _;omega,br hI ((oh (by omega) (by omega)).2 (by simp_all))⟩
   · first | omega | (dsimp only;omega)
   exact ⟨⟨zy,c9,c9,trivial⟩,trivial⟩
  have h2:=of_decide_eq_false r2
  try simp only [ty] at h2
  refine er ?_;refine ⟨(), ?_, ?_⟩
  · exact fun j hj=>hI j (by omega)
  exact ⟨trivial,trivial⟩
 rintro _ hj
 refine w_4 ?_
 exact hx8 rfl rfl rfl (⟨cci (anm hv0 (by omega) hj),trivial⟩)
end Go.Hx
end
section
namespace Go.Hx
open Go.Proofs
set_option maxRecDepth 100000
set_option maxHeartbeats 1000000
theorem a1z (i:Nat):((i:Int) - 1).toNat = i - 1:=by omega
theorem b2n:goodFn Tryz.prog 222:=⟨Tryz.f222,Tryz.func222,by kernel_rfl,by kernel_rfl⟩
theorem b35 (n:Int) (l:List Rw):ae Tryz.prog 222 [pT n l] (ai [pB (tok n l)]):=by
 refine a8 (nt:=50) a7 Tryz.func222 rfl rfl l9 ?_;refine sx7 ?_;refine m9 0 ?_;refine w_9 ?_;refine bc rfl rfl (fun r0=>?_) (fun r0=>?_)
 ·
  have h0:=of_decide_eq_true r0
  try simp only [ty] at h0
  (iterate 3 refine k9 (gtf r0) ?_);refine rq rfl rfl rfl rfl rfl ?_ (hp:=r0);refine qy ?_;(iterate 4 refine k9 rfl ?_);refine w_2 ?_;refine a6 _ rfl (fun _=>?_) (fun e=>by cases e);refine w_4 ?_
  exact hx8 rfl rfl rfl (⟨ccb (adf (by omega)).symm,trivial⟩)
 have h0:=of_decide_eq_false r0
 try simp only [ty] at h0
 (iterate 3 refine qy ?_ (hg:=(gff r0)));refine w_2 ?_;refine bc rfl rfl (fun r1=>?_) (fun r1=>?_)
 ·
  have h1:=r1
  have h1:=bu r0 h1
  have h1:=of_decide_eq_true h1
  try simp only [ty] at h1
  (iterate 4 refine k9 (gtf r1) ?_);refine rq rfl rfl rfl rfl rfl ?_ (hp:=r1);refine b8 ?_;refine a6 _ rfl (fun _=>?_) (fun e=>by cases e);refine w_4 ?_
  exact hx8 rfl rfl rfl (⟨ccb (adf (by omega)).symm,trivial⟩)
 have h1:=r1
 have h1:=bu r0 h1
 have h1:=of_decide_eq_false h1
 try simp only [ty] at h1
 (iterate 4 refine qy ?_ (hg:=(gff r1)));refine w_2 ?_;refine a6 _ rfl (fun r2=>?_) (fun r2=>?_)
 ·
  have h2:=r2
  have h2:=bu r1 h2
  have h2:=of_decide_eq_true h2
  try simp only [ty] at h2
  refine w_4 ?_
  exact hx8 rfl rfl rfl (⟨ccb (adf (by omega)).symm,trivial⟩)
 have h2:=r2
 have h2:=bu r1 h2
 have h2:=of_decide_eq_false h2
 try simp only [ty] at h2
 refine d7 ?_
 refine aj (ι:=Nat) ⟨[(1,some _),(20,some _),(21,some _)],[(0,some _)]⟩ ⟨⟨c9,c9,c9,trivial⟩,⟨u9,trivial⟩⟩ (fun i=>⟨[(22,some (vI i))],[]⟩) (fun i=>i ≤ l.length ∧ (∀ j,j < i → lq n l j = true)) (fun i=>l.length - i) (0) (⟨Nat.zero_le _,ck⟩) ⟨⟨zy,trivial⟩,trivial⟩ ?_
 rintro i ⟨hi,hI⟩
 refine w_5 ?_;refine a6 _ rfl (fun r3=>?_) (fun r3=>?_)
 ·
  have h3:=of_decide_eq_true r3
  try simp only [ty] at h3
  refine aya ?_;refine bc rfl rfl (fun r4=>?_) (fun r4=>?_)
  ·
   have h4:=r4
   have h4:=of_decide_eq_false (ap h4)
   try simp only [ty] at h4
   (iterate 2 refine k9 (gtf r4) ?_);refine rq rfl rfl rfl rfl rfl ?_ (hp:=r4);refine b8 ?_;refine a6 _ rfl (fun _=>?_) (fun e=>by cases e);refine w_4 ?_
   exact hx8 rfl rfl rfl (⟨ccb (ajc (i:=i) (by omega) (by first | exact ah7 (by assumption) | exact ahj (by assumption) | exact a8j (by omega) (by simp_all [a1z]))).symm,trivial⟩)
  have h4:=r4
  have h4:=of_decide_eq_true (am h4)
  try simp only [ty] at h4
  refine qy ?_ (hg:=(gff r4));refine rc rfl rfl rfl rfl rfl rfl b5m (bc8 (l.getD i default) 251 0 (fun _=>.any) (fun x=>decide (x < 0)) b1c (fun x=>bd9 x)) (CoL.refl _) rfl (gff r4) ?_;refine w_2 ?_
  refine a6 _ rfl (fun r5=>?_) (fun r5=>?_)
  ·
   have h5:=r5
   have h5:=bu r4 h5
   refine w_4 ?_
   exact hx8 rfl rfl rfl (⟨ccb (ajc (i:=i) (by omega) (by first | exact ah7 (by assumption) | exact ahj (by assumption) | exact a8j (by omega) (by simp_all [a1z]))).symm,trivial⟩)
  have h5:=r5
  have h5:=bu r4 h5
  refine w_6 ?_;refine bc rfl rfl (fun r6=>?_) (fun r6=>?_)
  ·
   have h6:=of_decide_eq_true r6
   try simp only [ty] at h6
   (iterate 7 refine qy ?_ (hg:=(gtt r6)));refine rc rfl rfl rfl rfl rfl rfl b4z (b04 (l.getD ((i:Int) - 1).toNat default) (l.getD i default)) (CoL.refl _) rfl (gtt r6) ?_;refine qy ?_ (hg:=(gtt r6));refine w_2 ?_
   refine a6 _ rfl (fun r7=>?_) (fun r7=>?_)
   ·
    have h7:=r7
    have h7:=dc r6 h7
    have h7:=of_decide_eq_true h7
    try simp only [ty] at h7
    refine w_4 ?_
    exact hx8 rfl rfl rfl (⟨ccb (ajc (i:=i) (by omega) (a8j (by omega) fun e=>absurd (a01.2 e) (by simp only [a1z] at *;omega))).symm,trivial⟩)
   have h7:=r7
   have h7:=dc r6 h7
   have h7:=of_decide_eq_false h7
   try simp only [ty] at h7
   refine w_5 ?_;refine ⟨i + 1, ?_, ?_, ?_⟩
   · exact ⟨by show i + 1 ≤ _;omega,br hI (ae7 (by assumption) (by assumption) (by first | (exact .inl (by omega)) | (exact .inr (a01.1 (by simp only [a1z] at *;omega)))))⟩
   · first | omega | (dsimp only;omega)
   exact ⟨⟨zy,c9,c9,c9,trivial⟩,⟨u9,trivial⟩⟩
  have h6:=of_decide_eq_false r6
  try simp only [ty] at h6
  (iterate 9 refine k9 (gft r6) ?_);refine rq rfl rfl rfl rfl rfl ?_ (hp:=r6);refine b8 ?_;refine a6 _ rfl (fun e=>by cases e) (fun _=>?_);refine w_5 ?_;refine ⟨i + 1, ?_, ?_, ?_⟩
  · exact ⟨by show i + 1 ≤ _;omega,br hI (ae7 (by assumption) (by assumption) (by first | (exact .inl (by omega)) | (exact .inr (a01.1 (by simp only [a1z] at *;omega)))))⟩
  · first | omega | (dsimp only;omega)
  exact ⟨⟨zy,c9,c9,c9,trivial⟩,⟨u9,trivial⟩⟩
 have h3:=of_decide_eq_false r3
 try simp only [ty] at h3
 refine w_5 ?_
 exact hx8 rfl rfl rfl (⟨ccb (azh (by omega) (by omega) (by omega) fun j hj=>hI j (by omega)).symm,trivial⟩)
theorem a8y:goodFn Tryz.prog 175:=⟨Tryz.f175,Tryz.func175,by kernel_rfl,by kernel_rfl⟩
theorem a5v (n:Int) (l:List Rw) (p m:List Fd):ae Tryz.prog 175 [pT n l,pP (fdl p),pP (fdl m)] (ai [pI (if tok n l = true then bw n p m else 1)]):=by
 refine a8 (nt:=15) a7 Tryz.func175 rfl rfl l9 ?_;refine sx7 ?_;refine m9 0 ?_;refine w_6 ?_;refine rc rfl rfl rfl rfl rfl rfl b2n (b35 n l) (CoL.refl _) rfl rfl ?_;refine w_2 ?_
 refine a6 _ rfl (fun r0=>?_) (fun r0=>?_)
 ·
  have h0:=r0
  have h0:=ap h0
  refine w_4 ?_
  exact hx8 rfl rfl rfl (⟨cci (if_neg (by simp_all)).symm,trivial⟩)
 have h0:=r0
 have h0:=am h0
 refine w_7 ?_;refine rc rfl rfl rfl rfl rfl rfl y4 (uc n p m) (CoL.refl _) rfl rfl ?_;refine w_2 ?_
 exact hx8 rfl rfl rfl (⟨cci (if_pos (by simp_all)).symm,trivial⟩)
end Go.Hx
end
section
namespace Go.Hx
def mb (a b:Rw) (s:AS) (i:Nat):Rw:=(List.range b.length).map fun (j:Nat)=>if j < i ∧ ep s (j:Int) = true then a.getD j default else b.getD j default
theorem o3 (a b:Rw) (s:AS) (i:Nat):(mb a b s i).length = b.length:=by unfold mb;simp
theorem a8a {a b:Rw} {s:AS} {i k:Nat} (hk:k < b.length):(mb a b s i).getD k default = if k < i ∧ ep s (k:Int) = true then a.getD k default else b.getD k default:=by
 unfold mb
 rw [List.getD_eq_getElem?_getD,List.getElem?_map,List.getElem?_range hk]
 rfl
theorem al1 (a b:Rw) (s:AS):b = mb a b s 0:=l6 (o3 a b s 0).symm fun j hj=>by
 rw [a8a hj,if_neg (by omega)]
theorem awa (a b:Rw) (s:AS):mb a b s b.length = f7 a b s:=by
 unfold mb f7
 refine List.map_congr_left fun k hk=>?_
 have:=List.mem_range.1 hk
 by_cases h:ep s (k:Int) = true
 · rw [if_pos ⟨this,h⟩,if_pos h]
 rw [if_neg (fun e=>h e.2),if_neg h]
theorem b9s {a b:Rw} {s:AS} {i:Nat} (h:¬ ep s (i:Int) = true):mb a b s i = mb a b s (i + 1):=by
 unfold mb
 refine List.map_congr_left fun k hk=>?_
 by_cases h2:k < i ∧ ep s (k:Int) = true
 · rw [if_pos h2,if_pos ⟨by omega,h2.2⟩]
 rw [if_neg h2, if_neg fun e => h2 ⟨by rcases Nat.lt_or_eq_of_le (Nat.le_of_lt_succ e.1) with h3 | h3
                                       · exact h3
                                       subst h3;exact absurd e.2 h,e.2⟩]
theorem b69 {a b:Rw} {s:AS} {i:Nat} (hi:i < b.length) (h:ep s (i:Int) = true):(mb a b s i).set i (a.getD i default) = mb a b s (i + 1):=by
 refine l6 (by rw [List.length_set,o3,o3]) fun j hj=>?_
 rw [List.length_set,o3] at hj
 rw [a8a hj]
 by_cases e:j = i
 · subst e
   rw [l8 (by rw [o3];exact hj),if_pos ⟨by omega,h⟩]
 rw [getD_set_ne' e,a8a hj]
 by_cases h2:j < i ∧ ep s (j:Int) = true
 · rw [if_pos h2,if_pos ⟨by omega,h2.2⟩]
 rw [if_neg h2,if_neg fun e2=>h2 ⟨by omega,e2.2⟩]
theorem o5 (a b:Rw) (s:AS):(f7 a b s).length = b.length:=by unfold f7;simp
theorem aco {a b:Rw} {s:AS} {i n:Nat} {k:Nat} (hi:i < b.length) (h:ep s (i:Int) = true) (hn:n = b.length:=by rfl) (hk:k = i:=by rfl) :
 CoO (.arr true 1 3 n (fc (lf zC (mb a b s i)) k 0 [.raw (.int .i64 (a.getD i default))])) (.arr true 1 3 n (lf zC (mb a b s (i + 1)))):=by
 rw [← b69 hi h]
 exact aig (fun h=>h) (hn.trans (o3 a b s i).symm) hk (by rw [o3];exact hi) rfl
theorem aeo {a b:Rw} {s:AS} {i n:Nat} (h:¬ ep s (i:Int) = true):CoO (.arr true 1 3 n (lf zC (mb a b s i))) (.arr true 1 3 n (lf zC (mb a b s (i + 1)))):=by
 rw [← b9s h]
 exact CoO.refl _
theorem azl {n:Nat} {r:Rw} (h:r.length = n):CoC (.one (.sl n 1 false (lf zC r))) (pZ r):=by subst h;exact CoC.refl _
end Go.Hx
end
section
namespace Go.Hx
open Go.Proofs
set_option maxRecDepth 100000
theorem a8g:goodFn Tryz.prog 237:=⟨Tryz.f237,Tryz.func237,by kernel_rfl,by kernel_rfl⟩
theorem a8r (n:Nat) (c:Bool) (f:Nat → Nat → PV) (hn:n ≤ 17592186044416) :
 dj Tryz.prog 237 [.one (.p (.sl n 1 c f))] [] (.v (.one (.ref 0 n))) [(0, .arr true 1 3 n f)] []:=by
 refine fu (nt:=8) a7 Tryz.func237 rfl rfl l9 rfl ?_;refine sx7 ?_;refine d5 true rfl rfl rfl rfl rfl trivial ?_;refine b8 ?_
 refine a2l (ι:=Bool) (fun c=>⟨[(0,some (be (.sl n 1 c f)))],[]⟩) (fun _=>True) ?_ fun c _=>?_
 · rcases Nat.eq_zero_or_pos n with hz | h0
   · subst hz
     refine hw_exact' 0 rfl fun ad cap hcap=>?_
     refine sx7 ?_;(iterate 2 refine d5 true rfl rfl rfl rfl rfl trivial ?_);refine b8 ?_;refine a6 ad.isNone rfl (fun hc=>?_) (fun hc=>?_)
     · refine sx7 ?_
       refine d5 true rfl rfl rfl rfl rfl trivial ?_;refine b8 ?_;refine dy 2 0 true 1 3 f (by decide) rfl (CoP.sl rfl (.inr rfl) (fun h=>h) fun i j hi _=>absurd hi (Nat.not_lt_zero i)) (.inr rfl) rfl ?_
       refine gn ?_;refine ⟨.inr rfl, ?_⟩
       exact ⟨_,_,rfl,trivial,CoR.refl _,⟨u9,trivial⟩⟩
     refine dp ?_
     exact ⟨false,trivial,⟨⟨_,rfl,CoP.raw_sl hcap⟩,trivial⟩,trivial⟩
   refine sx7 ?_;refine d5 true rfl rfl rfl rfl rfl trivial ?_;refine d5 true rfl rfl rfl rfl rfl h0 ?_;refine b8 ?_;refine a6 false rfl (fun hc=>by cases hc) (fun hc=>?_);refine dp ?_
   exact ⟨c,trivial,⟨c9,trivial⟩,trivial⟩
 refine sx7 ?_;refine xm 0 rfl rfl rfl rfl rfl rfl trivial ?_;refine d5 true rfl rfl rfl rfl rfl trivial ?_
 refine a6z 0 true rfl rfl rfl rfl rfl rfl ⟨trivial,rfl,rfl,rfl, .inl rfl,by show 0 + n ≤ 9223372036854775807;omega,by show (0 + n) * 8 ≤ 140737488355328;omega,fun _=>.inl rfl⟩ ?_
 refine d5 true rfl rfl rfl rfl rfl trivial ?_;refine w_2 ?_;refine ⟨.inr rfl, ?_⟩;refine ⟨_,_,rfl,trivial,CoR.of_eq (by show HR.v (.one (.ref 0 (0 + n))) = _;rw [Nat.zero_add]),⟨⟨_,rfl, ?_⟩,trivial⟩⟩
 exact ⟨fun h=>h,rfl,rfl,(Nat.zero_add n).symm,fun i j _ _=>CoP.of_eq (by simp [i9])⟩
theorem auu (n:Nat) (c:Bool) (f:Nat → Nat → PV) (hn:n ≤ 17592186044416):ae Tryz.prog 237 [.one (.sl n 1 c f)] (.v (.one (.sl n 1 false f))) :=
 dj.pure (args:=[.one (.sl n 1 c f)]) (l:=[.one (.ref 0 n)]) (a8r n c f hn) rfl ⟨rfl,trivial⟩
theorem a8u:goodFn Tryz.prog 200:=⟨Tryz.f200,Tryz.func200,by kernel_rfl,by kernel_rfl⟩
theorem ahc (n:Int) (l:List Rw) (hl:∀ i,i < l.length → (l.getD i default).length ≤ 17592186044416) (hl2:l.length ≤ 5864062014805):dj Tryz.prog 200 [.agg [.p (.raw (.int .i64 n)), .p (rl l)]] [] (.v (.agg [.p (.raw (.int .i64 n)), .ref 901 l.length])) [(901, .arr true 1 84 l.length (lf rC l))] []:=by
 refine fu (nt:=25) a7 Tryz.func200 rfl rfl l9 rfl ?_;refine sx7 ?_;refine m9 0 ?_;refine m9 1 ?_;refine w_6 ?_;refine m9 2 ?_;refine w_2 ?_
 refine a03 2 1 901 true 1 84 (lf rC l) (by decide) rfl rfl (CoP.sl rfl (.inr rfl) (fun h=>h) (fun i j hi _=>absurd hi (Nat.not_lt_zero i))) (.inr rfl) rfl rfl ?_;refine w_9 ?_
 refine aj (ι:=Nat) ⟨[(2,some _),(3,some _),(10,some _),(11,some _)],[(1,some _)]⟩ ⟨⟨c9,c9,c9,c9,trivial⟩,⟨u9,trivial⟩⟩ (fun i=>⟨[(12,some (vI i))],[(2,some (.box [.p (.raw (.int .i64 n)), .ref 901 i])),(901,some (.arr true 1 84 i (lf rC l)))]⟩) (fun i=>i ≤ l.length) (fun i=>l.length - i) (0) (Nat.zero_le _) ⟨⟨zy,trivial⟩,⟨u9,u9,trivial⟩⟩ ?_
 rintro i hi
 refine w_5 ?_;refine a6 _ rfl (fun r0=>?_) (fun r0=>?_)
 ·
  have h0:=of_decide_eq_true r0
  try simp only [ty] at h0
  refine w_9 ?_;refine bp (E:=bm) a7 ax [0,1,2,3,4,5,6,7] ?_;refine w_3 ?_
  refine rc rfl rfl rfl rfl rfl rfl a8g (auu (l.getD i default).length false (lf zC (l.getD i default)) (hl i (by omega))) (CoL.refl _) rfl rfl ?_;refine m9 3 ?_;refine ra 4 true rfl rfl rfl rfl rfl rfl ?_
  refine w_3 ?_;refine ⟨by kernel_rfl, ?_⟩;refine w_4 ?_;refine ⟨i + 1, ?_, ?_, ?_⟩
  · show i + 1 ≤ _;omega
  · first | omega | (dsimp only;omega)
  exact ⟨⟨zy,c9,c9,c9,c9,trivial⟩,⟨u9,⟨_,rfl,(aih (fun h=>h) (fun j hj=>by obtain rfl:j = 0:=(by omega);exact CoP.refl _))⟩,u9,trivial⟩⟩
 have h0:=of_decide_eq_false r0
 try simp only [ty] at h0
 obtain rfl:i = l.length:=by omega
 refine w_7 ?_;refine ⟨.inr rfl, ?_⟩
 exact ⟨_,_,rfl,(by (repeat' apply And.intro) <;> first | trivial | exact Nat.le_of_ble_eq_true rfl),CoR.refl _,⟨u9,trivial⟩⟩
theorem axb (n:Int) (l:List Rw) (hl:∀ i,i < l.length → (l.getD i default).length ≤ 17592186044416) (hl2:l.length ≤ 5864062014805):ae Tryz.prog 200 [pT n l] (ai [pT n l]) :=
 dj.pure (args:=[pT n l]) (l:=[.agg [.p (.raw (.int .i64 n)), .ref 901 l.length]]) (ahc n l hl hl2) rfl ⟨⟨trivial,rfl,trivial⟩,trivial⟩
theorem ah8:goodFn Tryz.prog 226:=⟨Tryz.f226,Tryz.func226,by kernel_rfl,by kernel_rfl⟩
theorem al8 (a b:Rw) (s:AS) (h:a.length = b.length) (h16:b.length ≤ 16):ae Tryz.prog 226 [pZ a,pZ b,pA s] (ai [pZ (f7 a b s)]):=by
 refine a8 (nt:=30) a7 Tryz.func226 rfl rfl l9 ?_;refine w_7 ?_;refine b5 rfl rfl rfl rfl rfl rfl a8g (a8r b.length false (lf zC b) (by omega)) (cn.refl _) trivial rfl rfl ?_;refine d7 ?_
 refine aj (ι:=Nat) ⟨[(0,some _),(2,some _),(7,some _),(12,some _)],[]⟩ ⟨⟨c9,c9,c9,c9,trivial⟩,trivial⟩ (fun i=>⟨[(13,some (vI i))],[(0,some (.arr true 1 3 b.length (lf zC (mb a b s i))))]⟩) (fun i=>i ≤ b.length) (fun i=>b.length - i) (0) (Nat.zero_le _) ⟨⟨zy,trivial⟩,⟨⟨_,rfl,(CoO.of_eq (by rw [← al1]))⟩,trivial⟩⟩ ?_
 rintro i hi
 refine w_5 ?_;refine a6 _ rfl (fun r0=>?_) (fun r0=>?_)
 ·
  have h0:=of_decide_eq_true r0
  try simp only [ty] at h0
  refine a52 ?_;refine a6 _ rfl (fun r1=>?_) (fun r1=>?_)
  ·
   have h1:=of_decide_eq_true r1
   try simp only [ty] at h1
   refine a1x ?_;refine ⟨i + 1, ?_, ?_, ?_⟩
   · show i + 1 ≤ _;omega
   · first | omega | (dsimp only;omega)
   exact ⟨⟨zy,c9,c9,c9,c9,trivial⟩,⟨⟨_,rfl,(by first | exact aco (by omega) ((po (by omega)).1 (by assumption)) | exact aeo (fun e=>absurd ((po (by omega)).2 e) (by assumption)))⟩,trivial⟩⟩
  have h1:=of_decide_eq_false r1
  try simp only [ty] at h1
  refine w_5 ?_;refine ⟨i + 1, ?_, ?_, ?_⟩
  · show i + 1 ≤ _;omega
  · first | omega | (dsimp only;omega)
  exact ⟨⟨zy,c9,c9,c9,c9,trivial⟩,⟨⟨_,rfl,(by first | exact aco (by omega) ((po (by omega)).1 (by assumption)) | exact aeo (fun e=>absurd ((po (by omega)).2 e) (by assumption)))⟩,trivial⟩⟩
 have h0:=of_decide_eq_false r0
 try simp only [ty] at h0
 obtain rfl:i = b.length:=by omega
 refine w_2 ?_;refine bt 7 rfl rfl rfl ?_;refine w_4 ?_
 exact hx8 rfl rfl rfl (⟨by rw [awa];exact azl (o5 a b s),trivial⟩)
end Go.Hx
end

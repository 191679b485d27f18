/- A part of the proof: V4 Cs5 V5 Cs2 Cs6 Cs7 Cs8 V6 Cs9. -/
import Derived.Lib.TrailingZeros
import Derived.Test.YtaegkccfbmekbaaGreatNq16
set_option linter.all false
section
namespace Go.Hx
open Go.Proofs
set_option maxRecDepth 100000
theorem xg:aj Tryz.prog 44:=⟨Tryz.f44,Tryz.func44,by kernel_rfl,by kernel_rfl⟩
theorem a1b (n:Nat) (c:Bool) (f:Nat → Nat → PV) (hn:n ≤ 17592186044416) :
 ce Tryz.prog 44 [.one (.p (.sl n 2 c f))] [] (.v (.one (.ref 0 n))) [(0, .arr true 2 71 n f)] []:=by
 refine ct (nt:=8) ae Tryz.func44 rfl rfl l9 rfl ?_;refine sx7 ?_;refine cg true rfl rfl rfl rfl rfl trivial ?_;refine a6 ?_
 refine ww (ι:=Bool) (fun c=>⟨[(0,some (c5 (.sl n 2 c f)))],[]⟩) (fun _=>True) ?_ fun c _=>?_
 · rcases Nat.eq_zero_or_pos n with hz | h0
   · subst hz
     refine hw_exact' 0 rfl fun ad cap hcap=>?_
     refine sx7 ?_;(iterate 2 refine cg true rfl rfl rfl rfl rfl trivial ?_);refine a6 ?_;refine a8 ad.isNone rfl (fun hc=>?_) (fun hc=>?_)
     · refine sx7 ?_
       refine cg true rfl rfl rfl rfl rfl trivial ?_;refine a6 ?_;refine dw 2 0 true 2 71 f (by decide) rfl (CoP.sl rfl (.inr rfl) (fun h=>h) fun i j hi _=>absurd hi (Nat.not_lt_zero i)) (.inr rfl) rfl ?_
       refine aw ?_;refine ⟨.inr rfl, ?_⟩
       exact ⟨_,_,rfl,trivial,CoR.refl _,⟨u9,trivial⟩⟩
     · refine aa ?_
       exact ⟨false,trivial,⟨⟨_,rfl,CoP.raw_sl hcap⟩,trivial⟩,trivial⟩
   · refine sx7 ?_
     refine cg true rfl rfl rfl rfl rfl trivial ?_;refine cg true rfl rfl rfl rfl rfl h0 ?_;refine a6 ?_;refine a8 false rfl (fun hc=>by cases hc) (fun hc=>?_);refine aa ?_
     exact ⟨c,trivial,⟨c9,trivial⟩,trivial⟩
 · refine sx7 ?_
   refine sn 0 rfl rfl rfl rfl rfl rfl trivial ?_;refine cg true rfl rfl rfl rfl rfl trivial ?_
   refine a0w 0 true rfl rfl rfl rfl rfl rfl ⟨trivial,rfl,rfl,rfl, .inl rfl,by show 0 + n ≤ 9223372036854775807;omega,by show (0 + n) * 8 ≤ 140737488355328;omega,fun _=>.inl rfl⟩ ?_
   refine cg true rfl rfl rfl rfl rfl trivial ?_;refine a6 ?_;refine aw ?_;refine ⟨.inr rfl, ?_⟩
   refine ⟨_,_,rfl,trivial,CoR.of_eq (by show HR.v (.one (.ref 0 (0 + n))) = _;rw [Nat.zero_add]),⟨⟨_,rfl, ?_⟩,trivial⟩⟩
   exact ⟨fun h=>h,rfl,rfl,(Nat.zero_add n).symm,fun i j _ _=>CoP.of_eq (by simp [eo])⟩
theorem a2u (n:Nat) (c:Bool) (f:Nat → Nat → PV) (hn:n ≤ 17592186044416):ap Tryz.prog 44 [.one (.sl n 2 c f)] (.v (.one (.sl n 2 false f))) :=
 ce.pure (args:=[.one (.sl n 2 c f)]) (l:=[.one (.ref 0 n)]) (a1b n c f hn) rfl ⟨rfl,trivial⟩
theorem anc:aj Tryz.prog 131:=⟨Tryz.f131,Tryz.func131,by kernel_rfl,by kernel_rfl⟩
theorem anw (n:Nat) (c:Bool) (f:Nat → Nat → PV) (hn:n ≤ 35184372088832) :
 ce Tryz.prog 131 [.one (.p (.sl n 1 c f))] [] (.v (.one (.ref 0 n))) [(0, .arr true 1 69 n f)] []:=by
 refine ct (nt:=8) ae Tryz.func131 rfl rfl l9 rfl ?_;refine sx7 ?_;refine cg true rfl rfl rfl rfl rfl trivial ?_;refine a6 ?_
 refine ww (ι:=Bool) (fun c=>⟨[(0,some (c5 (.sl n 1 c f)))],[]⟩) (fun _=>True) ?_ fun c _=>?_
 · rcases Nat.eq_zero_or_pos n with hz | h0
   · subst hz
     refine hw_exact' 0 rfl fun ad cap hcap=>?_
     refine sx7 ?_;(iterate 2 refine cg true rfl rfl rfl rfl rfl trivial ?_);refine a6 ?_;refine a8 ad.isNone rfl (fun hc=>?_) (fun hc=>?_)
     · refine sx7 ?_
       refine cg true rfl rfl rfl rfl rfl trivial ?_;refine a6 ?_;refine dw 2 0 true 1 69 f (by decide) rfl (CoP.sl rfl (.inr rfl) (fun h=>h) fun i j hi _=>absurd hi (Nat.not_lt_zero i)) (.inr rfl) rfl ?_
       refine aw ?_;refine ⟨.inr rfl, ?_⟩
       exact ⟨_,_,rfl,trivial,CoR.refl _,⟨u9,trivial⟩⟩
     · refine aa ?_
       exact ⟨false,trivial,⟨⟨_,rfl,CoP.raw_sl hcap⟩,trivial⟩,trivial⟩
   · refine sx7 ?_
     refine cg true rfl rfl rfl rfl rfl trivial ?_;refine cg true rfl rfl rfl rfl rfl h0 ?_;refine a6 ?_;refine a8 false rfl (fun hc=>by cases hc) (fun hc=>?_);refine aa ?_
     exact ⟨c,trivial,⟨c9,trivial⟩,trivial⟩
 · refine sx7 ?_
   refine sn 0 rfl rfl rfl rfl rfl rfl trivial ?_;refine cg true rfl rfl rfl rfl rfl trivial ?_
   refine a0w 0 true rfl rfl rfl rfl rfl rfl ⟨trivial,rfl,rfl,rfl, .inl rfl,by show 0 + n ≤ 9223372036854775807;omega,by show (0 + n) * 4 ≤ 140737488355328;omega,fun _=>.inl rfl⟩ ?_
   refine cg true rfl rfl rfl rfl rfl trivial ?_;refine a6 ?_;refine aw ?_;refine ⟨.inr rfl, ?_⟩
   refine ⟨_,_,rfl,trivial,CoR.of_eq (by show HR.v (.one (.ref 0 (0 + n))) = _;rw [Nat.zero_add]),⟨⟨_,rfl, ?_⟩,trivial⟩⟩
   exact ⟨fun h=>h,rfl,rfl,(Nat.zero_add n).symm,fun i j _ _=>CoP.of_eq (by simp [eo])⟩
theorem arc:aj Tryz.prog 62:=⟨Tryz.f62,Tryz.func62,by kernel_rfl,by kernel_rfl⟩
theorem aun (l:List AS) (g k:Nat) (caps:Nat → PV) (V:AS → Bool) (hg:aj Tryz.prog g) (hV:∀ x,ap Tryz.prog g (pA x :: oi caps k 0) (b4 [pB (V x)])):ap Tryz.prog 62 [pP (asl l),pP (.fn g k caps)] (b4 [pI (idx V l)]):=by
 refine ah (nt:=19) ae Tryz.func62 rfl rfl l9 ?_;refine a7 ?_
 refine j0 0 rfl fun hn=>?_
 refine gy ?_;refine qy ?_;refine a6 ?_;refine db (ι:=Unit) ⟨[],[]⟩ ⟨trivial,trivial⟩ (fun _i=>⟨[],[]⟩) (fun _i=>idx V l = -1) ?_ ?_
 ·
  refine sx7 ?_;(iterate 3 refine qy ?_);refine a6 ?_;refine af ?_
  refine av (ι:=Nat) ⟨[(0,some _),(1,some _),(7,some _)],[]⟩ ⟨⟨c9,c9,c9,trivial⟩,trivial⟩ (fun i=>⟨[(8,some (vI i))],[]⟩) (fun i=>i ≤ l.length ∧ (∀ j,j < i → V (l.getD j default) = false)) (fun i=>l.length - i) (0) (⟨Nat.zero_le _,dl⟩) ⟨⟨zy,trivial⟩,trivial⟩ ?_
  rintro i ⟨hi,hI⟩
  refine sx7 ?_;refine qy ?_;refine a6 ?_;refine a7 ?_;refine a8 _ rfl (fun r0=>?_) (fun r0=>?_)
  ·
   have h0:=of_decide_eq_true r0
   try simp only [ty] at h0
   refine aa ?_;refine a7 ?_;refine af ?_;refine sx7 ?_;(iterate 2 refine qy ?_);refine a6 ?_;refine sx7 ?_;(iterate 5 refine qy ?_)
   refine rc rfl rfl rfl rfl rfl rfl hg (hV (l.getD i default)) (CoL.refl _) rfl rfl ?_;refine a6 ?_;refine a8 _ rfl (fun r1=>?_) (fun r1=>?_)
   ·
    have h1:=r1
    refine sx7 ?_;(iterate 2 refine qy ?_);refine a6 ?_
    exact hx8 rfl rfl rfl (⟨cci (ya (i:=i) (by omega) hI h1).symm,trivial⟩)
   ·
    have h1:=r1
    refine aa ?_;refine gy ?_;(iterate 2 refine qy ?_);refine a6 ?_;refine ⟨i + 1, ?_, ?_, ?_⟩
    · exact ⟨by show i + 1 ≤ _;omega,da hI (h1)⟩
    · first | omega | (dsimp only;omega)
    · exact ⟨⟨zy,c9,c9,c9,trivial⟩,trivial⟩
  ·
   have h0:=of_decide_eq_false r0
   try simp only [ty] at h0
   refine au ?_;refine ⟨(), ?_, ?_⟩
   · exact xu fun j hj=>hI j (by omega)
   · exact ⟨trivial,trivial⟩
 · rintro _ hj
   refine sx7 ?_;refine qy ?_;refine a6 ?_
   exact hx8 rfl rfl rfl (⟨cci hj.symm,trivial⟩)
theorem acg:aj Tryz.prog 30:=⟨Tryz.f30,Tryz.func30,by kernel_rfl,by kernel_rfl⟩
theorem af3 (l:List AS) (g k:Nat) (caps:Nat → PV) (V:AS → Bool) (hg:aj Tryz.prog g) (hV:∀ x,ap Tryz.prog g (pA x :: oi caps k 0) (b4 [pB (V x)])):ap Tryz.prog 30 [pP (asl l),pP (.fn g k caps)] (b4 [pB (l.any V)]):=by
 refine ah (nt:=9) ae Tryz.func30 rfl rfl l9 ?_;refine sx7 ?_;refine qy ?_;refine a6 ?_;refine sx7 ?_;(iterate 2 refine qy ?_)
 refine rc rfl rfl rfl rfl rfl rfl arc (aun l g k caps V hg hV) (CoL.refl _) rfl rfl ?_;(iterate 2 refine qy ?_);refine a6 ?_
 exact hx8 rfl rfl rfl (⟨ccb agc,trivial⟩)
theorem aor:aj Tryz.prog 154:=⟨Tryz.f154,Tryz.func154,by kernel_rfl,by kernel_rfl⟩
theorem av1 (l:List Fd) (s:Fd):ap Tryz.prog 154 [pP (fdl l),s.pc] (b4 [pI (idx (fun x=>decide (x = s)) l)]):=by
 refine ah (nt:=19) ae Tryz.func154 rfl rfl l9 ?_;refine a7 ?_
 refine j0 0 rfl fun hn=>?_
 refine gy ?_;refine m9 0 ?_;refine qy ?_;refine a6 ?_;refine db (ι:=Unit) ⟨[],[]⟩ ⟨trivial,trivial⟩ (fun _i=>⟨[],[]⟩) (fun _i=>idx (fun x=>decide (x = s)) l = -1) ?_ ?_
 ·
  refine sx7 ?_;(iterate 3 refine qy ?_);refine a6 ?_;refine af ?_
  refine av (ι:=Nat) ⟨[(0,some _),(3,some _),(7,some _)],[(0,some _)]⟩ ⟨⟨c9,c9,c9,trivial⟩,⟨u9,trivial⟩⟩ (fun i=>⟨[(8,some (vI i))],[]⟩) (fun i=>i ≤ l.length ∧ (∀ j,j < i → decide (l.getD j default = s) = false)) (fun i=>l.length - i) (0) (⟨Nat.zero_le _,dl⟩) ⟨⟨zy,trivial⟩,trivial⟩ ?_
  rintro i ⟨hi,hI⟩
  refine sx7 ?_;refine qy ?_;refine a6 ?_;refine a7 ?_;refine a8 _ rfl (fun r0=>?_) (fun r0=>?_)
  ·
   have h0:=of_decide_eq_true r0
   try simp only [ty] at h0
   refine aa ?_;refine a7 ?_;refine af ?_;refine sx7 ?_;(iterate 2 refine qy ?_);refine a6 ?_;refine a7 ?_;refine ax (E:=aq) ae ak [0,1,2,3,4,5] ?_;(iterate 6 refine qy ?_)
   refine a6 ?_;refine ⟨by kernel_rfl, ?_⟩;refine a8 _ rfl (fun r1=>?_) (fun r1=>?_)
   ·
    have h1:=r1
    refine sx7 ?_;(iterate 2 refine qy ?_);refine a6 ?_
    exact hx8 rfl rfl rfl (⟨cci (ya (p:=fun x=>decide (x = s)) (i:=i) (by omega) hI (decide_eq_true (by simp_all [Fd.eq_iff,im]))).symm,trivial⟩)
   ·
    have h1:=r1
    refine aa ?_;refine gy ?_;(iterate 2 refine qy ?_);refine a6 ?_;refine ⟨i + 1, ?_, ?_, ?_⟩
    · exact ⟨by show i + 1 ≤ _;omega,da hI (decide_eq_false fun e=>by subst e;simp_all)⟩
    · first | omega | (dsimp only;omega)
    · exact ⟨⟨zy,c9,c9,c9,trivial⟩,⟨u9,trivial⟩⟩
  ·
   have h0:=of_decide_eq_false r0
   try simp only [ty] at h0
   refine au ?_;refine ⟨(), ?_, ?_⟩
   · exact xu (p:=fun x=>decide (x = s)) fun j hj=>hI j (by omega)
   · exact ⟨trivial,trivial⟩
 · rintro _ hj
   refine sx7 ?_;refine qy ?_;refine a6 ?_
   exact hx8 rfl rfl rfl (⟨cci hj.symm,trivial⟩)
theorem anz:aj Tryz.prog 126:=⟨Tryz.f126,Tryz.func126,by kernel_rfl,by kernel_rfl⟩
theorem avb (l:List Fd) (s:Fd):ap Tryz.prog 126 [pP (fdl l),s.pc] (b4 [pB (l.any fun x=>decide (x = s))]):=by
 refine ah (nt:=9) ae Tryz.func126 rfl rfl l9 ?_;refine sx7 ?_;refine m9 0 ?_;refine qy ?_;refine a6 ?_;refine sx7 ?_;(iterate 2 refine qy ?_)
 refine rc rfl rfl rfl rfl rfl rfl aor (av1 _ _) (CoL.refl _) rfl rfl ?_;(iterate 2 refine qy ?_);refine a6 ?_
 exact hx8 rfl rfl rfl (⟨ccb agc,trivial⟩)
end Go.Hx
end
section
namespace Go.Hx
def pr (s:AS) (i:Int):Bool:=decide (0 ≤ i ∧ i < 32) && s.getLsbD i.toNat
theorem tx {s:AS} {i:Nat} (h:i < 32):pr s i = s.getLsbD i:=by
 unfold pr
 rw [decide_eq_true (by omega)]
 simp
theorem a8u {s:AS} {i:Int} (h0:0 ≤ i) (h1:i < 32):decide (fc .and .u32 ((asI s).fdiv (2 ^ (min i.toNat 32))) 1 = 1) = pr s i:=by
 unfold pr
 rw [aaf,show (1:Int) = asI 1 from rfl,a0k,decide_eq_true (show 0 ≤ i ∧ i < 32 from ⟨h0,h1⟩),Bool.true_and]
 have e:asI (s >>> i.toNat &&& 1) = asI 1 ↔ s.getLsbD i.toNat = true:=by
  rw [im]
  constructor
  · intro h
    have:=congrArg (fun x:AS=>x.getLsbD 0) h
    simpa using this
  · intro h
    apply BitVec.eq_of_getLsbD_eq
    intro k hk
    have h1:(1:AS).getLsbD k = decide (k = 0):=by have:=l3 0 k hk;simpa using this
    rw [BitVec.getLsbD_and,BitVec.getLsbD_ushiftRight,h1]
    by_cases hk0:k = 0
    · subst hk0;simp [h]
    · simp [hk0]
 cases hb:s.getLsbD i.toNat with
 | true=>exact decide_eq_true (e.2 hb)
 | false=>exact decide_eq_false fun h=>by rw [e.1 h] at hb;cases hb
theorem acd {s:AS} {i:Int} (h:¬ (0 ≤ i ∧ i < 32)):pr s i = false:=by
 unfold pr
 rw [decide_eq_false h]
 rfl
theorem acs {n:Nat} (h:n ≤ 32):kn n = BitVec.ofNat 32 (2 ^ n - 1):=by
 apply BitVec.eq_of_getLsbD_eq
 intro k hk
 rw [np n k hk,BitVec.getLsbD_ofNat,Nat.testBit_two_pow_sub_one]
 simp [hk]
theorem acw {n:Nat} (h:n ≤ 32):(kn n).toNat = 2 ^ n - 1:=by
 have h2:2 ^ n ≤ 2 ^ 32:=Nat.pow_le_pow_right (by omega) h
 have h3:0 < 2 ^ n:=Nat.two_pow_pos n
 rw [acs h,BitVec.toNat_ofNat,Nat.mod_eq_of_lt (by omega)]
theorem a9u {n:Int} (h0:0 ≤ n) (h1:n ≤ 16):IntKind.wrap .u32 (1 * 2 ^ (min n.toNat 32)) - 1 = asI (b6 n):=by
 have h2:2 ^ n.toNat ≤ 2 ^ 16:=Nat.pow_le_pow_right (by omega) (by omega)
 have h3:0 < 2 ^ n.toNat:=Nat.two_pow_pos _
 rw [show IntKind.wrap .u32 (1 * 2 ^ (min n.toNat 32)) = asI ((1:AS) <<< n.toNat) from vf 1 n.toNat]
 unfold b6 asI
 rw [Nat.min_eq_left (by omega),acw (by omega),BitVec.toNat_shiftLeft,Nat.shiftLeft_eq]
 rw [show (1:AS).toNat = 1 from rfl,Nat.one_mul,Nat.mod_eq_of_lt (by omega)]
 omega
theorem alv {n:Int} (h0:0 ≤ n) (h1:n ≤ 16):0 ≤ IntKind.wrap .u32 (1 * 2 ^ (min n.toNat 32)) - 1:=by rw [a9u h0 h1];exact wc _
theorem ajj {n:Int} (h0:0 ≤ n) (h1:n ≤ 16):IntKind.wrap .u32 (1 * 2 ^ (min n.toNat 32)) - 1 ≤ 4294967295:=by rw [a9u h0 h1];have:=a0f (b6 n);omega
theorem ajw {a b:List Fd} (h:a.length = b.length) (hI:∀ j,j < a.length → decide (a.getD j default = b.getD j default) = true):a = b:=a1p h fun j hj=>of_decide_eq_true (hI j hj)
def ax0 (n:Int) (l:List Fd) (s:AS):Bool:=decide (ale n l = 0 ∧ sub s (b6 n) ∧ clo l s = b6 n)
section
variable {n:Int} {l:List Fd} {s:AS}
end
def ax4 (n:Int) (l:List Fd) (m:Int):Int:=if ale n l = 0 then (if m < n then 3 else 0) else ale n l
structure Dp where
 l:BitVec 8
 r:BitVec 8
deriving Inhabited
def Dp.c (d:Dp):Nat → PV
 | 0=>.raw (.int .u8 (d.l.toNat:Int))
 | 1=>.raw (.int .u8 (d.r.toNat:Int))
 | _=>.any
abbrev dpl (l:List Dp):PV:=psl 2 Dp.c l
def Dp.fd (n:Int) (d:Dp):Fd:=⟨d.l.setWidth 32 &&& b6 n,d.r.setWidth 32 &&& b6 n⟩
end Go.Hx
end
section
namespace Go.Hx
open Go.Proofs
set_option maxRecDepth 100000
theorem adz:aj Tryz.prog 166:=⟨Tryz.f166,Tryz.func166,by kernel_rfl,by kernel_rfl⟩
theorem aqx (s:AS) (i:Int):ap Tryz.prog 166 [pA s,pI i] (b4 [pB (pr s i)]):=by
 refine ah (nt:=18) ae Tryz.func166 rfl rfl l9 ?_;refine sx7 ?_;refine qy ?_;refine a6 ?_;refine sx7 ?_;(iterate 3 refine qy ?_);refine b5 rfl rfl (fun r0=>?_) (fun r0=>?_)
 ·
  have h0:=of_decide_eq_true r0
  try simp only [ty] at h0
  (iterate 2 refine qy ?_ (hg:=(gtt r0)));(iterate 2 refine qy ?_);refine b5 rfl rfl (fun r1=>?_) (fun r1=>?_)
  ·
   have h1:=r1
   have h1:=d4 r0 h1
   have h1:=of_decide_eq_true h1
   try simp only [ty] at h1
   (iterate 5 refine qy ?_ (hg:=(gtt r1)));(iterate 2 refine qy ?_);refine a6 ?_
   exact hx8 rfl rfl rfl (⟨ccb (by first | exact x4 (by assumption) (a8u (by omega) (by omega)) | exact (acd (by omega)).symm),trivial⟩)
  ·
   have h1:=r1
   have h1:=d4 r0 h1
   have h1:=of_decide_eq_false h1
   try simp only [ty] at h1
   (iterate 5 refine k9 (gft r1) ?_);refine rq rfl rfl rfl rfl rfl ?_ (hp:=r1);refine qy ?_;refine a6 ?_
   exact hx8 rfl rfl rfl (⟨ccb (by first | exact x4 (by assumption) (a8u (by omega) (by omega)) | exact (acd (by omega)).symm),trivial⟩)
 ·
  have h0:=of_decide_eq_false r0
  try simp only [ty] at h0
  (iterate 2 refine k9 (gft r0) ?_);refine rq rfl rfl rfl rfl rfl ?_ (hp:=r0);refine qy ?_;(iterate 5 refine k9 rfl ?_);(iterate 2 refine qy ?_);refine a6 ?_
  exact hx8 rfl rfl rfl (⟨ccb (by first | exact x4 (by assumption) (a8u (by omega) (by omega)) | exact (acd (by omega)).symm),trivial⟩)
theorem a3x:aj Tryz.prog 25:=⟨Tryz.f25,Tryz.func25,by kernel_rfl,by kernel_rfl⟩
theorem a4e (a b:List Fd):ap Tryz.prog 25 [pP (fdl a),pP (fdl b)] (b4 [pB (decide (a = b))]):=by
 refine ah (nt:=26) ae Tryz.func25 rfl rfl l9 ?_;refine a7 ?_
 refine j0 0 rfl fun hn=>?_
 refine gy ?_;refine qy ?_;refine a6 ?_;refine a7 ?_;refine sx7 ?_;(iterate 5 refine qy ?_);refine a6 ?_;refine a8 _ rfl (fun r0=>?_) (fun r0=>?_)
 ·
  have h0:=r0
  have h0:=of_decide_eq_false (be h0)
  try simp only [ty] at h0
  refine sx7 ?_;refine qy ?_;refine a6 ?_
  exact hx8 rfl rfl rfl (⟨ccb (decide_eq_false fun e=>by subst e;omega).symm,trivial⟩)
 ·
  have h0:=r0
  have h0:=of_decide_eq_true (bf h0)
  try simp only [ty] at h0
  refine aa ?_;refine db (ι:=Unit) ⟨[],[]⟩ ⟨trivial,trivial⟩ (fun _i=>⟨[],[]⟩) (fun _i=>a = b) ?_ ?_
  ·
   refine sx7 ?_;refine qy ?_;refine a6 ?_;refine af ?_
   refine av (ι:=Nat) ⟨[(0,some _),(1,some _)],[]⟩ ⟨⟨c9,c9,trivial⟩,trivial⟩ (fun i=>⟨[(5,some (vI i))],[]⟩) (fun i=>i ≤ a.length ∧ (∀ j,j < i → decide (a.getD j default = b.getD j default) = true)) (fun i=>a.length - i) (0) (⟨Nat.zero_le _,dl⟩) ⟨⟨zy,trivial⟩,trivial⟩ ?_
   rintro i ⟨hi,hI⟩
   refine a7 ?_;refine sx7 ?_;(iterate 4 refine qy ?_);refine a6 ?_;refine a8 _ rfl (fun r1=>?_) (fun r1=>?_)
   ·
    have h1:=of_decide_eq_true r1
    try simp only [ty] at h1
    refine aa ?_;refine a7 ?_;refine af ?_;refine a7 ?_;refine ax (E:=aq) ae ak [0,1,2,3,4,5,6,7,8] ?_;(iterate 9 refine qy ?_);refine a6 ?_;refine ⟨by kernel_rfl, ?_⟩
    refine a8 _ rfl (fun r2=>?_) (fun r2=>?_)
    ·
     have h2:=r2
     refine sx7 ?_;refine qy ?_;refine a6 ?_
     exact hx8 rfl rfl rfl (⟨ccb (decide_eq_false fun e=>by subst e;simp_all).symm,trivial⟩)
    ·
     have h2:=r2
     refine aa ?_;refine gy ?_;(iterate 3 refine qy ?_);refine a6 ?_;refine ⟨i + 1, ?_, ?_, ?_⟩
     · exact ⟨by show i + 1 ≤ _;omega,da hI (decide_eq_true (by simp_all [Fd.eq_iff,im]))⟩
     · first | omega | (dsimp only;omega)
     · exact ⟨⟨zy,c9,c9,trivial⟩,trivial⟩
   ·
    have h1:=of_decide_eq_false r1
    try simp only [ty] at h1
    refine au ?_;refine ⟨(), ?_, ?_⟩
    · exact ajw (by omega) fun j hj=>hI j (by omega)
    · exact ⟨trivial,trivial⟩
  · rintro _ hj
    refine sx7 ?_;refine qy ?_;refine a6 ?_
    exact hx8 rfl rfl rfl (⟨ccb (decide_eq_true hj).symm,trivial⟩)
end Go.Hx
end
section
namespace Go.Hx
def bsz (s:AS):Nat:=(List.range 32).countP fun i=>s.getLsbD i
def bef (a b:AS):Bool:=decide (bsz a < bsz b) || (decide (bsz a = bsz b) && decide (a.toNat < b.toNat))
theorem kx (a:AS):bef a a = false:=by simp [bef]
theorem gk {a b:AS}:bef a b = true ↔ bsz a < bsz b ∨ (bsz a = bsz b ∧ a.toNat < b.toNat):=by simp [bef]
theorem lm {a b c:AS} (h:bef a b = true) (k:bef b c = true):bef a c = true:=by
 rw [gk] at *
 omega
theorem py {a b:AS} (h:a ≠ b):bef a b = true ∨ bef b a = true:=by
 have hn:a.toNat ≠ b.toNat:=fun e=>h (BitVec.eq_of_toNat_eq e)
 rw [gk,gk]
 omega
theorem a3o {a b:AS} (h:bef a b = true):bef b a = false:=by
 rw [Bool.eq_false_iff]
 intro k
 have:=lm h k
 rw [kx] at this
 cases this
def ir (l:List AS):Prop:=l.Pairwise fun a b=>bef a b = true
theorem ku:∀ {l k:List AS},ir l → ir k → (∀ x,x ∈ l ↔ x ∈ k) → l = k
 | [],[],_,_,_=>rfl
 | [],y :: k,_,_,h=>absurd ((h y).2 (List.mem_cons_self ..)) (by simp)
 | x :: l,[],_,_,h=>absurd ((h x).1 (List.mem_cons_self ..)) (by simp)
 | x :: l,y :: k,hl,hk,h=>by
  obtain ⟨h1,h2⟩:=List.pairwise_cons.1 hl
  obtain ⟨k1,k2⟩:=List.pairwise_cons.1 hk
  have e:x = y:=by
   rcases List.mem_cons.1 ((h x).1 (List.mem_cons_self ..)) with e | hx
   · exact e
   · rcases List.mem_cons.1 ((h y).2 (List.mem_cons_self ..)) with e | hy
     · exact e.symm
     · have:=a3o (k1 x hx)
       rw [h1 y hy] at this
       cases this
  subst e
  congr 1
  refine ku h2 k2 fun z=>?_
  constructor
  · intro hz
    rcases List.mem_cons.1 ((h z).1 (List.mem_cons_of_mem _ hz)) with e | hz'
    · subst e
      have:=h1 z hz
      rw [kx] at this
      cases this
    · exact hz'
  · intro hz
    rcases List.mem_cons.1 ((h z).2 (List.mem_cons_of_mem _ hz)) with e | hz'
    · subst e
      have:=k1 z hz
      rw [kx] at this
      cases this
    · exact hz'
def jc (x:AS):List AS → List AS
 | []=>[x]
 | y :: l=>if x = y then y :: l else if bef x y = true then x :: y :: l else y :: jc x l
theorem ub {x z:AS}:∀ {l:List AS},z ∈ jc x l ↔ z = x ∨ z ∈ l
 | []=>by simp [jc]
 | y :: l=>by
  unfold jc
  split
  · rename_i e
    subst e
    simp
  · split
    · simp
    · rw [List.mem_cons,ub,List.mem_cons]
      constructor
      · rintro (h | h | h) <;> simp [h]
      · rintro (h | h | h) <;> simp [h]
theorem uk {x:AS}:∀ {l:List AS},ir l → ir (jc x l)
 | [],_=>by simp [jc,ir]
 | y :: l,h=>by
  obtain ⟨h1,h2⟩:=List.pairwise_cons.1 h
  unfold jc
  split
  · exact h
  · split
    · rename_i hxy
      refine List.pairwise_cons.2 ⟨fun z hz=>?_,h⟩
      rcases List.mem_cons.1 hz with rfl | hz
      · exact hxy
      · exact lm hxy (h1 z hz)
    · rename_i hne hxy
      refine List.pairwise_cons.2 ⟨fun z hz=>?_,uk h2⟩
      rcases ub.1 hz with rfl | hz
      · exact (py hne).resolve_left hxy
      · exact h1 z hz
def ord (l:List AS):List AS:=l.foldl (fun o x=>jc x o) []
theorem a67:∀ {l o:List AS},ir o → ir (l.foldl (fun o x=>jc x o) o) ∧ ∀ z,z ∈ l.foldl (fun o x=>jc x o) o ↔ z ∈ o ∨ z ∈ l
 | [],o,h=>⟨h,fun z=>by simp⟩
 | x :: l,o,h=>by
  obtain ⟨h1,h2⟩:=a67 (l:=l) (uk (x:=x) h)
  refine ⟨h1,fun z=>?_⟩
  show z ∈ l.foldl (fun o x=>jc x o) (jc x o) ↔ _
  rw [h2 z,ub,List.mem_cons]
  constructor
  · rintro ((h | h) | h) <;> simp [h]
  · rintro (h | h | h) <;> simp [h]
theorem f7 (l:List AS):ir (ord l):=(a67 (o:=[]) List.Pairwise.nil).1
theorem t7 {l:List AS} {z:AS}:z ∈ ord l ↔ z ∈ l:=by
 show z ∈ l.foldl (fun o x=>jc x o) [] ↔ _
 rw [(a67 (l:=l) (o:=[]) List.Pairwise.nil).2 z]
 simp
theorem ahp {l k:List AS} (hk:ir k) (h:∀ z,z ∈ k ↔ z ∈ l):k = ord l:=ku hk (f7 l) fun z=>by rw [h z,t7]
end Go.Hx
end
section
namespace Go.Hx
def aft (s:AS):List Nat:=(List.range 32).filter fun i=>s.getLsbD i
def iC:Nat → Nat → PV:=fun n _=>.raw (.int .i64 (n:Int))
abbrev il (l:List Nat):PV:=psl 1 iC l
theorem ah7 (s:AS):bsz s = (aft s).length:=by unfold bsz aft;rw [List.countP_eq_length_filter]
def awv (s:AS):Nat:=Lib.ctz 32 s.toNat
end Go.Hx
end
section
namespace Go.Hx
theorem a64 {id n m:Nat} (h:n = m):CoR (.v (.one (.ref id n))) (.v (.one (.ref id m))):=by subst h;exact CoR.refl _
section
variable {α:Type} [Inhabited α]
theorem a0x {wr wr':Bool} {s m:Nat} {e:TypeId} {c:α → Nat → PV} {l l':List α} {x:α} {g:Nat → Nat → PV} (h:l' = l ++ [x]) (hg:∀ j,j < s → CoP (g 0 j) (c x j)) (hm:m = 1:=by rfl) (hw:wr' = true → wr = true:=by exact fun h=>h) :
 CoO (.arr wr s e (l.length + m) (eo l.length (lf c l) g)) (.arr wr' s e l'.length (lf c l')):=by
 subst h
 refine ab1 [x] hw hm fun i j hi hj=>?_
 obtain rfl:i = 0:=by simp at hi;exact hi
 exact hg j hj
theorem ci {wr wr':Bool} {s:Nat} {e:TypeId} {c:α → Nat → PV} {l l':List α} (h:l' = l) (hw:wr' = true → wr = true:=by exact fun h=>h):CoO (.arr wr s e l.length (lf c l)) (.arr wr' s e l'.length (lf c l')):=by
 subst h
 exact ⟨hw,rfl,rfl,rfl,fun _ _ _ _=>CoP.refl _⟩
end
section
variable {α:Type} [Inhabited α]
theorem df {id:Nat} {l l':List α} {x:α} (h:l' = l ++ [x]):CoR (.v (.one (.ref id (l.length + 1)))) (.v (.one (.ref id l'.length))):=by subst h;rw [List.length_append];exact CoR.refl _
theorem d5 {id:Nat} {l l':List α} (h:l' = l):CoR (.v (.one (.ref id l.length))) (.v (.one (.ref id l'.length))):=by subst h;exact CoR.refl _
theorem dx {wr wr':Bool} {e:TypeId} {c:α → Nat → PV} {l l':List α} {x:α} {g:Nat → Nat → PV} (h:l' = l ++ [x]) (hg:CoP (g 0 0) (c x 0)) (hw:wr' = true → wr = true:=by exact fun h=>h) :
 CoO (.arr wr 1 e (l.length + 1) (eo l.length (lf c l) g)) (.arr wr' 1 e l'.length (lf c l')) :=
 a0x h (fun j hj=>by
  obtain rfl:j = 0:=by omega
  exact hg) rfl hw
theorem ji {wr wr':Bool} {e:TypeId} {c:α → Nat → PV} {l l':List α} {x:α} {g:Nat → Nat → PV} (h:l' = l ++ [x]) (h0:CoP (g 0 0) (c x 0)) (h1:CoP (g 0 1) (c x 1)) (hw:wr' = true → wr = true:=by exact fun h=>h) :
 CoO (.arr wr 2 e (l.length + 1) (eo l.length (lf c l) g)) (.arr wr' 2 e l'.length (lf c l')) :=
 a0x h (fun j hj=>by
  rcases (by omega:j = 0 ∨ j = 1) with rfl | rfl
  · exact h0
  · exact h1) rfl hw
end
def oq (s:AS) (i:Nat):List Nat:=(List.range i).filter fun k=>s.getLsbD k
theorem a1k {s:AS} {i:Nat} (hi:i < 32) (h:pr s (i:Int) = true):oq s (i + 1) = oq s i ++ [i]:=by
 rw [tx hi] at h
 unfold oq
 rw [List.range_succ,List.filter_append]
 simp [h]
theorem a18 {s:AS} {i:Nat} (hi:i < 32) (h:pr s (i:Int) = false):oq s (i + 1) = oq s i:=by
 rw [tx hi] at h
 unfold oq
 rw [List.range_succ,List.filter_append]
 simp [h]
theorem ai3 (s:AS) (i:Nat):(oq s i).length ≤ i:=by
 unfold oq
 have:=List.length_filter_le (fun k=>s.getLsbD k) (List.range i)
 rwa [List.length_range] at this
end Go.Hx
end
section
namespace Go.Hx
def mj (b:Nat):Nat:=(List.range 8).countP fun i=>b.testBit i
theorem nf (p:Nat → Bool) (a b:Nat):(List.range (a + b)).countP p = (List.range a).countP p + (List.range b).countP fun i=>p (a + i):=by
 rw [List.range_add,List.countP_append,List.countP_map]
 rfl
theorem akd {n k j:Nat} (hj:j < 8):(n / 2 ^ k % 256).testBit j = n.testBit (k + j):=by
 rw [show (256:Nat) = 2 ^ 8 from rfl,Nat.testBit_mod_two_pow,Nat.testBit_div_two_pow,Nat.add_comm]
 simp [hj]
theorem atm (n:Nat) (hn:n < 2 ^ 32):(List.range (8 + (8 + (8 + 8)))).countP (fun i=>n.testBit i) = mj (n / 2 ^ 24) + mj (n / 2 ^ 16 % 256) + mj (n / 2 ^ 8 % 256) + mj (n % 256):=by
 have h:∀ k,(List.range 8).countP (fun i=>n.testBit (k + i)) = mj (n / 2 ^ k % 256):=fun k=>by
  unfold mj
  apply List.countP_congr
  intro j hj
  rw [akd (List.mem_range.1 hj)]
 have h3:n / 2 ^ 24 % 256 = n / 2 ^ 24:=Nat.mod_eq_of_lt (by omega)
 have h0:=h 0
 simp only [Nat.zero_add,Nat.pow_zero,Nat.div_one] at h0
 rw [nf,nf,nf,h0]
 have e2:=h 8
 have e3:=h 16
 have e4:=h 24
 rw [h3] at e4
 simp only [← Nat.add_assoc] at *
 simp only [Nat.reduceAdd] at *
 rw [e2,e3,e4]
 omega
theorem ahz (s:AS):bsz s = mj (s.toNat / 2 ^ 24) + mj (s.toNat / 2 ^ 16 % 256) + mj (s.toNat / 2 ^ 8 % 256) + mj (s.toNat % 256):=atm s.toNat s.isLt
theorem a0z (b:Nat):mj b ≤ 8:=by
 have:=List.countP_le_length (p:=fun i=>b.testBit i) (l:=List.range 8)
 rwa [List.length_range] at this
theorem amn (s:AS) (k:Nat) (hk:k ≤ 32):((asI s).fdiv (2 ^ (min k 32))).toNat = s.toNat / 2 ^ k:=by
 rw [aaf]
 show (((s >>> k).toNat:Nat):Int).toNat = _
 rw [Int.toNat_natCast,BitVec.toNat_ushiftRight,Nat.shiftRight_eq_div_pow]
theorem afo (s:AS) (k:Nat) (hk:k ≤ 32):(fc .and .u32 ((asI s).fdiv (2 ^ (min k 32))) 255).toNat = s.toNat / 2 ^ k % 256:=by
 rw [aaf,show (255:Int) = asI 255 from rfl,a0k]
 show (((s >>> k &&& 255).toNat:Nat):Int).toNat = _
 rw [Int.toNat_natCast,BitVec.toNat_and,BitVec.toNat_ushiftRight,Nat.shiftRight_eq_div_pow,show (255:AS).toNat = 2 ^ 8 - 1 from rfl,Nat.and_two_pow_sub_one_eq_mod]
theorem amb (s:AS):(fc .and .u32 (asI s) 255).toNat = s.toNat % 256:=by
 rw [show (255:Int) = asI 255 from rfl,a0k]
 show (((s &&& 255).toNat:Nat):Int).toNat = _
 rw [Int.toNat_natCast,BitVec.toNat_and,show (255:AS).toNat = 2 ^ 8 - 1 from rfl,Nat.and_two_pow_sub_one_eq_mod]
theorem ajm (a b:Int):0 ≤ fc .and .u32 a b:=by
 show 0 ≤ IntKind.wrap .u32 _
 rw [abh (Int.natCast_nonneg _) (by have:=(BitVec.ofInt 32 a &&& BitVec.ofInt 32 b).isLt;show ((BitVec.ofInt 32 a &&& BitVec.ofInt 32 b).toNat:Int) < _;omega)]
 exact Int.natCast_nonneg _
theorem anq (s:AS) (k:Nat):0 ≤ (asI s).fdiv (2 ^ (min k 32)):=by rw [aaf];exact wc _
theorem av4 {X:ByteArray} (s:AS) (hX:(256:Int) ≤ X.size):0 ≤ (asI s).fdiv (2 ^ (min 24 32)) ∧ (asI s).fdiv (2 ^ (min 24 32)) < X.size:=by
 have h1:=anq s 24
 have h2:=amn s 24 (by omega)
 have:=s.isLt
 exact ⟨h1,by omega⟩
theorem ixM {X:ByteArray} (s:AS) (k:Nat) (hk:k ≤ 32) (hX:(256:Int) ≤ X.size):0 ≤ fc .and .u32 ((asI s).fdiv (2 ^ (min k 32))) 255 ∧ fc .and .u32 ((asI s).fdiv (2 ^ (min k 32))) 255 < X.size:=by
 have h1:=ajm ((asI s).fdiv (2 ^ (min k 32))) 255
 have h2:=afo s k hk
 exact ⟨h1,by omega⟩
theorem ixL {X:ByteArray} (s:AS) (hX:(256:Int) ≤ X.size):0 ≤ fc .and .u32 (asI s) 255 ∧ fc .and .u32 (asI s) 255 < X.size:=by
 have h1:=ajm (asI s) 255
 have h2:=amb s
 exact ⟨h1,by omega⟩
theorem a6k {n:Int} (h0:0 ≤ n) (h1:n < 256):IntKind.wrap .u8 n = n:=pb (by simp only [inR,jq,lg];omega)
theorem agj {n:Int} (h0:0 ≤ n) (h1:n < 256):IntKind.wrap .i64 n = n:=pb (by simp only [inR,jq,lg];omega)
theorem aqm {X:ByteArray} {s:AS} {i0 i1 i2 i3:Nat} (hX:∀ b,b < 256 → cu X b = (mj b:Int)) (h0:i0 = s.toNat / 2 ^ 24) (h1:i1 = s.toNat / 2 ^ 16 % 256) (h2:i2 = s.toNat / 2 ^ 8 % 256) (h3:i3 = s.toNat % 256) :
 IntKind.wrap .i64 (IntKind.wrap .u8 (IntKind.wrap .u8 (IntKind.wrap .u8 (cu X i0 + cu X i1) + cu X i2) + cu X i3)) = (bsz s:Int):=by
 have:=s.isLt
 subst h0 h1 h2 h3
 rw [hX _ (by omega),hX _ (by omega),hX _ (by omega),hX _ (by omega)]
 have a0:=a0z (s.toNat / 2 ^ 24)
 have a1:=a0z (s.toNat / 2 ^ 16 % 256)
 have a2:=a0z (s.toNat / 2 ^ 8 % 256)
 have a3:=a0z (s.toNat % 256)
 rw [ahz]
 generalize mj (s.toNat / 2 ^ 24) = c0 at *
 generalize mj (s.toNat / 2 ^ 16 % 256) = c1 at *
 generalize mj (s.toNat / 2 ^ 8 % 256) = c2 at *
 generalize mj (s.toNat % 256) = c3 at *
 rw [a6k (n:=c0 + c1) (by omega) (by omega),a6k (n:=c0 + c1 + c2) (by omega) (by omega),a6k (n:=c0 + c1 + c2 + c3) (by omega) (by omega),agj (n:=c0 + c1 + c2 + c3) (by omega) (by omega)]
 omega
theorem arm (s:AS):bsz s ≤ 32:=by
 have:=List.countP_le_length (p:=fun i=>s.getLsbD i) (l:=List.range 32)
 rwa [List.length_range] at this
theorem agz {s:AS} (h:s ≠ 0):asI s - 1 = asI (s - 1):=by
 have h0:s.toNat ≠ 0:=fun e=>h (BitVec.eq_of_toNat_eq e)
 have:=s.isLt
 have e1:(s - 1).toNat = s.toNat - 1:=by
  rw [BitVec.toNat_sub]
  show (2 ^ 32 - 1 + s.toNat) % 2 ^ 32 = _
  omega
 unfold asI
 rw [e1]
 omega
theorem akn {s:AS} (h:s ≠ 0):(fv true .u32 (asI s - 1)).1:=by
 rw [agz h]
 have h1:=wc (s - 1)
 have h2:=a0f (s - 1)
 simp only [fv,inR,jq,lg]
 omega
def fh (a b:Int):Int:=if a < b then -1 else if b < a then 1 else 0
def p9 (a b:AS):Int:=if fh (bsz a) (bsz b) = 0 then fh (asI a) (asI b) else fh (bsz a) (bsz b)
end Go.Hx
end
section
namespace Go.Hx
open Go.Proofs
set_option maxRecDepth 100000
theorem apb:aj Tryz.prog 165:=⟨Tryz.f165,Tryz.func165,by kernel_rfl,by kernel_rfl⟩
theorem au7 (s:AS):ap Tryz.prog 165 [pA s] (b4 [pP (il (aft s))]):=by
 refine ah (nt:=17) ae Tryz.func165 rfl rfl l9 ?_;refine sx7 ?_;refine qy ?_;refine a6 ?_;refine sx7 ?_;refine qy ?_;refine a6 ?_;refine a7 ?_;refine sx7 ?_;refine qy ?_;refine a6 ?_
 refine af ?_;refine dw 3 900 true 1 3 (lf iC []) (by decide) rfl (CoP.sl rfl (.inr rfl) (fun h=>h) (fun i j hi _=>absurd hi (Nat.not_lt_zero i))) (.inr rfl) rfl ?_
 refine av (ι:=Nat) ⟨[(0,some _)],[]⟩ ⟨⟨c9,trivial⟩,trivial⟩ (fun i=>⟨[(3,some (.v (.one (.ref 900 (oq s i).length)))),(4,some (vI i))],[(900,some (.arr true 1 3 (oq s i).length (lf iC (oq s i))))]⟩) (fun i=>i ≤ 32) (fun i=>32 - i) (0) (Nat.zero_le _) ⟨⟨zy,zy,trivial⟩,⟨u9,trivial⟩⟩ ?_
 rintro i hi
 have hlen:=ai3 s i
 refine a7 ?_;refine sx7 ?_;(iterate 2 refine qy ?_);refine a6 ?_;refine a8 _ rfl (fun r0=>?_) (fun r0=>?_)
 ·
  have h0:=of_decide_eq_true r0
  try simp only [ty] at h0
  refine aa ?_;refine a7 ?_;refine af ?_;refine sx7 ?_;(iterate 2 refine qy ?_);refine rc rfl rfl rfl rfl rfl rfl adz (aqx s i) (CoL.refl _) rfl rfl ?_;refine a6 ?_
  refine a8 _ rfl (fun r1=>?_) (fun r1=>?_)
  ·
   have h1:=r1
   refine gy ?_;(iterate 2 refine qy ?_);refine m9 0 ?_;refine ra 1 true rfl rfl rfl rfl rfl rfl ?_;refine qy ?_;refine a6 ?_;refine gy ?_;(iterate 3 refine qy ?_);refine a6 ?_
   first | (refine ⟨i + 1, ?_, ?_, ?_⟩
            · show i + 1 ≤ _;omega
            · first | omega | (dsimp only;omega)
            · exact ⟨⟨⟨_,rfl,(df (a1k (by omega) (by assumption)))⟩,zy,c9,trivial⟩,⟨⟨_,rfl,(dx (a1k (by omega) (by assumption)) (CoP.refl _))⟩,trivial⟩⟩)
         | (refine ⟨i + 1, ?_, ?_, ?_⟩
            · show i + 1 ≤ _;omega
            · first | omega | (dsimp only;omega)
            · exact ⟨⟨⟨_,rfl,(d5 (a18 (by omega) (by assumption)))⟩,zy,c9,trivial⟩,⟨⟨_,rfl,(ci (a18 (by omega) (by assumption)))⟩,trivial⟩⟩)
  ·
   have h1:=r1
   refine aa ?_;refine gy ?_;(iterate 3 refine qy ?_);refine a6 ?_
   first | (refine ⟨i + 1, ?_, ?_, ?_⟩
            · show i + 1 ≤ _;omega
            · first | omega | (dsimp only;omega)
            · exact ⟨⟨⟨_,rfl,(df (a1k (by omega) (by assumption)))⟩,zy,c9,trivial⟩,⟨⟨_,rfl,(dx (a1k (by omega) (by assumption)) (CoP.refl _))⟩,trivial⟩⟩)
         | (refine ⟨i + 1, ?_, ?_, ?_⟩
            · show i + 1 ≤ _;omega
            · first | omega | (dsimp only;omega)
            · exact ⟨⟨⟨_,rfl,(d5 (a18 (by omega) (by assumption)))⟩,zy,c9,trivial⟩,⟨⟨_,rfl,(ci (a18 (by omega) (by assumption)))⟩,trivial⟩⟩)
 ·
  have h0:=of_decide_eq_false r0
  try simp only [ty] at h0
  obtain rfl:i = 32:=by omega
  refine au ?_;refine sx7 ?_;(iterate 2 refine qy ?_);refine a6 ?_;refine dn 2 rfl rfl rfl ?_
  exact hx8 rfl rfl rfl (⟨CoC.one (CoP.refl _),trivial⟩)
theorem pa:aj Tryz.prog 148:=⟨Tryz.f148,Tryz.func148,by kernel_rfl,by kernel_rfl⟩
theorem ui (s:AS):ap Tryz.prog 148 [pA s] (b4 [pI (bsz s)]):=by
 refine ah (nt:=6) ae Tryz.func148 rfl rfl l9 ?_;refine sx7 ?_;refine qy ?_;refine a6 ?_;refine sx7 ?_;refine qy ?_;refine rc rfl rfl rfl rfl rfl rfl apb (au7 s) (CoL.refl _) rfl rfl ?_
 (iterate 2 refine qy ?_);refine a6 ?_
 exact hx8 rfl rfl rfl (⟨cci (by rw [ah7]),trivial⟩)
theorem apk:aj Tryz.prog 110:=⟨Tryz.f110,Tryz.func110,by kernel_rfl,by kernel_rfl⟩
theorem auf (s:AS):ap Tryz.prog 110 [pA s] (b4 [pI (bsz s)]):=by
 refine ah (nt:=21) ae Tryz.func110 rfl rfl l9 ?_;refine sx7 ?_;refine qy ?_;refine a6 ?_;refine a7 ?_
 refine ax (E:=aq) ae ak [0,1,2,3,4,5,6,7,8,9,10,11,12,13,14,15,16,17,18] ?_;(iterate 2 refine qy ?_);refine rq rfl rfl rfl rfl rfl ?_ (hp:=(av4 s (by decide +kernel)))
 (iterate 3 refine qy ?_);refine rq rfl rfl rfl rfl rfl ?_ (hp:=(ixM s 16 (by omega) (by decide +kernel)));refine rqw rfl rfl rfl rfl rfl ?_;(iterate 3 refine qy ?_)
 refine rq rfl rfl rfl rfl rfl ?_ (hp:=(ixM s 8 (by omega) (by decide +kernel)));refine rqw rfl rfl rfl rfl rfl ?_;(iterate 2 refine qy ?_);refine rq rfl rfl rfl rfl rfl ?_ (hp:=(ixL s (by decide +kernel)))
 (iterate 2 refine rqw rfl rfl rfl rfl rfl ?_);refine qy ?_;refine a6 ?_;refine ⟨by kernel_rfl, ?_⟩
 exact hx8 rfl rfl rfl (⟨cci (aqm (by decide +kernel) (amn s 24 (by omega)) (afo s 16 (by omega)) (afo s 8 (by omega)) (amb s)),trivial⟩)
theorem a07:aj Tryz.prog 72:=⟨Tryz.f72,Tryz.func72,by kernel_rfl,by kernel_rfl⟩
theorem a4j (s:AS):ap Tryz.prog 72 [pA s] (b4 [pI (bsz s)]):=by
 refine ah (nt:=5) ae Tryz.func72 rfl rfl l9 ?_;refine sx7 ?_;refine qy ?_;refine a6 ?_;refine sx7 ?_;refine qy ?_;refine rc rfl rfl rfl rfl rfl rfl apk (auf s) (CoL.refl _) rfl rfl ?_;refine qy ?_
 refine a6 ?_
 exact hx8 rfl rfl rfl (CoL.refl _)
end Go.Hx
end
section
namespace Go.Hx
def j2 (l:List AS) (k:Nat) (r:AS):List AS:=l.take k ++ r :: l.drop k
theorem jk {l:List AS} {k:Nat} {r:AS} (h:k ≤ l.length):(j2 l k r).length = l.length + 1:=by simp [j2];omega
theorem aky {l:List AS} {r:AS}:j2 l l.length r = l ++ [r]:=by simp [j2]
theorem xo {l:List AS} {k i:Nat} {r:AS} (h:k ≤ l.length):(j2 l k r)[i]? = if i < k then l[i]? else if i = k then some r else l[i - 1]?:=by
 simp only [j2]
 by_cases h1:i < k
 · rw [if_pos h1,List.getElem?_append_left (by simp;omega),List.getElem?_take,if_pos h1]
 · rw [if_neg h1,List.getElem?_append_right (by simp;omega),List.length_take,Nat.min_eq_left h]
   by_cases h2:i = k
   · subst h2;simp
   · rw [if_neg h2]
     obtain ⟨d,rfl⟩:∃ d,i = k + 1 + d:=⟨i - k - 1,by omega⟩
     rw [show k + 1 + d - k = d + 1 by omega,List.getElem?_cons_succ,List.getElem?_drop]
     congr 1
     omega
theorem aj2 {l:List AS} {k:Nat} {r:AS} (h:k ≤ l.length):(j2 l k r).getD k default = r:=by
 rw [List.getD_eq_getElem?_getD,xo h,if_neg (by omega),if_pos rfl];rfl
theorem a83 {l:List AS} {k:Nat} {r:AS} (h0:0 < k) (h:k ≤ l.length):(j2 l k r).getD (k - 1) default = l.getD (k - 1) default:=by
 rw [List.getD_eq_getElem?_getD,xo h,if_pos (by omega),List.getD_eq_getElem?_getD]
theorem agd {l:List AS} {k:Nat} {r:AS} (h0:0 < k) (h:k ≤ l.length):((j2 l k r).set k (l.getD (k - 1) default)).set (k - 1) r = j2 l (k - 1) r:=by
 apply List.ext_getElem?
 intro i
 rw [xo (by omega),List.getElem?_set,List.getElem?_set,List.length_set,jk h,xo h]
 by_cases h1:k - 1 = i
 · subst h1
   rw [if_pos rfl,if_pos (by omega),if_neg (by omega),if_pos rfl]
 · rw [if_neg h1]
   by_cases h2:k = i
   · subst h2
     rw [if_pos rfl,if_pos (by omega),if_neg (by omega),if_neg (by omega),List.getD,List.getElem?_eq_getElem (by omega)]
     rfl
   · rw [if_neg h2]
     by_cases h3:i < k
     · rw [if_pos h3,if_pos (by omega)]
     · rw [if_neg h3,if_neg (by omega),if_neg (by omega),if_neg (by omega)]
theorem ahx {l:List AS} {k k' m':Nat} {r:AS} (h0:0 < k) (hk:k ≤ l.length) (hk':k' = k) (hm':m' = k - 1) {n:Nat} (hn:n = l.length + 1) {e:TypeId} :
 CoO (.arr true 1 e n (fz (fz (lf sC (j2 l k r)) k' 0 [lf sC (j2 l k r) m' 0]) m' 0 [lf sC (j2 l k r) k' 0])) (.arr true 1 e n (lf sC (j2 l (k - 1) r))):=by
 subst hk' hm'
 rw [← agd h0 hk]
 refine a6p (fun h=>h) (by rw [jk hk];exact hn) (by rw [jk hk];omega) (by rw [jk hk];omega) rfl rfl (fun j hj=>?_) (fun j hj=>?_)
 · obtain rfl:j = 0:=by omega
   exact CoP.of_eq (by show sC ((j2 l k' r).getD (k' - 1) default) 0 = _;rw [a83 h0 hk])
 · obtain rfl:j = 0:=by omega
   exact CoP.of_eq (by show sC ((j2 l k' r).getD k' default) 0 = _;rw [aj2 hk])
theorem aic {l:List AS} {k k' m':Nat} {r:AS} {b:Bool} (h0:0 < k) (hk:k ≤ l.length) (h:bef ((j2 l k r).getD k' default) ((j2 l k r).getD m' default) = b) (hk':k' = k) (hm':m' = k - 1):bef r (l.getD (k - 1) default) = b:=by
 subst hk' hm'
 rwa [aj2 hk,a83 h0 hk] at h
theorem ac8 {l:List AS} {j:Nat} (h:j < l.length):l.getD j default ∈ l:=by
 rw [List.getD_eq_getElem?_getD,List.getElem?_eq_getElem h]
 exact List.getElem_mem h
theorem a7y {l:List AS} {k:Nat} {r:AS} (hs:ir l) (hr:r ∉ l) (hk:k ≤ l.length) (h1:∀ j,k ≤ j → j < l.length → bef r (l.getD j default) = true) (h2:k = 0 ∨ ¬ bef r (l.getD (k - 1) default) = true):j2 l k r = jc r l:=by
 refine ku ?_ (uk hs) fun z=>?_
 · unfold ir j2
   rw [List.pairwise_append]
   refine ⟨hs.sublist (List.take_sublist _ _),List.pairwise_cons.2 ⟨fun z hz=>?_,hs.sublist (List.drop_sublist _ _)⟩,fun y hy z hz=>?_⟩
   · obtain ⟨j,hj,rfl⟩:=List.getElem_of_mem hz
     rw [List.length_drop] at hj
     have:=h1 (k + j) (by omega) (by omega)
     rwa [List.getD_eq_getElem?_getD,List.getElem?_eq_getElem (by omega),Option.getD_some,← List.getElem_drop] at this
   · have hyr:bef y r = true:=by
      obtain ⟨j,hj,rfl⟩:=List.getElem_of_mem hy
      rw [List.length_take] at hj
      rcases h2 with h2 | h2
      · omega
      · have hk1:k - 1 < l.length:=by omega
        have hlast:bef (l.getD (k - 1) default) r = true:=by
         rcases py (a:=r) (b:=l.getD (k - 1) default) (fun e=>hr (e ▸ ac8 hk1)) with h | h
         · exact absurd h h2
         · exact h
        rw [List.getElem_take]
        by_cases hjk:j = k - 1
        · subst hjk
          rwa [List.getD_eq_getElem?_getD,List.getElem?_eq_getElem hk1,Option.getD_some] at hlast
        · refine lm ?_ hlast
          rw [List.getD_eq_getElem?_getD,List.getElem?_eq_getElem hk1,Option.getD_some]
          exact List.pairwise_iff_getElem.1 hs j (k - 1) (by omega) hk1 (by omega)
     rcases List.mem_cons.1 hz with rfl | hz
     · exact hyr
     · have h3:bef r z = true:=by
        obtain ⟨j,hj,rfl⟩:=List.getElem_of_mem hz
        rw [List.length_drop] at hj
        have:=h1 (k + j) (by omega) (by omega)
        rwa [List.getD_eq_getElem?_getD,List.getElem?_eq_getElem (by omega),Option.getD_some,← List.getElem_drop] at this
       exact lm hyr h3
 · rw [ub]
   unfold j2
   rw [List.mem_append,List.mem_cons]
   constructor
   · rintro (h | h | h)
     · exact .inr (List.mem_of_mem_take h)
     · exact .inl h
     · exact .inr (List.mem_of_mem_drop h)
   · rintro (h | h)
     · exact .inr (.inl h)
     · rw [← List.take_append_drop k l,List.mem_append] at h
       rcases h with h | h
       · exact .inl h
       · exact .inr (.inr h)
theorem pk {r:AS} {l:List AS} (hs:ir l) (hr:r ∈ l):jc r l = l:=ku (uk hs) hs fun z=>by
 rw [ub]
 constructor
 · rintro (rfl | h)
   · exact hr
   · exact h
 · exact .inr
theorem fm {l:List AS} {i:Nat} (hi:i < l.length):ord (l.take (i + 1)) = jc (l.getD i default) (ord (l.take i)):=by
 unfold ord
 rw [c8 hi,List.foldl_append]
 rfl
theorem a9w (x:AS):∀ l:List AS,(jc x l).length ≤ l.length + 1
 | []=>by simp [jc]
 | y :: l=>by
  unfold jc
  have:=a9w x l
  split
  · simp
  · split
    · simp
    · simp only [List.length_cons];omega
theorem t6 (l:List AS):(ord l).length ≤ l.length:=by
 have:∀ (l o:List AS),(l.foldl (fun o x=>jc x o) o).length ≤ o.length + l.length:=by
  intro l
  induction l with
  | nil=>intro o;simp
  | cons x l ih =>
   intro o
   have h1:=ih (jc x o)
   have h2:=a9w x o
   simp only [List.foldl_cons,List.length_cons]
   omega
 have h:=this l []
 simpa [ord] using h
theorem adk {l:List AS} {s:AS}:(l.any fun x=>decide (x = s)) = decide (s ∈ l):=by
 rw [Bool.eq_iff_iff,List.any_eq_true,decide_eq_true_iff]
 constructor
 · rintro ⟨x,hx,h⟩
   exact of_decide_eq_true h ▸ hx
 · intro h
   exact ⟨s,h,decide_eq_true rfl⟩
def jC:Int → Nat → PV:=fun n _=>.raw (.int .i64 n)
def orF (l:List Int):Int:=(l.find? fun x=>decide (x ≠ 0)).getD 0
theorem auk {l:List Int} {i:Nat} (hi:i < l.length) (hI:∀ j,j < i → decide (l.getD j default = 0) = true) (h:¬ l.getD i default = 0):orF l = l.getD i default:=by
 unfold orF
 have:l.find? (fun x=>decide (x ≠ 0)) = some (l.getD i default):=by
  rw [List.find?_eq_some_iff_getElem]
  refine ⟨decide_eq_true h,i,hi,by simp [List.getD,hi],fun j hj=>?_⟩
  have:=of_decide_eq_true (hI j hj)
  rw [List.getD_eq_getElem?_getD,List.getElem?_eq_getElem (by omega),Option.getD_some] at this
  simp [this]
 rw [this];rfl
theorem au6 {l:List Int} (hI:∀ j,j < l.length → decide (l.getD j default = 0) = true):orF l = 0:=by
 unfold orF
 have:l.find? (fun x=>decide (x ≠ 0)) = none:=by
  rw [List.find?_eq_none]
  intro x hx
  obtain ⟨j,hj,rfl⟩:=List.getElem_of_mem hx
  have:=of_decide_eq_true (hI j hj)
  rw [List.getD_eq_getElem?_getD,List.getElem?_eq_getElem hj,Option.getD_some] at this
  simp [this]
 rw [this];rfl
theorem ae0 (a b:AS):orF [fh (bsz a) (bsz b),fh (asI a) (asI b)] = p9 a b:=by
 unfold orF p9
 by_cases h:fh (bsz a) (bsz b) = 0
 · by_cases h2:fh (asI a) (asI b) = 0 <;> simp [h,h2]
 · simp [h]
theorem ws {α:Type} [Inhabited α] {cl:Bool} {c:α → Nat → PV} {x y:α} {f:Nat → Nat → PV} (h0:CoP (f 0 0) (c x 0)) (h1:CoP (f 1 0) (c y 0)):CoP (.sl 2 1 cl f) (psl 1 c [x,y]) :=
 CoP.sl rfl (.inl rfl) (fun h=>by cases h) fun i j hi hj=>by
  obtain rfl:j = 0:=by omega
  rcases (by omega:i = 0 ∨ i = 1) with rfl | rfl
  · exact h0
  · exact h1
theorem atb {a b:AS} (h:¬ (bsz a:Int) = bsz b):decide ((bsz a:Int) < bsz b) = bef a b:=by
 rw [Bool.eq_iff_iff,decide_eq_true_iff,gk]
 omega
theorem aqe {a b:AS} (h:(bsz a:Int) = bsz b):decide (asI a < asI b) = bef a b:=by
 rw [Bool.eq_iff_iff,decide_eq_true_iff,gk]
 unfold asI
 omega
theorem aok {α:Type} [Inhabited α] {wr wr':Bool} {e:TypeId} {c:α → Nat → PV} {l:List α} {x:α} {g:Nat → Nat → PV} (hg:CoP (g 0 0) (c x 0)) (hw:wr' = true → wr = true:=by exact fun h=>h) :
 CoO (.arr wr 1 e (l.length + 1) (eo l.length (lf c l) g)) (.arr wr' 1 e (l.length + 1) (lf c (l ++ [x]))):=by
 have h:=dx (wr:=wr) (wr':=wr') (e:=e) (l:=l) (l':=l ++ [x]) (g:=g) rfl hg hw
 rwa [show (l ++ [x]).length = l.length + 1 by simp] at h
theorem o4 {α:Type} [Inhabited α] {wr wr':Bool} {s n m:Nat} {e:TypeId} {c:α → Nat → PV} {l l':List α} (h:l' = l) (hn:n = m) (hw:wr' = true → wr = true:=by exact fun h=>h):CoO (.arr wr s e n (lf c l)) (.arr wr' s e m (lf c l')):=by
 subst h hn
 exact ⟨hw,rfl,rfl,rfl,fun _ _ _ _=>CoP.refl _⟩
theorem alx {a b:AS}:decide (p9 a b < 0) = bef a b:=by
 rw [Bool.eq_iff_iff,decide_eq_true_iff,gk]
 unfold p9 fh asI
 split <;> (repeat' split) <;> omega
end Go.Hx
end

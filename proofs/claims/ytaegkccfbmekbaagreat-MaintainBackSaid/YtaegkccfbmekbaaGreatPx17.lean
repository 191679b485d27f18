/- A part of the proof: V4 Cs5 V5 Cs2 Cs6 Cs7 Cs8 V6 Cs9. -/
import Derived.Lib.TrailingZeros
import Derived.Test.YtaegkccfbmekbaaGreatPx16
set_option linter.all false
section
namespace Go.Hx
open Go.Proofs
set_option maxRecDepth 100000
theorem a9d:ai Tryz.prog 44:=⟨Tryz.f44,Tryz.func44,by kernel_rfl,by kernel_rfl⟩
theorem ap4 (n:Nat) (c:Bool) (f:Nat → Nat → PV) (hn:n ≤ 17592186044416) :
 cg Tryz.prog 44 [.one (.p (.sl n 2 c f))] [] (.v (.one (.ref 0 n))) [(0, .arr true 2 71 n f)] []:=by
 refine cw (nt:=8) ae Tryz.func44 rfl rfl l9 rfl ?_;refine sx7 ?_;refine bz true rfl rfl rfl rfl rfl trivial ?_;refine a6 ?_
 refine te (ι:=Bool) (fun c=>⟨[(0,some (c7 (.sl n 2 c f)))],[]⟩) (fun _=>True) ?_ fun c _=>?_
 · rcases Nat.eq_zero_or_pos n with hz | h0
   · subst hz
     refine hw_exact' 0 rfl fun ad cap hcap=>?_
     refine sx7 ?_;(iterate 2 refine bz true rfl rfl rfl rfl rfl trivial ?_);refine a6 ?_;refine a8 ad.isNone rfl (fun hc=>?_) (fun hc=>?_)
     · refine sx7 ?_
       refine bz true rfl rfl rfl rfl rfl trivial ?_;refine a6 ?_;refine ec 2 0 true 2 71 f (by decide) rfl (CoP.sl rfl (.inr rfl) (fun h=>h) fun i j hi _=>absurd hi (Nat.not_lt_zero i)) (.inr rfl) rfl ?_
       refine aw ?_;refine ⟨.inr rfl, ?_⟩
       exact ⟨_,_,rfl,trivial,CoR.refl _,⟨u9,trivial⟩⟩
     · refine aa ?_
       exact ⟨false,trivial,⟨⟨_,rfl,CoP.raw_sl hcap⟩,trivial⟩,trivial⟩
   · refine sx7 ?_
     refine bz true rfl rfl rfl rfl rfl trivial ?_;refine bz true rfl rfl rfl rfl rfl h0 ?_;refine a6 ?_;refine a8 false rfl (fun hc=>by cases hc) (fun hc=>?_);refine aa ?_
     exact ⟨c,trivial,⟨c9,trivial⟩,trivial⟩
 · refine sx7 ?_
   refine ph 0 rfl rfl rfl rfl rfl rfl trivial ?_;refine bz true rfl rfl rfl rfl rfl trivial ?_
   refine wz 0 true rfl rfl rfl rfl rfl rfl ⟨trivial,rfl,rfl,rfl, .inl rfl,by show 0 + n ≤ 9223372036854775807;omega,by show (0 + n) * 8 ≤ 140737488355328;omega,fun _=>.inl rfl⟩ ?_
   refine bz true rfl rfl rfl rfl rfl trivial ?_;refine a6 ?_;refine aw ?_;refine ⟨.inr rfl, ?_⟩
   refine ⟨_,_,rfl,trivial,CoR.of_eq (by show HR.v (.one (.ref 0 (0 + n))) = _;rw [Nat.zero_add]),⟨⟨_,rfl, ?_⟩,trivial⟩⟩
   exact ⟨fun h=>h,rfl,rfl,(Nat.zero_add n).symm,fun i j _ _=>CoP.of_eq (by simp [en])⟩
theorem a2s (n:Nat) (c:Bool) (f:Nat → Nat → PV) (hn:n ≤ 17592186044416):al Tryz.prog 44 [.one (.sl n 2 c f)] (.v (.one (.sl n 2 false f))) :=
 cg.pure (args:=[.one (.sl n 2 c f)]) (l:=[.one (.ref 0 n)]) (ap4 n c f hn) rfl ⟨rfl,trivial⟩
theorem ap3:ai Tryz.prog 131:=⟨Tryz.f131,Tryz.func131,by kernel_rfl,by kernel_rfl⟩
theorem aou (n:Nat) (c:Bool) (f:Nat → Nat → PV) (hn:n ≤ 35184372088832) :
 cg Tryz.prog 131 [.one (.p (.sl n 1 c f))] [] (.v (.one (.ref 0 n))) [(0, .arr true 1 69 n f)] []:=by
 refine cw (nt:=8) ae Tryz.func131 rfl rfl l9 rfl ?_;refine sx7 ?_;refine bz true rfl rfl rfl rfl rfl trivial ?_;refine a6 ?_
 refine te (ι:=Bool) (fun c=>⟨[(0,some (c7 (.sl n 1 c f)))],[]⟩) (fun _=>True) ?_ fun c _=>?_
 · rcases Nat.eq_zero_or_pos n with hz | h0
   · subst hz
     refine hw_exact' 0 rfl fun ad cap hcap=>?_
     refine sx7 ?_;(iterate 2 refine bz true rfl rfl rfl rfl rfl trivial ?_);refine a6 ?_;refine a8 ad.isNone rfl (fun hc=>?_) (fun hc=>?_)
     · refine sx7 ?_
       refine bz true rfl rfl rfl rfl rfl trivial ?_;refine a6 ?_;refine ec 2 0 true 1 69 f (by decide) rfl (CoP.sl rfl (.inr rfl) (fun h=>h) fun i j hi _=>absurd hi (Nat.not_lt_zero i)) (.inr rfl) rfl ?_
       refine aw ?_;refine ⟨.inr rfl, ?_⟩
       exact ⟨_,_,rfl,trivial,CoR.refl _,⟨u9,trivial⟩⟩
     · refine aa ?_
       exact ⟨false,trivial,⟨⟨_,rfl,CoP.raw_sl hcap⟩,trivial⟩,trivial⟩
   · refine sx7 ?_
     refine bz true rfl rfl rfl rfl rfl trivial ?_;refine bz true rfl rfl rfl rfl rfl h0 ?_;refine a6 ?_;refine a8 false rfl (fun hc=>by cases hc) (fun hc=>?_);refine aa ?_
     exact ⟨c,trivial,⟨c9,trivial⟩,trivial⟩
 · refine sx7 ?_
   refine ph 0 rfl rfl rfl rfl rfl rfl trivial ?_;refine bz true rfl rfl rfl rfl rfl trivial ?_
   refine wz 0 true rfl rfl rfl rfl rfl rfl ⟨trivial,rfl,rfl,rfl, .inl rfl,by show 0 + n ≤ 9223372036854775807;omega,by show (0 + n) * 4 ≤ 140737488355328;omega,fun _=>.inl rfl⟩ ?_
   refine bz true rfl rfl rfl rfl rfl trivial ?_;refine a6 ?_;refine aw ?_;refine ⟨.inr rfl, ?_⟩
   refine ⟨_,_,rfl,trivial,CoR.of_eq (by show HR.v (.one (.ref 0 (0 + n))) = _;rw [Nat.zero_add]),⟨⟨_,rfl, ?_⟩,trivial⟩⟩
   exact ⟨fun h=>h,rfl,rfl,(Nat.zero_add n).symm,fun i j _ _=>CoP.of_eq (by simp [en])⟩
theorem arc:ai Tryz.prog 62:=⟨Tryz.f62,Tryz.func62,by kernel_rfl,by kernel_rfl⟩
theorem av6 (l:List AS) (g k:Nat) (caps:Nat → PV) (V:AS → Bool) (hg:ai Tryz.prog g) (hV:∀ x,al Tryz.prog g (pA x :: ow caps k 0) (az [pB (V x)])):al Tryz.prog 62 [pP (asl l),pP (.fn g k caps)] (az [pI (idx V l)]):=by
 refine ag (nt:=19) ae Tryz.func62 rfl rfl l9 ?_;refine a7 ?_
 refine j8 0 rfl fun hn=>?_
 refine gy ?_;refine qy ?_;refine a6 ?_;refine df (ι:=Unit) ⟨[],[]⟩ ⟨trivial,trivial⟩ (fun _i=>⟨[],[]⟩) (fun _i=>idx V l = -1) ?_ ?_
 ·
  refine sx7 ?_;(iterate 3 refine qy ?_);refine a6 ?_;refine af ?_
  refine av (ι:=Nat) ⟨[(0,some _),(1,some _),(7,some _)],[]⟩ ⟨⟨c9,c9,c9,trivial⟩,trivial⟩ (fun i=>⟨[(8,some (vI i))],[]⟩) (fun i=>i ≤ l.length ∧ (∀ j,j < i → V (l.getD j default) = false)) (fun i=>l.length - i) (0) (⟨Nat.zero_le _,dm⟩) ⟨⟨zy,trivial⟩,trivial⟩ ?_
  rintro i ⟨hi,hI⟩
  refine sx7 ?_;refine qy ?_;refine a6 ?_;refine a7 ?_;refine a8 _ rfl (fun r0=>?_) (fun r0=>?_)
  ·
   have h0:=of_decide_eq_true r0
   try simp only [ty] at h0
   refine aa ?_;refine a7 ?_;refine af ?_;refine sx7 ?_;(iterate 2 refine qy ?_);refine a6 ?_;refine sx7 ?_;(iterate 5 refine qy ?_)
   refine rc rfl rfl rfl rfl rfl rfl hg (hV (l.getD i default)) (CoL.refl _) rfl rfl ?_;refine a6 ?_;refine a8 _ rfl (fun r1=>?_) (fun r1=>?_)
   ·
    have h1:=r1
    refine sx7 ?_;(iterate 2 refine qy ?_);refine a6 ?_
    exact hx8 rfl rfl rfl (⟨cci (vj (i:=i) (by omega) hI h1).symm,trivial⟩)
   ·
    have h1:=r1
    refine aa ?_;refine gy ?_;(iterate 2 refine qy ?_);refine a6 ?_;refine ⟨i + 1, ?_, ?_, ?_⟩
    · exact ⟨by show i + 1 ≤ _;omega,d8 hI (h1)⟩
    · first | omega | (dsimp only;omega)
    · exact ⟨⟨zy,c9,c9,c9,trivial⟩,trivial⟩
  ·
   have h0:=of_decide_eq_false r0
   try simp only [ty] at h0
   refine aq ?_;refine ⟨(), ?_, ?_⟩
   · exact y9 fun j hj=>hI j (by omega)
   · exact ⟨trivial,trivial⟩
 · rintro _ hj
   refine sx7 ?_;refine qy ?_;refine a6 ?_
   exact hx8 rfl rfl rfl (⟨cci hj.symm,trivial⟩)
theorem ahx:ai Tryz.prog 30:=⟨Tryz.f30,Tryz.func30,by kernel_rfl,by kernel_rfl⟩
theorem amo (l:List AS) (g k:Nat) (caps:Nat → PV) (V:AS → Bool) (hg:ai Tryz.prog g) (hV:∀ x,al Tryz.prog g (pA x :: ow caps k 0) (az [pB (V x)])):al Tryz.prog 30 [pP (asl l),pP (.fn g k caps)] (az [pB (l.any V)]):=by
 refine ag (nt:=9) ae Tryz.func30 rfl rfl l9 ?_;refine sx7 ?_;refine qy ?_;refine a6 ?_;refine sx7 ?_;(iterate 2 refine qy ?_)
 refine rc rfl rfl rfl rfl rfl rfl arc (av6 l g k caps V hg hV) (CoL.refl _) rfl rfl ?_;(iterate 2 refine qy ?_);refine a6 ?_
 exact hx8 rfl rfl rfl (⟨ccb ahf,trivial⟩)
theorem aon:ai Tryz.prog 154:=⟨Tryz.f154,Tryz.func154,by kernel_rfl,by kernel_rfl⟩
theorem avf (l:List Fd) (s:Fd):al Tryz.prog 154 [pP (fdl l),s.pc] (az [pI (idx (fun x=>decide (x = s)) l)]):=by
 refine ag (nt:=19) ae Tryz.func154 rfl rfl l9 ?_;refine a7 ?_
 refine j8 0 rfl fun hn=>?_
 refine gy ?_;refine m9 0 ?_;refine qy ?_;refine a6 ?_;refine df (ι:=Unit) ⟨[],[]⟩ ⟨trivial,trivial⟩ (fun _i=>⟨[],[]⟩) (fun _i=>idx (fun x=>decide (x = s)) l = -1) ?_ ?_
 ·
  refine sx7 ?_;(iterate 3 refine qy ?_);refine a6 ?_;refine af ?_
  refine av (ι:=Nat) ⟨[(0,some _),(3,some _),(7,some _)],[(0,some _)]⟩ ⟨⟨c9,c9,c9,trivial⟩,⟨u9,trivial⟩⟩ (fun i=>⟨[(8,some (vI i))],[]⟩) (fun i=>i ≤ l.length ∧ (∀ j,j < i → decide (l.getD j default = s) = false)) (fun i=>l.length - i) (0) (⟨Nat.zero_le _,dm⟩) ⟨⟨zy,trivial⟩,trivial⟩ ?_
  rintro i ⟨hi,hI⟩
  refine sx7 ?_;refine qy ?_;refine a6 ?_;refine a7 ?_;refine a8 _ rfl (fun r0=>?_) (fun r0=>?_)
  ·
   have h0:=of_decide_eq_true r0
   try simp only [ty] at h0
   refine aa ?_;refine a7 ?_;refine af ?_;refine sx7 ?_;(iterate 2 refine qy ?_);refine a6 ?_;refine a7 ?_;refine ay (E:=b5) ae ak [0,1,2,3,4,5] ?_;(iterate 6 refine qy ?_)
   refine a6 ?_;refine ⟨by kernel_rfl, ?_⟩;refine a8 _ rfl (fun r1=>?_) (fun r1=>?_)
   ·
    have h1:=r1
    refine sx7 ?_;(iterate 2 refine qy ?_);refine a6 ?_
    exact hx8 rfl rfl rfl (⟨cci (vj (p:=fun x=>decide (x = s)) (i:=i) (by omega) hI (decide_eq_true (by simp_all [Fd.eq_iff,it]))).symm,trivial⟩)
   ·
    have h1:=r1
    refine aa ?_;refine gy ?_;(iterate 2 refine qy ?_);refine a6 ?_;refine ⟨i + 1, ?_, ?_, ?_⟩
    · exact ⟨by show i + 1 ≤ _;omega,d8 hI (decide_eq_false fun e=>by subst e;simp_all)⟩
    · first | omega | (dsimp only;omega)
    · exact ⟨⟨zy,c9,c9,c9,trivial⟩,⟨u9,trivial⟩⟩
  ·
   have h0:=of_decide_eq_false r0
   try simp only [ty] at h0
   refine aq ?_;refine ⟨(), ?_, ?_⟩
   · exact y9 (p:=fun x=>decide (x = s)) fun j hj=>hI j (by omega)
   · exact ⟨trivial,trivial⟩
 · rintro _ hj
   refine sx7 ?_;refine qy ?_;refine a6 ?_
   exact hx8 rfl rfl rfl (⟨cci hj.symm,trivial⟩)
theorem anm:ai Tryz.prog 126:=⟨Tryz.f126,Tryz.func126,by kernel_rfl,by kernel_rfl⟩
theorem awn (l:List Fd) (s:Fd):al Tryz.prog 126 [pP (fdl l),s.pc] (az [pB (l.any fun x=>decide (x = s))]):=by
 refine ag (nt:=9) ae Tryz.func126 rfl rfl l9 ?_;refine sx7 ?_;refine m9 0 ?_;refine qy ?_;refine a6 ?_;refine sx7 ?_;(iterate 2 refine qy ?_)
 refine rc rfl rfl rfl rfl rfl rfl aon (avf _ _) (CoL.refl _) rfl rfl ?_;(iterate 2 refine qy ?_);refine a6 ?_
 exact hx8 rfl rfl rfl (⟨ccb ahf,trivial⟩)
end Go.Hx
end
section
namespace Go.Hx
def pz (s:AS) (i:Int):Bool:=decide (0 ≤ i ∧ i < 32) && s.getLsbD i.toNat
theorem tj {s:AS} {i:Nat} (h:i < 32):pz s i = s.getLsbD i:=by
 unfold pz
 rw [decide_eq_true (by omega)]
 simp
theorem a8y {s:AS} {i:Int} (h0:0 ≤ i) (h1:i < 32):decide (fl .and .u32 ((asI s).fdiv (2 ^ (min i.toNat 32))) 1 = 1) = pz s i:=by
 unfold pz
 rw [abh,show (1:Int) = asI 1 from rfl,a08,decide_eq_true (show 0 ≤ i ∧ i < 32 from ⟨h0,h1⟩),Bool.true_and]
 have e:asI (s >>> i.toNat &&& 1) = asI 1 ↔ s.getLsbD i.toNat = true:=by
  rw [it]
  constructor
  · intro h
    have:=congrArg (fun x:AS=>x.getLsbD 0) h
    simpa using this
  · intro h
    apply BitVec.eq_of_getLsbD_eq
    intro k hk
    have h1:(1:AS).getLsbD k = decide (k = 0):=by have:=lc 0 k hk;simpa using this
    rw [BitVec.getLsbD_and,BitVec.getLsbD_ushiftRight,h1]
    by_cases hk0:k = 0
    · subst hk0;simp [h]
    · simp [hk0]
 cases hb:s.getLsbD i.toNat with
 | true=>exact decide_eq_true (e.2 hb)
 | false=>exact decide_eq_false fun h=>by rw [e.1 h] at hb;cases hb
theorem aas {s:AS} {i:Int} (h:¬ (0 ≤ i ∧ i < 32)):pz s i = false:=by
 unfold pz
 rw [decide_eq_false h]
 rfl
theorem acz {n:Nat} (h:n ≤ 32):ko n = BitVec.ofNat 32 (2 ^ n - 1):=by
 apply BitVec.eq_of_getLsbD_eq
 intro k hk
 rw [nz n k hk,BitVec.getLsbD_ofNat,Nat.testBit_two_pow_sub_one]
 simp [hk]
theorem acv {n:Nat} (h:n ≤ 32):(ko n).toNat = 2 ^ n - 1:=by
 have h2:2 ^ n ≤ 2 ^ 32:=Nat.pow_le_pow_right (by omega) h
 have h3:0 < 2 ^ n:=Nat.two_pow_pos n
 rw [acz h,BitVec.toNat_ofNat,Nat.mod_eq_of_lt (by omega)]
theorem aan {n:Int} (h0:0 ≤ n) (h1:n ≤ 16):IntKind.wrap .u32 (1 * 2 ^ (min n.toNat 32)) - 1 = asI (b7 n):=by
 have h2:2 ^ n.toNat ≤ 2 ^ 16:=Nat.pow_le_pow_right (by omega) (by omega)
 have h3:0 < 2 ^ n.toNat:=Nat.two_pow_pos _
 rw [show IntKind.wrap .u32 (1 * 2 ^ (min n.toNat 32)) = asI ((1:AS) <<< n.toNat) from vv 1 n.toNat]
 unfold b7 asI
 rw [Nat.min_eq_left (by omega),acv (by omega),BitVec.toNat_shiftLeft,Nat.shiftLeft_eq]
 rw [show (1:AS).toNat = 1 from rfl,Nat.one_mul,Nat.mod_eq_of_lt (by omega)]
 omega
theorem aks {n:Int} (h0:0 ≤ n) (h1:n ≤ 16):0 ≤ IntKind.wrap .u32 (1 * 2 ^ (min n.toNat 32)) - 1:=by rw [aan h0 h1];exact x7 _
theorem aie {n:Int} (h0:0 ≤ n) (h1:n ≤ 16):IntKind.wrap .u32 (1 * 2 ^ (min n.toNat 32)) - 1 ≤ 4294967295:=by rw [aan h0 h1];have:=a11 (b7 n);omega
theorem alo {a b:List Fd} (h:a.length = b.length) (hI:∀ j,j < a.length → decide (a.getD j default = b.getD j default) = true):a = b:=a1u h fun j hj=>of_decide_eq_true (hI j hj)
def ax4 (n:Int) (l:List Fd) (s:AS):Bool:=decide (akg n l = 0 ∧ sub s (b7 n) ∧ clo l s = b7 n)
section
variable {n:Int} {l:List Fd} {s:AS}
end
def axd (n:Int) (l:List Fd) (m:Int):Int:=if akg n l = 0 then (if m < n then 3 else 0) else akg n l
structure Dp where
 l:BitVec 8
 r:BitVec 8
deriving Inhabited
def Dp.c (d:Dp):Nat → PV
 | 0=>.raw (.int .u8 (d.l.toNat:Int))
 | 1=>.raw (.int .u8 (d.r.toNat:Int))
 | _=>.any
abbrev dpl (l:List Dp):PV:=psl 2 Dp.c l
def Dp.fd (n:Int) (d:Dp):Fd:=⟨d.l.setWidth 32 &&& b7 n,d.r.setWidth 32 &&& b7 n⟩
end Go.Hx
end
section
namespace Go.Hx
open Go.Proofs
set_option maxRecDepth 100000
theorem ado:ai Tryz.prog 166:=⟨Tryz.f166,Tryz.func166,by kernel_rfl,by kernel_rfl⟩
theorem arx (s:AS) (i:Int):al Tryz.prog 166 [pA s,pI i] (az [pB (pz s i)]):=by
 refine ag (nt:=18) ae Tryz.func166 rfl rfl l9 ?_;refine sx7 ?_;refine qy ?_;refine a6 ?_;refine sx7 ?_;(iterate 3 refine qy ?_);refine b4 rfl rfl (fun r0=>?_) (fun r0=>?_)
 ·
  have h0:=of_decide_eq_true r0
  try simp only [ty] at h0
  (iterate 2 refine qy ?_ (hg:=(gtt r0)));(iterate 2 refine qy ?_);refine b4 rfl rfl (fun r1=>?_) (fun r1=>?_)
  ·
   have h1:=r1
   have h1:=ci r0 h1
   have h1:=of_decide_eq_true h1
   try simp only [ty] at h1
   (iterate 5 refine qy ?_ (hg:=(gtt r1)));(iterate 2 refine qy ?_);refine a6 ?_
   exact hx8 rfl rfl rfl (⟨ccb (by first | exact wu (by assumption) (a8y (by omega) (by omega)) | exact (aas (by omega)).symm),trivial⟩)
  ·
   have h1:=r1
   have h1:=ci r0 h1
   have h1:=of_decide_eq_false h1
   try simp only [ty] at h1
   (iterate 5 refine k9 (gft r1) ?_);refine rq rfl rfl rfl rfl rfl ?_ (hp:=r1);refine qy ?_;refine a6 ?_
   exact hx8 rfl rfl rfl (⟨ccb (by first | exact wu (by assumption) (a8y (by omega) (by omega)) | exact (aas (by omega)).symm),trivial⟩)
 ·
  have h0:=of_decide_eq_false r0
  try simp only [ty] at h0
  (iterate 2 refine k9 (gft r0) ?_);refine rq rfl rfl rfl rfl rfl ?_ (hp:=r0);refine qy ?_;(iterate 5 refine k9 rfl ?_);(iterate 2 refine qy ?_);refine a6 ?_
  exact hx8 rfl rfl rfl (⟨ccb (by first | exact wu (by assumption) (a8y (by omega) (by omega)) | exact (aas (by omega)).symm),trivial⟩)
theorem n7:ai Tryz.prog 25:=⟨Tryz.f25,Tryz.func25,by kernel_rfl,by kernel_rfl⟩
theorem n4 (a b:List Fd):al Tryz.prog 25 [pP (fdl a),pP (fdl b)] (az [pB (decide (a = b))]):=by
 refine ag (nt:=26) ae Tryz.func25 rfl rfl l9 ?_;refine a7 ?_
 refine j8 0 rfl fun hn=>?_
 refine gy ?_;refine qy ?_;refine a6 ?_;refine a7 ?_;refine sx7 ?_;(iterate 5 refine qy ?_);refine a6 ?_;refine a8 _ rfl (fun r0=>?_) (fun r0=>?_)
 ·
  have h0:=r0
  have h0:=of_decide_eq_false (b8 h0)
  try simp only [ty] at h0
  refine sx7 ?_;refine qy ?_;refine a6 ?_
  exact hx8 rfl rfl rfl (⟨ccb (decide_eq_false fun e=>by subst e;omega).symm,trivial⟩)
 ·
  have h0:=r0
  have h0:=of_decide_eq_true (b9 h0)
  try simp only [ty] at h0
  refine aa ?_;refine df (ι:=Unit) ⟨[],[]⟩ ⟨trivial,trivial⟩ (fun _i=>⟨[],[]⟩) (fun _i=>a = b) ?_ ?_
  ·
   refine sx7 ?_;refine qy ?_;refine a6 ?_;refine af ?_
   refine av (ι:=Nat) ⟨[(0,some _),(1,some _)],[]⟩ ⟨⟨c9,c9,trivial⟩,trivial⟩ (fun i=>⟨[(5,some (vI i))],[]⟩) (fun i=>i ≤ a.length ∧ (∀ j,j < i → decide (a.getD j default = b.getD j default) = true)) (fun i=>a.length - i) (0) (⟨Nat.zero_le _,dm⟩) ⟨⟨zy,trivial⟩,trivial⟩ ?_
   rintro i ⟨hi,hI⟩
   refine a7 ?_;refine sx7 ?_;(iterate 4 refine qy ?_);refine a6 ?_;refine a8 _ rfl (fun r1=>?_) (fun r1=>?_)
   ·
    have h1:=of_decide_eq_true r1
    try simp only [ty] at h1
    refine aa ?_;refine a7 ?_;refine af ?_;refine a7 ?_;refine ay (E:=b5) ae ak [0,1,2,3,4,5,6,7,8] ?_;(iterate 9 refine qy ?_);refine a6 ?_;refine ⟨by kernel_rfl, ?_⟩
    refine a8 _ rfl (fun r2=>?_) (fun r2=>?_)
    ·
     have h2:=r2
     refine sx7 ?_;refine qy ?_;refine a6 ?_
     exact hx8 rfl rfl rfl (⟨ccb (decide_eq_false fun e=>by subst e;simp_all).symm,trivial⟩)
    ·
     have h2:=r2
     refine aa ?_;refine gy ?_;(iterate 3 refine qy ?_);refine a6 ?_;refine ⟨i + 1, ?_, ?_, ?_⟩
     · exact ⟨by show i + 1 ≤ _;omega,d8 hI (decide_eq_true (by simp_all [Fd.eq_iff,it]))⟩
     · first | omega | (dsimp only;omega)
     · exact ⟨⟨zy,c9,c9,trivial⟩,trivial⟩
   ·
    have h1:=of_decide_eq_false r1
    try simp only [ty] at h1
    refine aq ?_;refine ⟨(), ?_, ?_⟩
    · exact alo (by omega) fun j hj=>hI j (by omega)
    · exact ⟨trivial,trivial⟩
  · rintro _ hj
    refine sx7 ?_;refine qy ?_;refine a6 ?_
    exact hx8 rfl rfl rfl (⟨ccb (decide_eq_true hj).symm,trivial⟩)
end Go.Hx
end
section
namespace Go.Hx
def bsz (s:AS):Nat:=(List.range 32).countP fun i=>s.getLsbD i
def bef (a b:AS):Bool:=decide (bsz a < bsz b) || (decide (bsz a = bsz b) && decide (a.toNat < b.toNat))
theorem l6 (a:AS):bef a a = false:=by simp [bef]
theorem gq {a b:AS}:bef a b = true ↔ bsz a < bsz b ∨ (bsz a = bsz b ∧ a.toNat < b.toNat):=by simp [bef]
theorem lz {a b c:AS} (h:bef a b = true) (k:bef b c = true):bef a c = true:=by
 rw [gq] at *
 omega
theorem p9 {a b:AS} (h:a ≠ b):bef a b = true ∨ bef b a = true:=by
 have hn:a.toNat ≠ b.toNat:=fun e=>h (BitVec.eq_of_toNat_eq e)
 rw [gq,gq]
 omega
theorem a3a {a b:AS} (h:bef a b = true):bef b a = false:=by
 rw [Bool.eq_false_iff]
 intro k
 have:=lz h k
 rw [l6] at this
 cases this
def iz (l:List AS):Prop:=l.Pairwise fun a b=>bef a b = true
theorem l5:∀ {l k:List AS},iz l → iz k → (∀ x,x ∈ l ↔ x ∈ k) → l = k
 | [],[],_,_,_=>rfl
 | [],y :: k,_,_,h=>absurd ((h y).2 (List.mem_cons_self ..)) (by simp)
 | x :: l,[],_,_,h=>absurd ((h x).1 (List.mem_cons_self ..)) (by simp)
 | x :: l,y :: k,hl,hk,h=>by
  obtain ⟨h1,h2⟩:=List.pairwise_cons.1 hl
  obtain ⟨k1,k2⟩:=List.pairwise_cons.1 hk
  have e:x = y:=by
   rcases List.mem_cons.1 ((h x).1 (List.mem_cons_self ..)) with e | hx
   · exact e
   · rcases List.mem_cons.1 ((h y).2 (List.mem_cons_self ..)) with e | hy
     · exact e.symm
     · have:=a3a (k1 x hx)
       rw [h1 y hy] at this
       cases this
  subst e
  congr 1
  refine l5 h2 k2 fun z=>?_
  constructor
  · intro hz
    rcases List.mem_cons.1 ((h z).1 (List.mem_cons_of_mem _ hz)) with e | hz'
    · subst e
      have:=h1 z hz
      rw [l6] at this
      cases this
    · exact hz'
  · intro hz
    rcases List.mem_cons.1 ((h z).2 (List.mem_cons_of_mem _ hz)) with e | hz'
    · subst e
      have:=k1 z hz
      rw [l6] at this
      cases this
    · exact hz'
def jo (x:AS):List AS → List AS
 | []=>[x]
 | y :: l=>if x = y then y :: l else if bef x y = true then x :: y :: l else y :: jo x l
theorem up {x z:AS}:∀ {l:List AS},z ∈ jo x l ↔ z = x ∨ z ∈ l
 | []=>by simp [jo]
 | y :: l=>by
  unfold jo
  split
  · rename_i e
    subst e
    simp
  · split
    · simp
    · rw [List.mem_cons,up,List.mem_cons]
      constructor
      · rintro (h | h | h) <;> simp [h]
      · rintro (h | h | h) <;> simp [h]
theorem vk {x:AS}:∀ {l:List AS},iz l → iz (jo x l)
 | [],_=>by simp [jo,iz]
 | y :: l,h=>by
  obtain ⟨h1,h2⟩:=List.pairwise_cons.1 h
  unfold jo
  split
  · exact h
  · split
    · rename_i hxy
      refine List.pairwise_cons.2 ⟨fun z hz=>?_,h⟩
      rcases List.mem_cons.1 hz with rfl | hz
      · exact hxy
      · exact lz hxy (h1 z hz)
    · rename_i hne hxy
      refine List.pairwise_cons.2 ⟨fun z hz=>?_,vk h2⟩
      rcases up.1 hz with rfl | hz
      · exact (p9 hne).resolve_left hxy
      · exact h1 z hz
def ord (l:List AS):List AS:=l.foldl (fun o x=>jo x o) []
theorem a75:∀ {l o:List AS},iz o → iz (l.foldl (fun o x=>jo x o) o) ∧ ∀ z,z ∈ l.foldl (fun o x=>jo x o) o ↔ z ∈ o ∨ z ∈ l
 | [],o,h=>⟨h,fun z=>by simp⟩
 | x :: l,o,h=>by
  obtain ⟨h1,h2⟩:=a75 (l:=l) (vk (x:=x) h)
  refine ⟨h1,fun z=>?_⟩
  show z ∈ l.foldl (fun o x=>jo x o) (jo x o) ↔ _
  rw [h2 z,up,List.mem_cons]
  constructor
  · rintro ((h | h) | h) <;> simp [h]
  · rintro (h | h | h) <;> simp [h]
theorem fe (l:List AS):iz (ord l):=(a75 (o:=[]) List.Pairwise.nil).1
theorem tc {l:List AS} {z:AS}:z ∈ ord l ↔ z ∈ l:=by
 show z ∈ l.foldl (fun o x=>jo x o) [] ↔ _
 rw [(a75 (l:=l) (o:=[]) List.Pairwise.nil).2 z]
 simp
theorem aix {l k:List AS} (hk:iz k) (h:∀ z,z ∈ k ↔ z ∈ l):k = ord l:=l5 hk (fe l) fun z=>by rw [h z,tc]
end Go.Hx
end
section
namespace Go.Hx
def afw (s:AS):List Nat:=(List.range 32).filter fun i=>s.getLsbD i
def iC:Nat → Nat → PV:=fun n _=>.raw (.int .i64 (n:Int))
abbrev il (l:List Nat):PV:=psl 1 iC l
theorem ail (s:AS):bsz s = (afw s).length:=by unfold bsz afw;rw [List.countP_eq_length_filter]
def axb (s:AS):Nat:=Lib.ctz 32 s.toNat
end Go.Hx
end
section
namespace Go.Hx
theorem a68 {id n m:Nat} (h:n = m):CoR (.v (.one (.ref id n))) (.v (.one (.ref id m))):=by subst h;exact CoR.refl _
section
variable {α:Type} [Inhabited α]
theorem a1d {wr wr':Bool} {s m:Nat} {e:TypeId} {c:α → Nat → PV} {l l':List α} {x:α} {g:Nat → Nat → PV} (h:l' = l ++ [x]) (hg:∀ j,j < s → CoP (g 0 j) (c x j)) (hm:m = 1:=by rfl) (hw:wr' = true → wr = true:=by exact fun h=>h) :
 CoO (.arr wr s e (l.length + m) (en l.length (lf c l) g)) (.arr wr' s e l'.length (lf c l')):=by
 subst h
 refine a9x [x] hw hm fun i j hi hj=>?_
 obtain rfl:i = 0:=by simp at hi;exact hi
 exact hg j hj
theorem cr {wr wr':Bool} {s:Nat} {e:TypeId} {c:α → Nat → PV} {l l':List α} (h:l' = l) (hw:wr' = true → wr = true:=by exact fun h=>h):CoO (.arr wr s e l.length (lf c l)) (.arr wr' s e l'.length (lf c l')):=by
 subst h
 exact ⟨hw,rfl,rfl,rfl,fun _ _ _ _=>CoP.refl _⟩
end
section
variable {α:Type} [Inhabited α]
theorem dt {id:Nat} {l l':List α} {x:α} (h:l' = l ++ [x]):CoR (.v (.one (.ref id (l.length + 1)))) (.v (.one (.ref id l'.length))):=by subst h;rw [List.length_append];exact CoR.refl _
theorem d9 {id:Nat} {l l':List α} (h:l' = l):CoR (.v (.one (.ref id l.length))) (.v (.one (.ref id l'.length))):=by subst h;exact CoR.refl _
theorem ek {wr wr':Bool} {e:TypeId} {c:α → Nat → PV} {l l':List α} {x:α} {g:Nat → Nat → PV} (h:l' = l ++ [x]) (hg:CoP (g 0 0) (c x 0)) (hw:wr' = true → wr = true:=by exact fun h=>h) :
 CoO (.arr wr 1 e (l.length + 1) (en l.length (lf c l) g)) (.arr wr' 1 e l'.length (lf c l')) :=
 a1d h (fun j hj=>by
  obtain rfl:j = 0:=by omega
  exact hg) rfl hw
theorem ku {wr wr':Bool} {e:TypeId} {c:α → Nat → PV} {l l':List α} {x:α} {g:Nat → Nat → PV} (h:l' = l ++ [x]) (h0:CoP (g 0 0) (c x 0)) (h1:CoP (g 0 1) (c x 1)) (hw:wr' = true → wr = true:=by exact fun h=>h) :
 CoO (.arr wr 2 e (l.length + 1) (en l.length (lf c l) g)) (.arr wr' 2 e l'.length (lf c l')) :=
 a1d h (fun j hj=>by
  rcases (by omega:j = 0 ∨ j = 1) with rfl | rfl
  · exact h0
  · exact h1) rfl hw
end
def oe (s:AS) (i:Nat):List Nat:=(List.range i).filter fun k=>s.getLsbD k
theorem a1s {s:AS} {i:Nat} (hi:i < 32) (h:pz s (i:Int) = true):oe s (i + 1) = oe s i ++ [i]:=by
 rw [tj hi] at h
 unfold oe
 rw [List.range_succ,List.filter_append]
 simp [h]
theorem a1v {s:AS} {i:Nat} (hi:i < 32) (h:pz s (i:Int) = false):oe s (i + 1) = oe s i:=by
 rw [tj hi] at h
 unfold oe
 rw [List.range_succ,List.filter_append]
 simp [h]
theorem ahs (s:AS) (i:Nat):(oe s i).length ≤ i:=by
 unfold oe
 have:=List.length_filter_le (fun k=>s.getLsbD k) (List.range i)
 rwa [List.length_range] at this
end Go.Hx
end
section
namespace Go.Hx
def mw (b:Nat):Nat:=(List.range 8).countP fun i=>b.testBit i
theorem nv (p:Nat → Bool) (a b:Nat):(List.range (a + b)).countP p = (List.range a).countP p + (List.range b).countP fun i=>p (a + i):=by
 rw [List.range_add,List.countP_append,List.countP_map]
 rfl
theorem ajh {n k j:Nat} (hj:j < 8):(n / 2 ^ k % 256).testBit j = n.testBit (k + j):=by
 rw [show (256:Nat) = 2 ^ 8 from rfl,Nat.testBit_mod_two_pow,Nat.testBit_div_two_pow,Nat.add_comm]
 simp [hj]
theorem ata (n:Nat) (hn:n < 2 ^ 32):(List.range (8 + (8 + (8 + 8)))).countP (fun i=>n.testBit i) = mw (n / 2 ^ 24) + mw (n / 2 ^ 16 % 256) + mw (n / 2 ^ 8 % 256) + mw (n % 256):=by
 have h:∀ k,(List.range 8).countP (fun i=>n.testBit (k + i)) = mw (n / 2 ^ k % 256):=fun k=>by
  unfold mw
  apply List.countP_congr
  intro j hj
  rw [ajh (List.mem_range.1 hj)]
 have h3:n / 2 ^ 24 % 256 = n / 2 ^ 24:=Nat.mod_eq_of_lt (by omega)
 have h0:=h 0
 simp only [Nat.zero_add,Nat.pow_zero,Nat.div_one] at h0
 rw [nv,nv,nv,h0]
 have e2:=h 8
 have e3:=h 16
 have e4:=h 24
 rw [h3] at e4
 simp only [← Nat.add_assoc] at *
 simp only [Nat.reduceAdd] at *
 rw [e2,e3,e4]
 omega
theorem ahq (s:AS):bsz s = mw (s.toNat / 2 ^ 24) + mw (s.toNat / 2 ^ 16 % 256) + mw (s.toNat / 2 ^ 8 % 256) + mw (s.toNat % 256):=ata s.toNat s.isLt
theorem a15 (b:Nat):mw b ≤ 8:=by
 have:=List.countP_le_length (p:=fun i=>b.testBit i) (l:=List.range 8)
 rwa [List.length_range] at this
theorem amj (s:AS) (k:Nat) (hk:k ≤ 32):((asI s).fdiv (2 ^ (min k 32))).toNat = s.toNat / 2 ^ k:=by
 rw [abh]
 show (((s >>> k).toNat:Nat):Int).toNat = _
 rw [Int.toNat_natCast,BitVec.toNat_ushiftRight,Nat.shiftRight_eq_div_pow]
theorem ag1 (s:AS) (k:Nat) (hk:k ≤ 32):(fl .and .u32 ((asI s).fdiv (2 ^ (min k 32))) 255).toNat = s.toNat / 2 ^ k % 256:=by
 rw [abh,show (255:Int) = asI 255 from rfl,a08]
 show (((s >>> k &&& 255).toNat:Nat):Int).toNat = _
 rw [Int.toNat_natCast,BitVec.toNat_and,BitVec.toNat_ushiftRight,Nat.shiftRight_eq_div_pow,show (255:AS).toNat = 2 ^ 8 - 1 from rfl,Nat.and_two_pow_sub_one_eq_mod]
theorem alx (s:AS):(fl .and .u32 (asI s) 255).toNat = s.toNat % 256:=by
 rw [show (255:Int) = asI 255 from rfl,a08]
 show (((s &&& 255).toNat:Nat):Int).toNat = _
 rw [Int.toNat_natCast,BitVec.toNat_and,show (255:AS).toNat = 2 ^ 8 - 1 from rfl,Nat.and_two_pow_sub_one_eq_mod]
theorem aga (a b:Int):0 ≤ fl .and .u32 a b:=by
 show 0 ≤ IntKind.wrap .u32 _
 rw [a9u (Int.natCast_nonneg _) (by have:=(BitVec.ofInt 32 a &&& BitVec.ofInt 32 b).isLt;show ((BitVec.ofInt 32 a &&& BitVec.ofInt 32 b).toNat:Int) < _;omega)]
 exact Int.natCast_nonneg _
theorem aoh (s:AS) (k:Nat):0 ≤ (asI s).fdiv (2 ^ (min k 32)):=by rw [abh];exact x7 _
theorem awf {X:ByteArray} (s:AS) (hX:(256:Int) ≤ X.size):0 ≤ (asI s).fdiv (2 ^ (min 24 32)) ∧ (asI s).fdiv (2 ^ (min 24 32)) < X.size:=by
 have h1:=aoh s 24
 have h2:=amj s 24 (by omega)
 have:=s.isLt
 exact ⟨h1,by omega⟩
theorem ixM {X:ByteArray} (s:AS) (k:Nat) (hk:k ≤ 32) (hX:(256:Int) ≤ X.size):0 ≤ fl .and .u32 ((asI s).fdiv (2 ^ (min k 32))) 255 ∧ fl .and .u32 ((asI s).fdiv (2 ^ (min k 32))) 255 < X.size:=by
 have h1:=aga ((asI s).fdiv (2 ^ (min k 32))) 255
 have h2:=ag1 s k hk
 exact ⟨h1,by omega⟩
theorem ixL {X:ByteArray} (s:AS) (hX:(256:Int) ≤ X.size):0 ≤ fl .and .u32 (asI s) 255 ∧ fl .and .u32 (asI s) 255 < X.size:=by
 have h1:=aga (asI s) 255
 have h2:=alx s
 exact ⟨h1,by omega⟩
theorem a65 {n:Int} (h0:0 ≤ n) (h1:n < 256):IntKind.wrap .u8 n = n:=pr (by simp only [inR,jy,lg];omega)
theorem agr {n:Int} (h0:0 ≤ n) (h1:n < 256):IntKind.wrap .i64 n = n:=pr (by simp only [inR,jy,lg];omega)
theorem aqm {X:ByteArray} {s:AS} {i0 i1 i2 i3:Nat} (hX:∀ b,b < 256 → ct X b = (mw b:Int)) (h0:i0 = s.toNat / 2 ^ 24) (h1:i1 = s.toNat / 2 ^ 16 % 256) (h2:i2 = s.toNat / 2 ^ 8 % 256) (h3:i3 = s.toNat % 256) :
 IntKind.wrap .i64 (IntKind.wrap .u8 (IntKind.wrap .u8 (IntKind.wrap .u8 (ct X i0 + ct X i1) + ct X i2) + ct X i3)) = (bsz s:Int):=by
 have:=s.isLt
 subst h0 h1 h2 h3
 rw [hX _ (by omega),hX _ (by omega),hX _ (by omega),hX _ (by omega)]
 have a0:=a15 (s.toNat / 2 ^ 24)
 have a1:=a15 (s.toNat / 2 ^ 16 % 256)
 have a2:=a15 (s.toNat / 2 ^ 8 % 256)
 have a3:=a15 (s.toNat % 256)
 rw [ahq]
 generalize mw (s.toNat / 2 ^ 24) = c0 at *
 generalize mw (s.toNat / 2 ^ 16 % 256) = c1 at *
 generalize mw (s.toNat / 2 ^ 8 % 256) = c2 at *
 generalize mw (s.toNat % 256) = c3 at *
 rw [a65 (n:=c0 + c1) (by omega) (by omega),a65 (n:=c0 + c1 + c2) (by omega) (by omega),a65 (n:=c0 + c1 + c2 + c3) (by omega) (by omega),agr (n:=c0 + c1 + c2 + c3) (by omega) (by omega)]
 omega
theorem ase (s:AS):bsz s ≤ 32:=by
 have:=List.countP_le_length (p:=fun i=>s.getLsbD i) (l:=List.range 32)
 rwa [List.length_range] at this
theorem ah4 {s:AS} (h:s ≠ 0):asI s - 1 = asI (s - 1):=by
 have h0:s.toNat ≠ 0:=fun e=>h (BitVec.eq_of_toNat_eq e)
 have:=s.isLt
 have e1:(s - 1).toNat = s.toNat - 1:=by
  rw [BitVec.toNat_sub]
  show (2 ^ 32 - 1 + s.toNat) % 2 ^ 32 = _
  omega
 unfold asI
 rw [e1]
 omega
theorem ajl {s:AS} (h:s ≠ 0):(gd true .u32 (asI s - 1)).1:=by
 rw [ah4 h]
 have h1:=x7 (s - 1)
 have h2:=a11 (s - 1)
 simp only [gd,inR,jy,lg]
 omega
def fw (a b:Int):Int:=if a < b then -1 else if b < a then 1 else 0
def qb (a b:AS):Int:=if fw (bsz a) (bsz b) = 0 then fw (asI a) (asI b) else fw (bsz a) (bsz b)
end Go.Hx
end
section
namespace Go.Hx
open Go.Proofs
set_option maxRecDepth 100000
theorem apo:ai Tryz.prog 165:=⟨Tryz.f165,Tryz.func165,by kernel_rfl,by kernel_rfl⟩
theorem auv (s:AS):al Tryz.prog 165 [pA s] (az [pP (il (afw s))]):=by
 refine ag (nt:=17) ae Tryz.func165 rfl rfl l9 ?_;refine sx7 ?_;refine qy ?_;refine a6 ?_;refine sx7 ?_;refine qy ?_;refine a6 ?_;refine a7 ?_;refine sx7 ?_;refine qy ?_;refine a6 ?_
 refine af ?_;refine ec 3 900 true 1 3 (lf iC []) (by decide) rfl (CoP.sl rfl (.inr rfl) (fun h=>h) (fun i j hi _=>absurd hi (Nat.not_lt_zero i))) (.inr rfl) rfl ?_
 refine av (ι:=Nat) ⟨[(0,some _)],[]⟩ ⟨⟨c9,trivial⟩,trivial⟩ (fun i=>⟨[(3,some (.v (.one (.ref 900 (oe s i).length)))),(4,some (vI i))],[(900,some (.arr true 1 3 (oe s i).length (lf iC (oe s i))))]⟩) (fun i=>i ≤ 32) (fun i=>32 - i) (0) (Nat.zero_le _) ⟨⟨zy,zy,trivial⟩,⟨u9,trivial⟩⟩ ?_
 rintro i hi
 have hlen:=ahs s i
 refine a7 ?_;refine sx7 ?_;(iterate 2 refine qy ?_);refine a6 ?_;refine a8 _ rfl (fun r0=>?_) (fun r0=>?_)
 ·
  have h0:=of_decide_eq_true r0
  try simp only [ty] at h0
  refine aa ?_;refine a7 ?_;refine af ?_;refine sx7 ?_;(iterate 2 refine qy ?_);refine rc rfl rfl rfl rfl rfl rfl ado (arx s i) (CoL.refl _) rfl rfl ?_;refine a6 ?_
  refine a8 _ rfl (fun r1=>?_) (fun r1=>?_)
  ·
   have h1:=r1
   refine gy ?_;(iterate 2 refine qy ?_);refine m9 0 ?_;refine ra 1 true rfl rfl rfl rfl rfl rfl ?_;refine qy ?_;refine a6 ?_;refine gy ?_;(iterate 3 refine qy ?_);refine a6 ?_
   first | (refine ⟨i + 1, ?_, ?_, ?_⟩
            · show i + 1 ≤ _;omega
            · first | omega | (dsimp only;omega)
            · exact ⟨⟨⟨_,rfl,(dt (a1s (by omega) (by assumption)))⟩,zy,c9,trivial⟩,⟨⟨_,rfl,(ek (a1s (by omega) (by assumption)) (CoP.refl _))⟩,trivial⟩⟩)
         | (refine ⟨i + 1, ?_, ?_, ?_⟩
            · show i + 1 ≤ _;omega
            · first | omega | (dsimp only;omega)
            · exact ⟨⟨⟨_,rfl,(d9 (a1v (by omega) (by assumption)))⟩,zy,c9,trivial⟩,⟨⟨_,rfl,(cr (a1v (by omega) (by assumption)))⟩,trivial⟩⟩)
  ·
   have h1:=r1
   refine aa ?_;refine gy ?_;(iterate 3 refine qy ?_);refine a6 ?_
   first | (refine ⟨i + 1, ?_, ?_, ?_⟩
            · show i + 1 ≤ _;omega
            · first | omega | (dsimp only;omega)
            · exact ⟨⟨⟨_,rfl,(dt (a1s (by omega) (by assumption)))⟩,zy,c9,trivial⟩,⟨⟨_,rfl,(ek (a1s (by omega) (by assumption)) (CoP.refl _))⟩,trivial⟩⟩)
         | (refine ⟨i + 1, ?_, ?_, ?_⟩
            · show i + 1 ≤ _;omega
            · first | omega | (dsimp only;omega)
            · exact ⟨⟨⟨_,rfl,(d9 (a1v (by omega) (by assumption)))⟩,zy,c9,trivial⟩,⟨⟨_,rfl,(cr (a1v (by omega) (by assumption)))⟩,trivial⟩⟩)
 ·
  have h0:=of_decide_eq_false r0
  try simp only [ty] at h0
  obtain rfl:i = 32:=by omega
  refine aq ?_;refine sx7 ?_;(iterate 2 refine qy ?_);refine a6 ?_;refine dp 2 rfl rfl rfl ?_
  exact hx8 rfl rfl rfl (⟨CoC.one (CoP.refl _),trivial⟩)
theorem pi:ai Tryz.prog 148:=⟨Tryz.f148,Tryz.func148,by kernel_rfl,by kernel_rfl⟩
theorem un (s:AS):al Tryz.prog 148 [pA s] (az [pI (bsz s)]):=by
 refine ag (nt:=6) ae Tryz.func148 rfl rfl l9 ?_;refine sx7 ?_;refine qy ?_;refine a6 ?_;refine sx7 ?_;refine qy ?_;refine rc rfl rfl rfl rfl rfl rfl apo (auv s) (CoL.refl _) rfl rfl ?_
 (iterate 2 refine qy ?_);refine a6 ?_
 exact hx8 rfl rfl rfl (⟨cci (by rw [ail]),trivial⟩)
theorem an0:ai Tryz.prog 110:=⟨Tryz.f110,Tryz.func110,by kernel_rfl,by kernel_rfl⟩
theorem au6 (s:AS):al Tryz.prog 110 [pA s] (az [pI (bsz s)]):=by
 refine ag (nt:=21) ae Tryz.func110 rfl rfl l9 ?_;refine sx7 ?_;refine qy ?_;refine a6 ?_;refine a7 ?_
 refine ay (E:=b5) ae ak [0,1,2,3,4,5,6,7,8,9,10,11,12,13,14,15,16,17,18] ?_;(iterate 2 refine qy ?_);refine rq rfl rfl rfl rfl rfl ?_ (hp:=(awf s (by decide +kernel)))
 (iterate 3 refine qy ?_);refine rq rfl rfl rfl rfl rfl ?_ (hp:=(ixM s 16 (by omega) (by decide +kernel)));refine rqw rfl rfl rfl rfl rfl ?_;(iterate 3 refine qy ?_)
 refine rq rfl rfl rfl rfl rfl ?_ (hp:=(ixM s 8 (by omega) (by decide +kernel)));refine rqw rfl rfl rfl rfl rfl ?_;(iterate 2 refine qy ?_);refine rq rfl rfl rfl rfl rfl ?_ (hp:=(ixL s (by decide +kernel)))
 (iterate 2 refine rqw rfl rfl rfl rfl rfl ?_);refine qy ?_;refine a6 ?_;refine ⟨by kernel_rfl, ?_⟩
 exact hx8 rfl rfl rfl (⟨cci (aqm (by decide +kernel) (amj s 24 (by omega)) (ag1 s 16 (by omega)) (ag1 s 8 (by omega)) (alx s)),trivial⟩)
theorem a0c:ai Tryz.prog 72:=⟨Tryz.f72,Tryz.func72,by kernel_rfl,by kernel_rfl⟩
theorem a4x (s:AS):al Tryz.prog 72 [pA s] (az [pI (bsz s)]):=by
 refine ag (nt:=5) ae Tryz.func72 rfl rfl l9 ?_;refine sx7 ?_;refine qy ?_;refine a6 ?_;refine sx7 ?_;refine qy ?_;refine rc rfl rfl rfl rfl rfl rfl an0 (au6 s) (CoL.refl _) rfl rfl ?_;refine qy ?_
 refine a6 ?_
 exact hx8 rfl rfl rfl (CoL.refl _)
end Go.Hx
end
section
namespace Go.Hx
def jb (l:List AS) (k:Nat) (r:AS):List AS:=l.take k ++ r :: l.drop k
theorem jk {l:List AS} {k:Nat} {r:AS} (h:k ≤ l.length):(jb l k r).length = l.length + 1:=by simp [jb];omega
theorem al9 {l:List AS} {r:AS}:jb l l.length r = l ++ [r]:=by simp [jb]
theorem xz {l:List AS} {k i:Nat} {r:AS} (h:k ≤ l.length):(jb l k r)[i]? = if i < k then l[i]? else if i = k then some r else l[i - 1]?:=by
 simp only [jb]
 by_cases h1:i < k
 · rw [if_pos h1,List.getElem?_append_left (by simp;omega),List.getElem?_take,if_pos h1]
 · rw [if_neg h1,List.getElem?_append_right (by simp;omega),List.length_take,Nat.min_eq_left h]
   by_cases h2:i = k
   · subst h2;simp
   · rw [if_neg h2]
     obtain ⟨d,rfl⟩:∃ d,i = k + 1 + d:=⟨i - k - 1,by omega⟩
     rw [show k + 1 + d - k = d + 1 by omega,List.getElem?_cons_succ,List.getElem?_drop]
     congr 1
     omega
theorem agz {l:List AS} {k:Nat} {r:AS} (h:k ≤ l.length):(jb l k r).getD k default = r:=by
 rw [List.getD_eq_getElem?_getD,xz h,if_neg (by omega),if_pos rfl];rfl
theorem a8f {l:List AS} {k:Nat} {r:AS} (h0:0 < k) (h:k ≤ l.length):(jb l k r).getD (k - 1) default = l.getD (k - 1) default:=by
 rw [List.getD_eq_getElem?_getD,xz h,if_pos (by omega),List.getD_eq_getElem?_getD]
theorem ahw {l:List AS} {k:Nat} {r:AS} (h0:0 < k) (h:k ≤ l.length):((jb l k r).set k (l.getD (k - 1) default)).set (k - 1) r = jb l (k - 1) r:=by
 apply List.ext_getElem?
 intro i
 rw [xz (by omega),List.getElem?_set,List.getElem?_set,List.length_set,jk h,xz h]
 by_cases h1:k - 1 = i
 · subst h1
   rw [if_pos rfl,if_pos (by omega),if_neg (by omega),if_pos rfl]
 · rw [if_neg h1]
   by_cases h2:k = i
   · subst h2
     rw [if_pos rfl,if_pos (by omega),if_neg (by omega),if_neg (by omega),List.getD,List.getElem?_eq_getElem (by omega)]
     rfl
   · rw [if_neg h2]
     by_cases h3:i < k
     · rw [if_pos h3,if_pos (by omega)]
     · rw [if_neg h3,if_neg (by omega),if_neg (by omega),if_neg (by omega)]
theorem ahn {l:List AS} {k k' m':Nat} {r:AS} (h0:0 < k) (hk:k ≤ l.length) (hk':k' = k) (hm':m' = k - 1) {n:Nat} (hn:n = l.length + 1) {e:TypeId} :
 CoO (.arr true 1 e n (gr (gr (lf sC (jb l k r)) k' 0 [lf sC (jb l k r) m' 0]) m' 0 [lf sC (jb l k r) k' 0])) (.arr true 1 e n (lf sC (jb l (k - 1) r))):=by
 subst hk' hm'
 rw [← ahw h0 hk]
 refine a5y (fun h=>h) (by rw [jk hk];exact hn) (by rw [jk hk];omega) (by rw [jk hk];omega) rfl rfl (fun j hj=>?_) (fun j hj=>?_)
 · obtain rfl:j = 0:=by omega
   exact CoP.of_eq (by show sC ((jb l k' r).getD (k' - 1) default) 0 = _;rw [a8f h0 hk])
 · obtain rfl:j = 0:=by omega
   exact CoP.of_eq (by show sC ((jb l k' r).getD k' default) 0 = _;rw [agz hk])
theorem ahl {l:List AS} {k k' m':Nat} {r:AS} {b:Bool} (h0:0 < k) (hk:k ≤ l.length) (h:bef ((jb l k r).getD k' default) ((jb l k r).getD m' default) = b) (hk':k' = k) (hm':m' = k - 1):bef r (l.getD (k - 1) default) = b:=by
 subst hk' hm'
 rwa [agz hk,a8f h0 hk] at h
theorem abp {l:List AS} {j:Nat} (h:j < l.length):l.getD j default ∈ l:=by
 rw [List.getD_eq_getElem?_getD,List.getElem?_eq_getElem h]
 exact List.getElem_mem h
theorem a8i {l:List AS} {k:Nat} {r:AS} (hs:iz l) (hr:r ∉ l) (hk:k ≤ l.length) (h1:∀ j,k ≤ j → j < l.length → bef r (l.getD j default) = true) (h2:k = 0 ∨ ¬ bef r (l.getD (k - 1) default) = true):jb l k r = jo r l:=by
 refine l5 ?_ (vk hs) fun z=>?_
 · unfold iz jb
   rw [List.pairwise_append]
   refine ⟨hs.sublist (List.take_sublist _ _),List.pairwise_cons.2 ⟨fun z hz=>?_,hs.sublist (List.drop_sublist _ _)⟩,fun y hy z hz=>?_⟩
   · obtain ⟨j,hj,rfl⟩:=List.getElem_of_mem hz
     rw [List.length_drop] at hj
     have:=h1 (k + j) (by omega) (by omega)
     rwa [List.getD_eq_getElem?_getD,List.getElem?_eq_getElem (by omega),Option.getD_some,← List.getElem_drop] at this
   · have hyr:bef y r = true:=by
      obtain ⟨j,hj,rfl⟩:=List.getElem_of_mem hy
      rw [List.length_take] at hj
      rcases h2 with h2 | h2
      · omega
      · have hk1:k - 1 < l.length:=by omega
        have hlast:bef (l.getD (k - 1) default) r = true:=by
         rcases p9 (a:=r) (b:=l.getD (k - 1) default) (fun e=>hr (e ▸ abp hk1)) with h | h
         · exact absurd h h2
         · exact h
        rw [List.getElem_take]
        by_cases hjk:j = k - 1
        · subst hjk
          rwa [List.getD_eq_getElem?_getD,List.getElem?_eq_getElem hk1,Option.getD_some] at hlast
        · refine lz ?_ hlast
          rw [List.getD_eq_getElem?_getD,List.getElem?_eq_getElem hk1,Option.getD_some]
          exact List.pairwise_iff_getElem.1 hs j (k - 1) (by omega) hk1 (by omega)
     rcases List.mem_cons.1 hz with rfl | hz
     · exact hyr
     · have h3:bef r z = true:=by
        obtain ⟨j,hj,rfl⟩:=List.getElem_of_mem hz
        rw [List.length_drop] at hj
        have:=h1 (k + j) (by omega) (by omega)
        rwa [List.getD_eq_getElem?_getD,List.getElem?_eq_getElem (by omega),Option.getD_some,← List.getElem_drop] at this
       exact lz hyr h3
 · rw [up]
   unfold jb
   rw [List.mem_append,List.mem_cons]
   constructor
   · rintro (h | h | h)
     · exact .inr (List.mem_of_mem_take h)
     · exact .inl h
     · exact .inr (List.mem_of_mem_drop h)
   · rintro (h | h)
     · exact .inr (.inl h)
     · rw [← List.take_append_drop k l,List.mem_append] at h
       rcases h with h | h
       · exact .inl h
       · exact .inr (.inr h)
theorem po {r:AS} {l:List AS} (hs:iz l) (hr:r ∈ l):jo r l = l:=l5 (vk hs) hs fun z=>by
 rw [up]
 constructor
 · rintro (rfl | h)
   · exact hr
   · exact h
 · exact .inr
theorem fu {l:List AS} {i:Nat} (hi:i < l.length):ord (l.take (i + 1)) = jo (l.getD i default) (ord (l.take i)):=by
 unfold ord
 rw [ce hi,List.foldl_append]
 rfl
theorem ab5 (x:AS):∀ l:List AS,(jo x l).length ≤ l.length + 1
 | []=>by simp [jo]
 | y :: l=>by
  unfold jo
  have:=ab5 x l
  split
  · simp
  · split
    · simp
    · simp only [List.length_cons];omega
theorem su (l:List AS):(ord l).length ≤ l.length:=by
 have:∀ (l o:List AS),(l.foldl (fun o x=>jo x o) o).length ≤ o.length + l.length:=by
  intro l
  induction l with
  | nil=>intro o;simp
  | cons x l ih =>
   intro o
   have h1:=ih (jo x o)
   have h2:=ab5 x o
   simp only [List.foldl_cons,List.length_cons]
   omega
 have h:=this l []
 simpa [ord] using h
theorem aek {l:List AS} {s:AS}:(l.any fun x=>decide (x = s)) = decide (s ∈ l):=by
 rw [Bool.eq_iff_iff,List.any_eq_true,decide_eq_true_iff]
 constructor
 · rintro ⟨x,hx,h⟩
   exact of_decide_eq_true h ▸ hx
 · intro h
   exact ⟨s,h,decide_eq_true rfl⟩
def jC:Int → Nat → PV:=fun n _=>.raw (.int .i64 n)
def orF (l:List Int):Int:=(l.find? fun x=>decide (x ≠ 0)).getD 0
theorem aui {l:List Int} {i:Nat} (hi:i < l.length) (hI:∀ j,j < i → decide (l.getD j default = 0) = true) (h:¬ l.getD i default = 0):orF l = l.getD i default:=by
 unfold orF
 have:l.find? (fun x=>decide (x ≠ 0)) = some (l.getD i default):=by
  rw [List.find?_eq_some_iff_getElem]
  refine ⟨decide_eq_true h,i,hi,by simp [List.getD,hi],fun j hj=>?_⟩
  have:=of_decide_eq_true (hI j hj)
  rw [List.getD_eq_getElem?_getD,List.getElem?_eq_getElem (by omega),Option.getD_some] at this
  simp [this]
 rw [this];rfl
theorem atz {l:List Int} (hI:∀ j,j < l.length → decide (l.getD j default = 0) = true):orF l = 0:=by
 unfold orF
 have:l.find? (fun x=>decide (x ≠ 0)) = none:=by
  rw [List.find?_eq_none]
  intro x hx
  obtain ⟨j,hj,rfl⟩:=List.getElem_of_mem hx
  have:=of_decide_eq_true (hI j hj)
  rw [List.getD_eq_getElem?_getD,List.getElem?_eq_getElem hj,Option.getD_some] at this
  simp [this]
 rw [this];rfl
theorem ae7 (a b:AS):orF [fw (bsz a) (bsz b),fw (asI a) (asI b)] = qb a b:=by
 unfold orF qb
 by_cases h:fw (bsz a) (bsz b) = 0
 · by_cases h2:fw (asI a) (asI b) = 0 <;> simp [h,h2]
 · simp [h]
theorem xe {α:Type} [Inhabited α] {cl:Bool} {c:α → Nat → PV} {x y:α} {f:Nat → Nat → PV} (h0:CoP (f 0 0) (c x 0)) (h1:CoP (f 1 0) (c y 0)):CoP (.sl 2 1 cl f) (psl 1 c [x,y]) :=
 CoP.sl rfl (.inl rfl) (fun h=>by cases h) fun i j hi hj=>by
  obtain rfl:j = 0:=by omega
  rcases (by omega:i = 0 ∨ i = 1) with rfl | rfl
  · exact h0
  · exact h1
theorem ar6 {a b:AS} (h:¬ (bsz a:Int) = bsz b):decide ((bsz a:Int) < bsz b) = bef a b:=by
 rw [Bool.eq_iff_iff,decide_eq_true_iff,gq]
 omega
theorem aqg {a b:AS} (h:(bsz a:Int) = bsz b):decide (asI a < asI b) = bef a b:=by
 rw [Bool.eq_iff_iff,decide_eq_true_iff,gq]
 unfold asI
 omega
theorem ao5 {α:Type} [Inhabited α] {wr wr':Bool} {e:TypeId} {c:α → Nat → PV} {l:List α} {x:α} {g:Nat → Nat → PV} (hg:CoP (g 0 0) (c x 0)) (hw:wr' = true → wr = true:=by exact fun h=>h) :
 CoO (.arr wr 1 e (l.length + 1) (en l.length (lf c l) g)) (.arr wr' 1 e (l.length + 1) (lf c (l ++ [x]))):=by
 have h:=ek (wr:=wr) (wr':=wr') (e:=e) (l:=l) (l':=l ++ [x]) (g:=g) rfl hg hw
 rwa [show (l ++ [x]).length = l.length + 1 by simp] at h
theorem ml {α:Type} [Inhabited α] {wr wr':Bool} {s n m:Nat} {e:TypeId} {c:α → Nat → PV} {l l':List α} (h:l' = l) (hn:n = m) (hw:wr' = true → wr = true:=by exact fun h=>h):CoO (.arr wr s e n (lf c l)) (.arr wr' s e m (lf c l')):=by
 subst h hn
 exact ⟨hw,rfl,rfl,rfl,fun _ _ _ _=>CoP.refl _⟩
theorem ak9 {a b:AS}:decide (qb a b < 0) = bef a b:=by
 rw [Bool.eq_iff_iff,decide_eq_true_iff,gq]
 unfold qb fw asI
 split <;> (repeat' split) <;> omega
end Go.Hx
end

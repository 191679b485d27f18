/- A part of the proof: V4 Cs5 V5 Cs2 Cs6. -/
import Derived.Lib.TrailingZeros
import Derived.Test.YteklilhbjjofbaaGreatDoorLe14
set_option linter.all false
set_option maxRecDepth 100000
namespace Go.Hx
section
open Go.Proofs
def wq:goodFn b65 13:=⟨Tryz.f13,Tryz.func13,by kernel_rfl,by kernel_rfl⟩
def apv (n:Nat) (c:Bool) (f:Nat -> Nat -> PV) (hn:n <= 35184372088832) :
 ci b65 13 [.one (.p (.sl n 1 c f))] [] (.v (.one (.ref 0 n))) [(0, .arr true 1 28 n f)] []:=by
 refine hfx (nt:=8) Tryz.func13 ?_;refine sx7 ?_;refine bi true rfl rfl rfl rfl rfl trivial ?_;refine cg ?_;refine vv (ι:=Bool) (fun c=>⟨[(0,some (az (.sl n 1 c f)))],[]⟩) (fun _=>True) ?_ fun c _=>?_
 · rcases b3t n with hz | h0
   · subst hz
     refine hw_exact' 0 rfl fun ad cap hcap=>?_;refine sx7 ?_;(iterate 2 refine bi true rfl rfl rfl rfl rfl trivial ?_);refine cg ?_;refine aj ad.isNone rfl (fun hc=>?_) (fun hc=>?_)
     · refine sx7 ?_
       refine bi true rfl rfl rfl rfl rfl trivial ?_;refine cg ?_;refine gn 2 0 true 1 28 f b5n rfl (CoP.sl rfl (.inr rfl) (fun h=>h) fun i j hi _=>absurd hi (b2o i)) (.inr rfl) rfl ?_;refine hrr ?_;exact ⟨_,_,rfl,trivial,CoR.refl _,uu⟩
     refine ek ?_;exact ⟨false,trivial,⟨⟨_,rfl,CoP.raw_sl hcap⟩,trivial⟩,trivial⟩
   refine sx7 ?_;refine bi true rfl rfl rfl rfl rfl trivial ?_;refine bi true rfl rfl rfl rfl rfl h0 ?_;refine cg ?_;refine aj false rfl (fun hc=>by cases hc) (fun hc=>?_);refine ek ?_;exact ⟨c,trivial,tt,trivial⟩
 refine sx7 ?_;refine sc 0 rfl rfl rfl rfl rfl rfl trivial ?_;refine bi true rfl rfl rfl rfl rfl trivial ?_;refine w9 0 true rfl rfl rfl rfl rfl rfl ⟨trivial,rfl,rfl,rfl, .inl rfl,by show 0 + n <= 9223372036854775807;omega,by show (0 + n) * 4 <= 140737488355328;omega,fun _=>.inl rfl⟩ ?_;refine bi true rfl rfl rfl rfl rfl trivial ?_;refine cg ?_;refine hrr ?_;refine ⟨_,_,rfl,trivial,CoR.of_eq (by show HR.v (.one (.ref 0 (0 + n))) = _;rw [b30]),⟨⟨_,rfl, ?_⟩,trivial⟩⟩;exact ⟨fun h=>h,rfl,rfl,(b30 n).symm,fun i j _ _=>CoP.of_eq (by simp [d8])⟩
def p9 (n:Nat) (c:Bool) (f:Nat -> Nat -> PV) (hn:n <= 35184372088832):aa b65 13 [.one (.sl n 1 c f)] (.v (.one (.sl n 1 false f))) :=
 ci.pure (args:=[.one (.sl n 1 c f)]) (l:=[.one (.ref 0 n)]) (apv n c f hn) rfl ⟨rfl,trivial⟩
end
section
def bt (s:AS) (i:Int):Bool:=decide (0 <= i /\ i < 32) && s.getLsbD i.toNat
def ew {s:AS} {i:Nat} (h:i < 32):bt s i = s.getLsbD i:=by
 unfold bt;rw [decide_eq_true b5h];simp
def a8r {s:AS} {i:Int} (h0:0 <= i) (h1:i < 32):decide (k8 .and .u32 ((asI s).fdiv (2 ^ (min i.toNat 32))) 1 = 1) = bt s i:=by
 unfold bt;rw [al2,show (1:Int) = asI 1 from rfl,ana,decide_eq_true (show 0 <= i /\ i < 32 from ⟨h0,h1⟩),b5a]
 have e:asI (s >>> i.toNat &&& 1) = asI 1 <-> s.getLsbD i.toNat = true:=by
  rw [s7];constructor
  · intro h
    have:=congrArg (fun x:AS=>x.getLsbD 0) h;simpa using this
  intro h;apply b47;intro k hk;have h1:(1:AS).getLsbD k = decide (k = 0):=by have:=a0e 0 k hk;simpa using this
  rw [b3y,BitVec.getLsbD_ushiftRight,h1];by_cases hk0:k = 0
  · subst hk0;simp [h]
  simp [hk0]
 cases hb:s.getLsbD i.toNat with
 | true=>exact decide_eq_true (e.2 hb)
 | false=>exact decide_eq_false fun h=>by rw [e.1 h] at hb;cases hb
def a56 {s:AS} {i:Int} (h:¬ (0 <= i /\ i < 32)):bt s i = false:=by
 unfold bt;rw [decide_eq_false h];rfl
def ad4 {n:Nat} (h:n <= 32):iu n = BitVec.ofNat 32 (2 ^ n - 1):=by
 apply b47;intro k hk;rw [jh n k hk,BitVec.getLsbD_ofNat,Nat.testBit_two_pow_sub_one];simp [hk]
def adv {n:Nat} (h:n <= 32):(iu n).toNat = 2 ^ n - 1:=by
 have h2:2 ^ n <= 2 ^ 32:=Nat.pow_le_pow_right b5h h;have h3:0 < 2 ^ n:=Nat.two_pow_pos n;rw [ad4 h,BitVec.toNat_ofNat,Nat.mod_eq_of_lt b5h]
def aer {n:Int} {l:List Fd} (h:dm n l = 0):0 <= n /\ n <= 16 /\ l.length <= 64 /\ l.all (inU n) = true:=by
 unfold dm at h;split at h
 · cases h
 split at h
 · cases h
 split at h
 · rename_i h1 h2 h3
   exact ⟨by omega,by omega,by omega,h3⟩
 cases h
def a05 {n:Int} (h0:0 <= n) (h1:n <= 16):IntKind.wrap .u32 (1 * 2 ^ (min n.toNat 32)) - 1 = asI (b5 n):=by
 have h2:2 ^ n.toNat <= 2 ^ 16:=Nat.pow_le_pow_right b5h b5h;have h3:0 < 2 ^ n.toNat:=Nat.two_pow_pos _;rw [show IntKind.wrap .u32 (1 * 2 ^ (min n.toNat 32)) = asI ((1:AS) <<< n.toNat) from av8 1 n.toNat];unfold b5 asI;rw [b3n b5h,adv b5h,BitVec.toNat_shiftLeft,Nat.shiftLeft_eq];rw [show (1:AS).toNat = 1 from rfl,Nat.one_mul,Nat.mod_eq_of_lt b5h];omega
def am1 {n:Int} (h0:0 <= n) (h1:n <= 16):0 <= IntKind.wrap .u32 (1 * 2 ^ (min n.toNat 32)) - 1:=by rw [a05 h0 h1];exact aag _
def ain {n:Int} (h0:0 <= n) (h1:n <= 16):IntKind.wrap .u32 (1 * 2 ^ (min n.toNat 32)) - 1 <= 4294967295:=by rw [a05 h0 h1];have:=a9e (b5 n);omega
def a67 (n:Int) (l:List Fd) (s:AS):Bool:=decide (dm n l = 0 /\ sub s (b5 n) /\ clo l s = b5 n)
section
variable {n:Int} {l:List Fd} {s:AS}
end
def a35 (n:Int) (l:List Fd) (m:Int):Int:=if dm n l = 0 then (if m < n then 3 else 0) else dm n l
structure Dp where
 l:BitVec 8
 r:BitVec 8
deriving Inhabited
def Dp.c (d:Dp):Nat -> PV
 | 0=>.raw (.int .u8 (d.l.toNat:Int))
 | 1=>.raw (.int .u8 (d.r.toNat:Int))
 | _=>.any
abbrev dpl (l:List Dp):PV:=psl 2 Dp.c l
def Dp.fd (n:Int) (d:Dp):Fd:=⟨d.l.setWidth 32 &&& b5 n,d.r.setWidth 32 &&& b5 n⟩
end
section
open Go.Proofs
def azg (s:AS) (i:Int):aa b65 119 [pA s,pI i] (af [pB (bt s i)]):=by
 refine hpx (nt:=18) Tryz.func119 ?_;refine w_9 ?_;refine ab rfl rfl (fun r0=>?_) (fun r0=>?_)
 ·
  have h0:=tz1 r0;(iterate 2 refine qy ?_ (hg:=(gtt r0)));refine w_2 ?_;refine ab rfl rfl (fun r1=>?_) (fun r1=>?_)
  ·
   have h1:=tz1 (b4 r0 r1);(iterate 5 refine qy ?_ (hg:=(gtt r1)));refine w_3 ?_
   exact hx8 rfl rfl rfl (⟨ccb (by first | exact wv b5i (a8r b5h b5h) | exact (a56 b5h).symm),trivial⟩)
  have h1:=tz2 (b4 r0 r1);(iterate 5 refine k9 (gft r1) ?_);refine w_3 ?_
  exact hx8 rfl rfl rfl (⟨ccb (by first | exact wv b5i (a8r b5h b5h) | exact (a56 b5h).symm),trivial⟩)
 have h0:=tz2 r0;(iterate 2 refine k9 (gft r0) ?_);refine w_2 ?_;(iterate 5 refine k9 rfl ?_);refine w_3 ?_
 exact hx8 rfl rfl rfl (⟨ccb (by first | exact wv b5i (a8r b5h b5h) | exact (a56 b5h).symm),trivial⟩)
end
section
def bsz (s:AS):Nat:=(List.range 32).countP fun i=>s.getLsbD i
def bef (a b:AS):Bool:=decide (bsz a < bsz b) || (decide (bsz a = bsz b) && decide (a.toNat < b.toNat))
def aw8 (l:List AS):Prop:=l.Pairwise fun a b=>bef a b = true
def asv (x:AS):List AS -> List AS
 | []=>[x]
 | y :: l=>if x = y then y :: l else if bef x y = true then x :: y :: l else y :: asv x l
def ord (l:List AS):List AS:=l.foldl (fun o x=>asv x o) []
end
section
def bc (s:AS):List Nat:=(List.range 32).filter fun i=>s.getLsbD i
def iC:Nat -> Nat -> PV:=fun n _=>.raw (.int .i64 (n:Int))
abbrev il (l:List Nat):PV:=psl 1 iC l
def ajr (s:AS):bsz s = (bc s).length:=by unfold bsz bc;rw [List.countP_eq_length_filter]
section
variable {s:AS}
def zr {i:Nat}:i ∈ bc s <-> i < 32 /\ s.getLsbD i = true:=by simp [bc,b4r,b36]
def z1 {p:Nat -> Bool} {t:Nat}:∀ {l:List Nat},l.Pairwise (· < ·) -> t ∈ l -> p t = true -> (∀ k,k < t -> p k = false) -> l.filter p = t :: l.filter fun k=>decide (k ≠ t) && p k
 | [],_,h,_,_=>by cases h
 | a :: l,hp,hm,h1,h2=>by
  obtain ⟨q1,q2⟩:=b3h.1 hp;by_cases ha:a = t
  · subst ha
    have e:l.filter p = l.filter fun k=>decide (k ≠ a) && p k:=by
     apply List.filter_congr;intro k hk;have:=q1 k hk;rw [decide_eq_true b5h,b5a]
    simp [b4m,h1,e]
  have hm':t ∈ l:=by
   rcases b2s.1 hm with h | h
   · exact absurd h.symm ha
   exact h
  have:=q1 t hm';have hpa:=h2 a this;simp [b4m,hpa,z1 q2 hm' h1 h2]
def ky (s:AS):Nat:=Lib.ctz 32 s.toNat
def anu (h:s ≠ 0):∃ m,s.toNat = 2 ^ (ky s + 1) * m + 2 ^ ky s /\ ky s < 32:=by
 have h0:s.toNat ≠ 0:=fun e=>h (b4y e);obtain ⟨m,h1,h2⟩:=Lib.ctzFrom_spec 32 s.toNat b5h s.isLt;have e:ky s = Lib.ctzFrom 32 s.toNat:=by unfold ky Lib.ctz;rw [if_neg h0]
 rw [e];refine ⟨m, ?_,h2⟩;rw [Nat.pow_succ];rw [h1] at *;simp only [Nat.mul_add,Nat.mul_assoc,Nat.mul_one] at *;exact h1
def a0u (h:s ≠ 0):ky s < 32 /\ s.getLsbD (ky s) = true /\ (∀ k,k < ky s -> s.getLsbD k = false) /\ s &&& (s - 1) = s &&& ~~~((1:AS) <<< ky s):=by
 obtain ⟨m,h1,h2⟩:=anu h;generalize ky s = t at *;have hp:2 ^ t < 2 ^ (t + 1):=Nat.pow_lt_pow_right b5h b5h
 have hb:∀ k,s.getLsbD k = if k < t + 1 then (2 ^ t).testBit k else m.testBit (k - (t + 1)):=fun k=>by
  show s.toNat.testBit k = _;rw [h1,Nat.testBit_two_pow_mul_add _ hp]
 have hq:0 < 2 ^ t:=Nat.two_pow_pos t
 have e1:(s - 1).toNat = 2 ^ (t + 1) * m + (2 ^ t - 1):=by
  have:=s.isLt;rw [BitVec.toNat_sub];show (2 ^ 32 - 1 + s.toNat) % 2 ^ 32 = _;omega
 have hd:∀ k,(s - 1).getLsbD k = if k < t + 1 then (2 ^ t - 1).testBit k else m.testBit (k - (t + 1)):=fun k=>by
  show (s - 1).toNat.testBit k = _;rw [e1,Nat.testBit_two_pow_mul_add _ b5h]
 refine ⟨h2, ?_,fun k hk=>?_, ?_⟩
 · rw [hb,if_pos b5h,Nat.testBit_two_pow_self]
 · rw [hb,if_pos b5h,Nat.testBit_two_pow]
   simp;omega
 apply b47;intro k hk;rw [b3y,b3y,BitVec.getLsbD_not,a0e _ _ hk,hd k,hb k];by_cases h3:k < t + 1
 · rw [if_pos h3,if_pos h3,Nat.testBit_two_pow,Nat.testBit_two_pow_sub_one]
   by_cases h4:k = t
   · subst h4;simp
   have:¬ t = k:=fun e=>h4 e.symm;simp [this]
 rw [if_neg h3,if_neg h3];have:¬ k = t:=by omega
 simp [hk,this]
def yp (h:s ≠ 0) (k:Nat) (hk:k < 32):(s &&& (s - 1)).getLsbD k = (decide (k ≠ ky s) && s.getLsbD k):=by
 rw [(a0u h).2.2.2,b3y,BitVec.getLsbD_not,a0e _ _ hk];by_cases e:k = ky s <;> simp [e,hk,Bool.and_comm]
def aks (h:s ≠ 0):bc s = ky s :: bc (s &&& (s - 1)):=by
 obtain ⟨h1,h2,h3,_⟩:=a0u h;unfold bc;rw [z1 List.pairwise_lt_range (b36.2 h1) h2 h3];congr 1;apply List.filter_congr;intro k hk;rw [yp h k (b36.1 hk)]
def ah7:bc 0 = []:=by
 unfold bc;rw [List.filter_eq_nil_iff];intro k _;simp
def am8 (h:s ≠ 0):(s &&& (s - 1)).toNat < s.toNat:=by
 refine aba (dt.2 fun i hi hb=>?_) fun e=>?_
 · rw [yp h i hi] at hb
   simp only [b2p] at hb;exact hb.2
 have:=yp h (ky s) (a0u h).1;rw [e,(a0u h).2.1] at this;simp at this
end
end
end Go.Hx

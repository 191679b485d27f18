/- A part of the proof: V11 Cs14 V12 Cs15 V13 Cs16 V14 Hx24 Cs17 V15 Cs18. -/
import Derived.Test.YtkkenjdfbojdlaaGreatDoorEx16
import Derived.Test.YtkkenjdfbojdlaaGreatDoorEx20
set_option linter.all false
section
namespace Go.Hx
open Go.Proofs
set_option maxRecDepth 100000
set_option maxHeartbeats 1000000
theorem b3b:goodFn Tryz.prog 229:=⟨Tryz.f229,Tryz.func229,by kernel_rfl,by kernel_rfl⟩
theorem b2f (l:List Fd) (hl:l.length ≤ 4096):dj Tryz.prog 229 [.one (.p (fdl l))] [] (.v (.one (.ref 900 (spl l).length))) [(900, .arr true 2 48 (spl l).length (lf Fd.c (spl l)))] []:=by
 refine fu (nt:=37) a7 Tryz.func229 rfl rfl l9 rfl ?_;refine d7 ?_
 refine dg 0 rfl fun hn=>?_
 refine w_6 ?_;refine dy 3 901 true 2 48 (lf Fd.c []) (by decide) rfl (CoP.sl rfl (.inr rfl) (fun h=>h) (fun i j hi _=>absurd hi (Nat.not_lt_zero i))) (.inr rfl) rfl ?_
 refine aj (ι:=Nat) ⟨[(8,some _),(9,some _)],[]⟩ ⟨⟨c9,c9,trivial⟩,trivial⟩ (fun i=>⟨[(3,some (.v (.one (.ref 901 (j7 (l.take i)).length)))),(10,some (vI i))],[(901,some (.arr true 2 48 (j7 (l.take i)).length (lf Fd.c (j7 (l.take i)))))]⟩) (fun i=>i ≤ l.length) (fun i=>l.length - i) (0) (Nat.zero_le _) ⟨⟨zy,zy,trivial⟩,⟨u9,trivial⟩⟩ ?_
 rintro i hi
 refine w_5 ?_;refine a6 _ rfl (fun r0=>?_) (fun r0=>?_)
 ·
  have h0:=of_decide_eq_true r0
  try simp only [ty] at h0
  refine w_7 ?_;refine m9 0 ?_;refine w_9 ?_;refine rc rfl rfl rfl rfl rfl rfl xk (a9y ((l.getD i default).rhs &&& ~~~(l.getD i default).lhs)) (⟨cci (jd _ _),trivial⟩) rfl rfl ?_;refine w_4 ?_
  refine aj (ι:=Nat) ⟨[(5,some _),(8,some _),(9,some _),(10,some _),(19,some _),(20,some _)],[(0,some _)]⟩ ⟨⟨c9,c9,c9,c9,c9,c9,trivial⟩,⟨u9,trivial⟩⟩ (fun k=>⟨[(3,some (.v (.one (.ref 901 (ku l i k).length)))),(21,some (vI k))],[(901,some (.arr true 2 48 (ku l i k).length (lf Fd.c (ku l i k))))]⟩) (fun k=>k ≤ (al ((l.getD i default).rhs &&& ~~~(l.getD i default).lhs)).length) (fun k=>(al ((l.getD i default).rhs &&& ~~~(l.getD i default).lhs)).length - k) (0) (Nat.zero_le _) ⟨⟨⟨_,rfl,(cz (a4d l i))⟩,zy,trivial⟩,⟨⟨_,rfl,(d4 (a4d l i))⟩,trivial⟩⟩ ?_
  rintro k hk
  have hml:=ko ((l.getD i default).rhs &&& ~~~(l.getD i default).lhs)
  have hsl:=ak2 (l:=l) (i:=i) (k:=k) (by omega)
  refine w_5 ?_;refine a6 _ rfl (fun r1=>?_) (fun r1=>?_)
  ·
   have h1:=of_decide_eq_true r1
   try simp only [ty] at h1
   refine w_9 ?_;refine bp (E:=bm) a7 ax [0,1,2,3,4,5,6,7,8] ?_;refine w_4 ?_;refine rq rfl rfl rfl rfl rfl ?_ (hp:=(Int.natCast_nonneg _));refine qy ?_;refine m9 1 ?_
   refine ra 2 true rfl rfl rfl rfl rfl rfl ?_;refine w_2 ?_;refine ⟨by kernel_rfl, ?_⟩;refine w_4 ?_;refine ⟨k + 1, ?_, ?_, ?_⟩
   · show k + 1 ≤ _;omega
   · first | omega | (dsimp only;omega)
   exact ⟨⟨⟨_,rfl,(d8 (a3y rfl (by omega)))⟩,zy,c9,c9,c9,c9,c9,c9,trivial⟩,⟨⟨_,rfl,(kf (a3y rfl (by omega)) (CoP.refl _) (CoP.of_eq (by exact congrArg (fun z=>PV.raw (.int .u32 z)) (b1j _))))⟩,u9,trivial⟩⟩
  have h1:=of_decide_eq_false r1
  try simp only [ty] at h1
  obtain rfl:k = (al ((l.getD i default).rhs &&& ~~~(l.getD i default).lhs)).length:=by omega
  refine w_5 ?_;refine ⟨i + 1, ?_, ?_, ?_⟩
  · show i + 1 ≤ _;omega
  · first | omega | (dsimp only;omega)
  exact ⟨⟨⟨_,rfl,(cz (a7b (by omega) rfl).symm)⟩,zy,c9,c9,trivial⟩,⟨⟨_,rfl,(d4 (a7b (by omega) rfl).symm)⟩,trivial⟩⟩
 have h0:=of_decide_eq_false r0
 try simp only [ty] at h0
 obtain rfl:i = l.length:=by omega
 refine w_2 ?_;refine bt 3 rfl rfl rfl ?_;refine w_2 ?_
 refine b5 rfl rfl rfl rfl rfl rfl ago (as2 (j7 l) (Nat.le_trans (yj l) (by omega))) (⟨CoP.of_eq (by rw [List.take_length];rfl),trivial⟩) trivial rfl rfl ?_;refine w_3 ?_;refine ⟨.inr rfl, ?_⟩
 exact ⟨_,_,rfl,(by (repeat' apply And.intro) <;> first | trivial | exact Nat.le_of_ble_eq_true rfl),CoR.refl _,⟨u9,trivial⟩⟩
theorem b3j:goodFn Tryz.prog 184:=⟨Tryz.f184,Tryz.func184,by kernel_rfl,by kernel_rfl⟩
theorem bc9 (l:List Fd) (hl:l.length ≤ 4096):ae Tryz.prog 184 [pP (fdl l)] (ai [pP (fdl (adc l))]):=by
 refine a8 (nt:=60) a7 Tryz.func184 rfl rfl l9 ?_;refine w_7 ?_;refine b5 rfl rfl rfl rfl rfl rfl b3b (b2f l hl) (cn.refl _) trivial rfl rfl ?_;refine w_4 ?_
 have hsl:=agp l
 refine w_6 ?_
 refine aj (ι:=Nat) ⟨[(3,some _),(11,some _)],[]⟩ ⟨⟨c9,c9,trivial⟩,trivial⟩ (fun i=>⟨[(12,some (vI i))],[(900,some (.arr true 2 48 (spl l).length (lf Fd.c (j8 (spl l) i))))]⟩) (fun i=>i ≤ (spl l).length) (fun i=>(spl l).length - i) (0) (Nat.zero_le _) ⟨⟨zy,trivial⟩,⟨u9,trivial⟩⟩ ?_
 rintro i hi
 have htl:=lv (l:=spl l) (i:=i)
 refine w_5 ?_;refine a6 _ rfl (fun r0=>?_) (fun r0=>?_)
 ·
  have h0:=of_decide_eq_true r0
  try simp only [ty] at h0
  refine o0 ?_;refine rc rfl rfl rfl rfl rfl rfl xk (a9y ((j8 (spl l) i).getD i default).lhs) (CoL.refl _) rfl rfl ?_;refine w_4 ?_
  refine aj (ι:=Nat) ⟨[(3,some _),(4,some _),(11,some _),(12,some _),(20,some _),(21,some _)],[]⟩ ⟨⟨c9,c9,c9,c9,c9,c9,trivial⟩,trivial⟩ (fun k=>⟨[(22,some (vI k))],[(900,some (.arr true 2 48 (spl l).length (lf Fd.c (n3 (j8 (spl l) i) i k))))]⟩) (fun k=>k ≤ (al ((j8 (spl l) i).getD i default).lhs).length) (fun k=>(al ((j8 (spl l) i).getD i default).lhs).length - k) (0) (Nat.zero_le _) ⟨⟨zy,trivial⟩,⟨⟨_,rfl,(gu (at8 _ _) rfl)⟩,trivial⟩⟩ ?_
  rintro k hk
  have hml:=ko ((j8 (spl l) i).getD i default).lhs
  refine w_5 ?_;refine a6 _ rfl (fun r1=>?_) (fun r1=>?_)
  ·
   have h1:=of_decide_eq_true r1
   try simp only [ty] at h1
   have hkl:(n3 (j8 (spl l) i) i k).length = (spl l).length:=by rw [af4,lv]
   have hhas:=avk (l:=(j8 (spl l) i)) (i:=i) (k:=k) (by rw [lv];omega) (by omega)
   refine akn ?_
   refine rc rfl rfl rfl rfl rfl rfl b5c (b61 (n3 (j8 (spl l) i) i k) ((n3 (j8 (spl l) i) i k).getD i default) ((al ((j8 (spl l) i).getD i default).lhs).getD k default)) (⟨CoC.one (ahl (by rw [af4,lv])),CoC.refl _,CoC.refl _,trivial⟩) rfl rfl ?_
   refine b8 ?_;refine a6 _ rfl (fun r2=>?_) (fun r2=>?_)
   ·
    have h2:=r2
    refine bp (E:=bm) a7 ax [0,1,2,3,4,5,6,7,8,9,10] ?_;refine w_6 ?_;refine rq rfl rfl rfl rfl rfl ?_ (hp:=(Int.natCast_nonneg _));refine w_5 ?_;refine ⟨by kernel_rfl, ?_⟩;refine w_4 ?_
    first | (refine ⟨k + 1, ?_, ?_, ?_⟩
             · show k + 1 ≤ _;omega
             · first | omega | (dsimp only;omega)
             exact ⟨⟨zy,c9,c9,c9,c9,c9,c9,trivial⟩,⟨⟨_,rfl,(ahh (i:=i) (a:=(al ((j8 (spl l) i).getD i default).lhs).getD k default) (l:=(n3 (j8 (spl l) i) i k)) (by rw [vj (by omega),ata hhas (by assumption)]) (a3c _ _) (by omega) (by omega) hkl.symm)⟩,trivial⟩⟩)
          | (refine ⟨k + 1, ?_, ?_, ?_⟩
             · show k + 1 ≤ _;omega
             · first | omega | (dsimp only;omega)
             exact ⟨⟨zy,c9,c9,c9,c9,c9,c9,trivial⟩,⟨⟨_,rfl,(gu (by rw [vj (by omega),ars (by assumption)]) rfl)⟩,trivial⟩⟩)
   have h2:=r2
   refine w_5 ?_
   first | (refine ⟨k + 1, ?_, ?_, ?_⟩
            · show k + 1 ≤ _;omega
            · first | omega | (dsimp only;omega)
            exact ⟨⟨zy,c9,c9,c9,c9,c9,c9,trivial⟩,⟨⟨_,rfl,(ahh (i:=i) (a:=(al ((j8 (spl l) i).getD i default).lhs).getD k default) (l:=(n3 (j8 (spl l) i) i k)) (by rw [vj (by omega),ata hhas (by assumption)]) (a3c _ _) (by omega) (by omega) hkl.symm)⟩,trivial⟩⟩)
         | (refine ⟨k + 1, ?_, ?_, ?_⟩
            · show k + 1 ≤ _;omega
            · first | omega | (dsimp only;omega)
            exact ⟨⟨zy,c9,c9,c9,c9,c9,c9,trivial⟩,⟨⟨_,rfl,(gu (by rw [vj (by omega),ars (by assumption)]) rfl)⟩,trivial⟩⟩)
  have h1:=of_decide_eq_false r1
  try simp only [ty] at h1
  obtain rfl:k = (al ((j8 (spl l) i).getD i default).lhs).length:=by omega
  refine w_5 ?_;refine ⟨i + 1, ?_, ?_, ?_⟩
  · show i + 1 ≤ _;omega
  · first | omega | (dsimp only;omega)
  exact ⟨⟨zy,c9,c9,trivial⟩,⟨⟨_,rfl,(gu (by rw [at4,aup rfl]) rfl)⟩,trivial⟩⟩
 have h0:=of_decide_eq_false r0
 try simp only [ty] at h0
 obtain rfl:i = (spl l).length:=by omega
 refine w_2 ?_;refine bt 3 rfl rfl rfl ?_;refine w_2 ?_
 refine rc rfl rfl rfl rfl rfl rfl ago (bab (j8 (spl l) (spl l).length) (by rw [lv];omega)) (⟨CoC.one (ahl (by rw [lv])),trivial⟩) rfl rfl ?_;refine w_4 ?_
 have hrl:=a7f l
 refine w_4 ?_
 refine aj (ι:=List Fd × Nat) ⟨[],[]⟩ ⟨trivial,trivial⟩ (fun x=>⟨[(3,some (be (fdl x.1))),(7,some (vI x.2))],[]⟩) (fun x=>ph (x.1.length - x.2) x.1 x.2 = adc l ∧ x.2 ≤ x.1.length ∧ x.1.length ≤ 131072) (fun x=>x.1.length - x.2) ((xe l,0)) (⟨rfl,Nat.zero_le _,by show (xe l).length ≤ _;omega⟩) ⟨⟨zy,⟨_,rfl,(coi rfl)⟩,trivial⟩,trivial⟩ ?_
 rintro x ⟨hx,hx2,hx3⟩
 refine w_8 ?_;refine a6 _ rfl (fun r3=>?_) (fun r3=>?_)
 ·
  have h3:=of_decide_eq_true r3
  try simp only [ty] at h3
  refine w_6 ?_;refine rc rfl rfl rfl rfl rfl rfl b2r (b6i x.1 x.2 (by omega) (by omega)) (CoL.refl _) rfl rfl ?_;refine b8 ?_;refine a6 _ rfl (fun r4=>?_) (fun r4=>?_)
  ·
   have h4:=r4
   have hq:=r4
   refine w_3 ?_;refine rc rfl rfl rfl rfl rfl rfl aio (ah3 x.1 x.2 (by omega) (by omega)) (CoL.refl _) rfl rfl ?_;refine w_2 ?_
   first | (refine ⟨(jh x.1 x.2, x.2), ?_, ?_, ?_⟩
            · have ho:=jt (l:=x.1) (i:=x.2) (by omega)
              exact ⟨by rw [← hx,air (by omega) hq],by dsimp only;omega,by dsimp only;omega⟩
            · have ho:=jt (l:=x.1) (i:=x.2) (by omega)
              dsimp only;omega
            exact ⟨⟨zy,⟨_,rfl,(coi (by first | rfl | (dsimp only;omega)))⟩,trivial⟩,trivial⟩)
         | (refine ⟨(x.1,x.2 + 1), ?_, ?_, ?_⟩
            · exact ⟨by rw [← hx,ah4 (by omega) hq],by dsimp only;omega,by dsimp only;omega⟩
            · first | omega | (dsimp only;omega)
            exact ⟨⟨zy,⟨_,rfl,(coi (by first | rfl | (dsimp only;omega)))⟩,trivial⟩,trivial⟩)
  have h4:=r4
  have hq:=r4
  refine w_5 ?_
  first | (refine ⟨(jh x.1 x.2, x.2), ?_, ?_, ?_⟩
           · have ho:=jt (l:=x.1) (i:=x.2) (by omega)
             exact ⟨by rw [← hx,air (by omega) hq],by dsimp only;omega,by dsimp only;omega⟩
           · have ho:=jt (l:=x.1) (i:=x.2) (by omega)
             dsimp only;omega
           exact ⟨⟨zy,⟨_,rfl,(coi (by first | rfl | (dsimp only;omega)))⟩,trivial⟩,trivial⟩)
        | (refine ⟨(x.1,x.2 + 1), ?_, ?_, ?_⟩
           · exact ⟨by rw [← hx,ah4 (by omega) hq],by dsimp only;omega,by dsimp only;omega⟩
           · first | omega | (dsimp only;omega)
           exact ⟨⟨zy,⟨_,rfl,(coi (by first | rfl | (dsimp only;omega)))⟩,trivial⟩,trivial⟩)
 have h3:=of_decide_eq_false r3
 try simp only [ty] at h3
 have hq:=h3
 refine w_6 ?_
 exact hx8 rfl rfl rfl (⟨CoC.one (CoP.of_eq (by rw [← hx,apn (by omega)])),trivial⟩)
end Go.Hx
end
section
namespace Go.Hx
def x7 (n:Int) (l:List Fd):List Fd:=if bg n l = 0 then adc l else []
theorem b80 {n:Int} {l:List Fd} (h:bg n l = 0):x7 n l = adc l:=if_pos h
theorem b7r {n:Int} {l:List Fd} (h:¬ bg n l = 0):x7 n l = []:=if_neg h
theorem bca {s:Nat} {cl:Bool} {f:Nat → Nat → PV} {L:List Fd} (h:L = []):CoP (.sl 0 s cl f) (fdl L):=by subst h;exact alp
theorem a0k {s:Nat} {cl:Bool} {f:Nat → Nat → PV} {L:List AS} (h:L = []):CoP (.sl 0 s cl f) (asl L):=by subst h;exact alp
def be6 (l:List Fd) (i k:Nat):List Fd:=(List.range k).foldl (pn i) l
end Go.Hx
end
section
namespace Go.Hx
open Go.Proofs
set_option maxRecDepth 100000
theorem b0h:goodFn Tryz.prog 134:=⟨Tryz.f134,Tryz.func134,by kernel_rfl,by kernel_rfl⟩
theorem b9v (n:Int) (l:List Fd):ae Tryz.prog 134 [pI n,pP (fdl l)] (ai [pP (fdl (x7 n l)),pI (bg n l)]):=by
 refine a8 (nt:=15) a7 Tryz.func134 rfl rfl l9 ?_;refine d7 ?_;refine rc rfl rfl rfl rfl rfl rfl qg (vh n l) (CoL.refl _) rfl rfl ?_;refine w_7 ?_;refine a6 _ rfl (fun r0=>?_) (fun r0=>?_)
 ·
  have h0:=r0
  have h0:=of_decide_eq_false (ap h0)
  try simp only [ty] at h0
  refine w_6 ?_
  exact hx8 rfl rfl rfl (⟨CoC.one (bca (b7r (by assumption))),CoC.refl _,trivial⟩)
 have h0:=r0
 have h0:=of_decide_eq_true (am h0)
 try simp only [ty] at h0
 refine w_4 ?_;refine rc rfl rfl rfl rfl rfl rfl b3j (bc9 l (by have:=(fq (by assumption)).2.2.1;omega)) (CoL.refl _) rfl rfl ?_;refine w_3 ?_
 exact hx8 rfl rfl rfl (⟨CoC.one (CoP.of_eq (by rw [b80 (by assumption)])),cci (by omega),trivial⟩)
end Go.Hx
end
section
namespace Go.Hx
theorem a6h (a b:Nat):a &&& b = 2 * (a / 2 &&& b / 2) + (a % 2 &&& b % 2):=by
 have h1:=Nat.div_add_mod (a &&& b) 2
 have h2:(a &&& b) % 2 = a % 2 &&& b % 2:=by
  have:=Nat.and_mod_two_pow (a:=a) (b:=b) (n:=1)
  simpa using this
 rw [Nat.and_div_two,h2] at h1
 exact h1.symm
theorem ais (a b:Nat):(a % 2 &&& b % 2) = if a % 2 = 1 ∧ b % 2 = 1 then 1 else 0:=by
 rcases Nat.mod_two_eq_zero_or_one a with h | h <;> rcases Nat.mod_two_eq_zero_or_one b with k | k <;> rw [h,k] <;> rfl
theorem aaq {x s:Nat} (h:x &&& s = x):(x / 2 &&& s / 2 = x / 2) ∧ (x % 2 = 1 → s % 2 = 1):=by
 have h1:=a6h x s
 rw [h,ais] at h1
 split at h1 <;> rename_i hc
 · exact ⟨by omega,fun _=>hc.2⟩
 exact ⟨by omega,fun hx=>by omega⟩
theorem aye:∀ (x s z:Nat),x &&& s = x → z &&& s = z → z < x → z ≤ ((x - 1) &&& s):=by
 intro x
 induction x using Nat.strongRecOn with
 | _ x ih =>
  intro s z hx hz hlt
  obtain ⟨x1,x2⟩:=aaq hx
  obtain ⟨z1,z2⟩:=aaq hz
  rw [a6h (x - 1) s,ais]
  rcases Nat.mod_two_eq_zero_or_one x with hb | hb
  · have e1:(x - 1) / 2 = x / 2 - 1:=by omega
    have e2:(x - 1) % 2 = 1:=by omega
    have:=ih (x / 2) (by omega) (s / 2) (z / 2) x1 z1 (by omega)
    rw [e1,e2]
    by_cases hs:s % 2 = 1
    · rw [if_pos ⟨rfl,hs⟩];omega
    rw [if_neg (fun h=>hs h.2)]
    have:z % 2 = 0:=by omega
    omega
  have e1:(x - 1) / 2 = x / 2:=by omega
  have e2:(x - 1) % 2 = 0:=by omega
  rw [e1,e2,x1,if_neg (by omega)]
  omega
theorem afm {z s:AS}:sub z s ↔ z.toNat &&& s.toNat = z.toNat:=by
 rw [← BitVec.toNat_and,BitVec.toNat_inj,cb]
 constructor
 · intro h
   apply BitVec.eq_of_getLsbD_eq
   intro k hk
   rw [BitVec.getLsbD_and]
   cases hz:z.getLsbD k with
   | false=>rfl
   | true=>rw [h k hk hz];rfl
 intro h i _ hi
 rw [← h,BitVec.getLsbD_and] at hi
 simp at hi
 exact hi.2
theorem b4b {z s:AS} (h:sub z s):bsz z ≤ bsz s:=by
 unfold bsz
 apply List.countP_mono_left
 intro i hi hb
 exact cb.1 h i (List.mem_range.1 hi) hb
def vr (s:AS):Nat → AS → List AS
 | 0,_=>[]
 | n + 1,x=>x :: if x = 0 then [] else vr s n ((x - 1) &&& s)
theorem yo {x:AS} (h:x ≠ 0):(x - 1).toNat = x.toNat - 1:=by
 have h0:x.toNat ≠ 0:=fun e=>h (BitVec.eq_of_toNat_eq e)
 have:=x.isLt
 rw [BitVec.toNat_sub]
 show (2 ^ 32 - 1 + x.toNat) % 2 ^ 32 = _
 omega
theorem yz {x s:AS}:sub ((x - 1) &&& s) s:=by
 rw [afm,BitVec.toNat_and,Nat.and_assoc,Nat.and_self]
theorem mc {x s:AS} (h:x ≠ 0):((x - 1) &&& s).toNat < x.toNat:=by
 have h0:x.toNat ≠ 0:=fun e=>h (BitVec.eq_of_toNat_eq e)
 rw [BitVec.toNat_and,yo h]
 have:((x.toNat - 1) &&& s.toNat) ≤ x.toNat - 1:=Nat.and_le_left
 omega
theorem a5o {x s z:AS} (hx:sub x s) (hz:sub z s) (h:z.toNat < x.toNat):z.toNat ≤ ((x - 1) &&& s).toNat:=by
 have h0:x ≠ 0:=fun e=>by subst e;exact absurd h (Nat.not_lt_zero _)
 rw [BitVec.toNat_and,yo h0]
 exact aye _ _ _ (afm.1 hx) (afm.1 hz) h
theorem ad3 {s:AS}:∀ (n:Nat) (x:AS),sub x s → x.toNat < n → ∀ z,z ∈ vr s n x ↔ sub z s ∧ z.toNat ≤ x.toNat
 | 0,x,_,h,z=>absurd h (Nat.not_lt_zero _)
 | n + 1,x,hx,h,z=>by
  unfold vr
  by_cases h0:x = 0
  · rw [if_pos h0,List.mem_singleton]
    subst h0
    constructor
    · rintro rfl;exact ⟨hx,Nat.le_refl _⟩
    rintro ⟨_,h⟩
    exact BitVec.eq_of_toNat_eq (Nat.le_antisymm h (Nat.zero_le _))
  rw [if_neg h0,List.mem_cons,ad3 n _ yz (by have:=mc (s:=s) h0;omega)]
  constructor
  · rintro (rfl | ⟨h1,h2⟩)
    · exact ⟨hx,Nat.le_refl _⟩
    have:=mc (s:=s) h0
    exact ⟨h1,by omega⟩
  rintro ⟨h1,h2⟩
  by_cases he:z = x
  · exact .inl he
  have hne:z.toNat ≠ x.toNat:=fun e=>he (BitVec.eq_of_toNat_eq e)
  exact .inr ⟨h1,a5o hx h1 (by omega)⟩
def vm (s:AS):List AS:=ord (vr s (s.toNat + 1) s)
theorem sub_self (s:AS):sub s s:=by rw [afm,Nat.and_self]
theorem abo {z s:AS} (h:sub z s):z.toNat ≤ s.toNat:=by rw [← afm.1 h];exact Nat.and_le_right
theorem vk {s z:AS}:z ∈ vm s ↔ sub z s:=by
 unfold vm
 rw [tz,ad3 _ _ (sub_self s) (Nat.lt_succ_self _)]
 exact ⟨fun h=>h.1,fun h=>⟨h,abo h⟩⟩
theorem ay2 {l:List AS} {s:AS} (ho:sv l) (h:∀ z,z ∈ l ↔ sub z s):l = vm s:=wt ho (z8 _) fun z=>by rw [h z];exact vk.symm
def bi (s:AS):List AS:=if 12 < bsz s then [] else vm s
theorem a2f {s:AS} (h:(12:Int) < bsz s):bi s = []:=if_pos (by omega)
theorem ahy {s:AS} (h:¬ (12:Int) < bsz s):bi s = vm s:=if_neg (by omega)
def a3g (s:AS) (y:List AS × AS):Prop:=sub y.2 s ∧ y.1.length + y.2.toNat ≤ s.toNat + 1 ∧ ∀ z,z ∈ y.1 ↔ sub z s ∧ y.2.toNat ≤ z.toNat
theorem ab0 (s:AS):a3g s ([s],s):=⟨sub_self s,by simp only [List.length_singleton];omega,fun z=>by
 rw [List.mem_singleton]
 constructor
 · rintro rfl;exact ⟨sub_self _,Nat.le_refl _⟩
 rintro ⟨h1,h2⟩;exact BitVec.eq_of_toNat_eq (Nat.le_antisymm (abo h1) h2)⟩
theorem aa7 {s:AS} {y:List AS × AS} (h:a3g s y) (h0:y.2 ≠ 0):a3g s (y.1 ++ [(y.2 - 1) &&& s],(y.2 - 1) &&& s):=by
 obtain ⟨h1,h2,h3⟩:=h
 have hl:=mc (s:=s) h0
 refine ⟨yz,by simp only [List.length_append,List.length_singleton];omega,fun z=>?_⟩
 rw [List.mem_append,List.mem_singleton,h3]
 constructor
 · rintro (⟨k1,k2⟩ | rfl)
   · exact ⟨k1,by dsimp only;omega⟩
   exact ⟨yz,Nat.le_refl _⟩
 rintro ⟨k1,k2⟩
 dsimp only at k2
 by_cases hz:y.2.toNat ≤ z.toNat
 · exact .inl ⟨k1,hz⟩
 have:=a5o h1 k1 (by omega)
 exact .inr (BitVec.eq_of_toNat_eq (by omega))
theorem abt {s:AS} {y:List AS × AS} (h:a3g s y) (h0:y.2 = 0):ord y.1 = vm s:=ay2 (z8 _) fun z=>by
 rw [tz,h.2.2,h0]
 exact ⟨fun h=>h.1,fun h=>⟨h,Nat.zero_le _⟩⟩
def nxt (x s:Nat):Nat:=if x = s then s + 1 else ((2 ^ 64 + x - s) &&& s)
def UpI (s:AS) (k:Nat) (y:List AS × Nat):Prop :=
 (y.2 = s.toNat + 1 ∨ y.2 &&& s.toNat = y.2) ∧ y.1.length ≤ k * 4294967296 + y.2 ∧ sv y.1 ∧ ∀ z,z ∈ y.1 ↔ sub z s ∧ (bsz z < k ∨ bsz z = k ∧ z.toNat < y.2)
def UpK (s:AS) (k:Nat) (l:List AS):Prop:=l.length ≤ k * 4294967296 ∧ sv l ∧ ∀ z,z ∈ l ↔ sub z s ∧ bsz z < k
abbrev pU (n:Nat):PC:=.one (.raw (.int .u64 (n:Int)))
abbrev vU (n:Nat):HR:=be (.raw (.int .u64 (n:Int)))
theorem ur {x s:AS} (h:x ≠ 0):bj .and .u32 (asI x - 1) (asI s) = asI ((x - 1) &&& s):=by rw [ad6 h,i6]
theorem yl {α:Type} [Inhabited α] {wr wr':Bool} {e:TypeId} {c:α → Nat → PV} {x:α} {f:Nat → Nat → PV} (h:CoP (f 0 0) (c x 0)) (hw:wr' = true → wr = true:=by exact fun h=>h):CoO (.arr wr 1 e 1 f) (.arr wr' 1 e [x].length (lf c [x])) :=
 ⟨hw,rfl,rfl,rfl,fun i j hi hj=>by
  have hi:i < 1:=hi
  have hj:j < 1:=hj
  obtain rfl:j = 0:=by omega
  obtain rfl:i = 0:=by omega
  exact h⟩
end Go.Hx
end
section
namespace Go.Hx
open Go.Proofs
set_option maxRecDepth 100000
theorem a2o:goodFn Tryz.prog 118:=⟨Tryz.f118,Tryz.func118,by kernel_rfl,by kernel_rfl⟩
theorem azw (s:AS):ae Tryz.prog 118 [pA s] (ai [pP (asl (bi s))]):=by
 refine a8 (nt:=23) a7 Tryz.func118 rfl rfl l9 ?_;refine w_8 ?_;refine rc rfl rfl rfl rfl rfl rfl tv (a3k s) (CoL.refl _) rfl rfl ?_;refine w_2 ?_;refine a6 _ rfl (fun r0=>?_) (fun r0=>?_)
 ·
  have h0:=of_decide_eq_true r0
  try simp only [ty] at h0
  refine w_4 ?_
  exact hx8 rfl rfl rfl (⟨CoC.one (a0k (a2f h0)),trivial⟩)
 have h0:=of_decide_eq_false r0
 try simp only [ty] at h0
 refine w_4 ?_;refine m9 0 ?_;refine w_9 ?_
 refine aj (ι:=List AS × AS) ⟨[(0,some _)],[]⟩ ⟨⟨c9,trivial⟩,trivial⟩ (fun y=>⟨[(3,some (.v (.one (.ref 0 y.1.length)))),(4,some (vA y.2))],[(0,some (.arr true 1 46 y.1.length (lf sC y.1)))]⟩) (fun y=>a3g s y) (fun y=>y.2.toNat) (([s],s)) (ab0 s) ⟨⟨zy,zy,trivial⟩,⟨⟨_,rfl,(yl (CoP.refl _))⟩,trivial⟩⟩ ?_
 rintro y hy
 have hlen:=hy.2.1
 have hsl:=s.isLt
 refine w_6 ?_;refine a6 _ rfl (fun r1=>?_) (fun r1=>?_)
 ·
  have h1:=r1
  have h1:=of_decide_eq_false (ap h1)
  try simp only [ty] at h1
  have hne:y.2 ≠ 0:=fun e=>h1 (by rw [e];rfl)
  refine w_5 ?_;refine rq rfl rfl rfl rfl rfl ?_ (hp:=(vf hne));refine w_7 ?_;refine m9 1 ?_;refine ra 2 true rfl rfl rfl rfl rfl rfl ?_;refine w_2 ?_;refine ⟨(y.1 ++ [(y.2 - 1) &&& s],(y.2 - 1) &&& s), ?_, ?_, ?_⟩
  · exact aa7 hy hne
  · exact mc hne
  exact ⟨⟨⟨_,rfl,(d8 rfl)⟩,⟨_,rfl,(dv (ur hne))⟩,c9,trivial⟩,⟨⟨_,rfl,(dt rfl (CoP.of_eq (by rw [ur hne];rfl)))⟩,trivial⟩⟩
 have h1:=r1
 have h1:=of_decide_eq_true (am h1)
 try simp only [ty] at h1
 have hz:y.2 = 0:=c6.1 h1
 refine w_2 ?_;refine bt 3 rfl rfl rfl ?_;refine w_2 ?_;refine rc rfl rfl rfl rfl rfl rfl uh (a28 y.1 (by omega)) (CoL.refl _) rfl rfl ?_;refine w_2 ?_
 exact hx8 rfl rfl rfl (⟨CoC.one (CoP.of_eq (by rw [ahy h0,abt hy hz])),trivial⟩)
end Go.Hx
end
section
namespace Go.Hx
def mt (l:List Fd) (p x:AS):Bool:=decide (clo l x &&& p ≠ x) && decide (clo l x &&& p ≠ p)
def a7o (l:List Fd) (p:AS):Option AS:=(bi p).find? (mt l p)
def aj8 (l:List Fd) (p x:AS):Fd:=⟨x,(clo l x &&& p) &&& ~~~x⟩
def jk (l:List Fd) (p:AS):Fd:=match a7o l p with
 | some x=>aj8 l p x
 | none=>⟨0,0⟩
def gr (l:List Fd) (p:AS):Bool:=(a7o l p).isSome
theorem amo {α:Type} [Inhabited α] {q:α → Bool} {l:List α} {i:Nat} (hi:i < l.length) (hI:∀ j,j < i → q (l.getD j default) = false) (h:q (l.getD i default) = true):l.find? q = some (l.getD i default):=by
 rw [List.find?_eq_some_iff_getElem]
 refine ⟨h,i,hi,by simp [List.getD,hi],fun j hj=>?_⟩
 have:=hI j hj
 rw [List.getD_eq_getElem?_getD,List.getElem?_eq_getElem (by omega),Option.getD_some] at this
 simp [this]
theorem ao6 {α:Type} [Inhabited α] {q:α → Bool} {l:List α} (hI:∀ j,j < l.length → q (l.getD j default) = false):l.find? q = none:=by
 rw [List.find?_eq_none]
 intro x hx
 obtain ⟨j,hj,rfl⟩:=List.getElem_of_mem hx
 have:=hI j hj
 rw [List.getD_eq_getElem?_getD,List.getElem?_eq_getElem hj,Option.getD_some] at this
 simp [this]
theorem an8 {l:List Fd} {p:AS} {i:Nat} (hi:i < (bi p).length) (hI:∀ j,j < i → mt l p ((bi p).getD j default) = false) (h:mt l p ((bi p).getD i default) = true):jk l p = aj8 l p ((bi p).getD i default) ∧ gr l p = true:=by
 have e:a7o l p = some ((bi p).getD i default):=amo hi hI h
 unfold jk gr
 rw [e]
 exact ⟨rfl,rfl⟩
theorem aof {l:List Fd} {p:AS} (hI:∀ j,j < (bi p).length → mt l p ((bi p).getD j default) = false):jk l p = ⟨0,0⟩ ∧ gr l p = false:=by
 have e:a7o l p = none:=ao6 hI
 unfold jk gr
 rw [e]
 exact ⟨rfl,rfl⟩
theorem am8 {l:List Fd} {p x:AS} (h:bj .and .u32 (asI (clo l x)) (asI p) = asI x):mt l p x = false:=by
 rw [i6,c6] at h
 unfold mt
 simp [h]
theorem ale {l:List Fd} {p x:AS} (h:bj .and .u32 (asI (clo l x)) (asI p) = asI p):mt l p x = false:=by
 rw [i6,c6] at h
 unfold mt
 simp [h]
theorem aps {l:List Fd} {p x:AS} (h:¬ bj .and .u32 (asI (clo l x)) (asI p) = asI x) (k:¬ bj .and .u32 (asI (clo l x)) (asI p) = asI p):mt l p x = true:=by
 rw [i6,c6] at h k
 unfold mt
 simp [h,k]
theorem b34 {l:List Fd} {p:AS} {i:Nat} {a b:PV} (hi:i < (bi p).length) (hI:∀ j,j < i → mt l p ((bi p).getD j default) = false) (h:mt l p ((bi p).getD i default) = true) (ha:a = asC ((bi p).getD i default)) (hb:b = .raw (.int .u32 (bj .andNot .u32 (bj .and .u32 (asI (clo l ((bi p).getD i default))) (asI p)) (asI ((bi p).getD i default))))):CoC (.agg [a,b]) (jk l p).pc :=
 CoC.of_eq (by rw [(an8 hi hI h).1,ha,hb,i6,jd];rfl)
theorem ax2 {l:List Fd} {p:AS} (hI:∀ j,j < (bi p).length → mt l p ((bi p).getD j default) = false):CoC (.agg [j3 (.int .u32 0),j3 (.int .u32 0)]) (jk l p).pc:=CoC.of_eq (by rw [(aof hI).1];rfl)
theorem a1c {s:AS}:∀ (n:Nat) (x:AS),(vr s n x).length ≤ x.toNat + 1
 | 0,x=>Nat.zero_le _
 | n + 1,x=>by
  unfold vr
  by_cases h0:x = 0
  · rw [if_pos h0];simp
  rw [if_neg h0,List.length_cons]
  have h1:=a1c (s:=s) n ((x - 1) &&& s)
  have h2:=mc (s:=s) h0
  omega
theorem w8 (s:AS):(bi s).length ≤ 4294967296:=by
 unfold bi vm
 have h1:=a1c (s:=s) (s.toNat + 1) s
 have h2:=mo (vr s (s.toNat + 1) s)
 have h3:=s.isLt
 split
 · simp
 omega
end Go.Hx
end
section
namespace Go.Hx
open Go.Proofs
set_option maxRecDepth 100000
theorem adb:goodFn Tryz.prog 78:=⟨Tryz.f78,Tryz.func78,by kernel_rfl,by kernel_rfl⟩
theorem aj0 (l:List Fd) (p:AS):ae Tryz.prog 78 [pP (fdl l),pA p] (ai [(jk l p).pc,pB (gr l p)]):=by
 refine a8 (nt:=36) a7 Tryz.func78 rfl rfl l9 ?_;refine sx7 ?_;refine m9 0 ?_;refine w_6 ?_;refine rc rfl rfl rfl rfl rfl rfl a2o (azw p) (CoL.refl _) rfl rfl ?_;refine w_4 ?_
 refine aj (ι:=Nat) ⟨[(0,some _),(1,some _),(4,some _),(10,some _),(11,some _)],[(0,some _)]⟩ ⟨⟨c9,c9,c9,c9,c9,trivial⟩,⟨u9,trivial⟩⟩ (fun i=>⟨[(12,some (vI i))],[]⟩) (fun i=>i ≤ (bi p).length ∧ (∀ j,j < i → mt l p ((bi p).getD j default) = false)) (fun i=>(bi p).length - i) (0) (⟨Nat.zero_le _,ck⟩) ⟨⟨zy,trivial⟩,trivial⟩ ?_
 rintro i ⟨hi,hI⟩
 have hlen:=w8 p
 refine w_5 ?_;refine a6 _ rfl (fun r0=>?_) (fun r0=>?_)
 ·
  have h0:=of_decide_eq_true r0
  try simp only [ty] at h0
  refine ld ?_;refine rc rfl rfl rfl rfl rfl rfl od (sc l ((bi p).getD i default)) (CoL.refl _) rfl rfl ?_;refine d7 ?_;refine bc rfl rfl (fun r1=>?_) (fun r1=>?_)
  ·
   have h1:=r1
   have h1:=of_decide_eq_false (ap h1)
   try simp only [ty] at h1
   (iterate 3 refine qy ?_ (hg:=(gtt r1)));refine w_2 ?_;refine a6 _ rfl (fun r2=>?_) (fun r2=>?_)
   ·
    have h2:=r2
    have h2:=dc r1 h2
    have h2:=of_decide_eq_false (ap h2)
    try simp only [ty] at h2
    refine d7 ?_
    exact hx8 rfl rfl rfl (⟨b34 (i:=i) (by omega) hI (aps h1 h2) rfl rfl,ccb (an8 (i:=i) (by omega) hI (aps h1 h2)).2.symm,trivial⟩)
   have h2:=r2
   have h2:=dc r1 h2
   have h2:=of_decide_eq_true (am h2)
   try simp only [ty] at h2
   refine w_5 ?_;refine ⟨i + 1, ?_, ?_, ?_⟩
   · exact ⟨by show i + 1 ≤ _;omega,br hI (by first | exact am8 h1 | exact ale h2)⟩
   · first | omega | (dsimp only;omega)
   exact ⟨⟨zy,c9,c9,c9,c9,c9,trivial⟩,⟨u9,trivial⟩⟩
  have h1:=r1
  have h1:=of_decide_eq_true (am h1)
  try simp only [ty] at h1
  (iterate 3 refine k9 (gft r1) ?_);refine rq rfl rfl rfl rfl rfl ?_ (hp:=r1);refine b8 ?_;refine a6 _ rfl (fun e=>by cases e) (fun _=>?_);refine w_5 ?_;refine ⟨i + 1, ?_, ?_, ?_⟩
  · exact ⟨by show i + 1 ≤ _;omega,br hI (by first | exact am8 h1 | exact ale h2)⟩
  · first | omega | (dsimp only;omega)
  exact ⟨⟨zy,c9,c9,c9,c9,c9,trivial⟩,⟨u9,trivial⟩⟩
 have h0:=of_decide_eq_false r0
 try simp only [ty] at h0
 refine w_7 ?_
 exact hx8 rfl rfl rfl (⟨ax2 (fun j hj=>hI j (by omega)),ccb (aof (fun j hj=>hI j (by omega))).2.symm,trivial⟩)
end Go.Hx
end
section
namespace Go.Hx
open Go.RowKit
section
variable {w0:World} {nt:Nat} {c:Ctx} {s:S} {a:Act} {w:World}
theorem ak.short (h:ak w0 nt c s a w) {id id' sz n m:Nat} {el:TypeId} {f:Nat → Nat → PV} (ho:s.o id = some (.arr true sz el n f)) (hm:m ≤ n) (hnm:NM s id') (hno:s.o id' = none) {u:Value} (hu:b7 c s.o (.win id n 0 m) u) :
 ∃ c',c'.old = c.old ∧ ak w0 nt c' ((s.setO id none).setO id' (some (.arr true sz el m f))) a w ∧ aq c' ((s.setO id none).setO id' (some (.arr true sz el m f))).o (.v (.one (.ref id' m))) u:=by
 have hne:id ≠ id':=fun e=>by rw [← e,ho] at hno;cases hno
 obtain ⟨ad,ad',cap,q1,q2,q3,q4,q5,q6⟩:=tx hu ho rfl
 obtain ⟨h0,h1,h5⟩:=h.objs id _ ho
 have hold:∀ k ob,((s.setO id none).setO id' (some (.arr true sz el m f))).o k = some ob → k ≠ id' → s.o k = some ob ∧ k ≠ id:=fun k ob hk hk'=>by
  simp only [S.setO,if_neg hk'] at hk
  by_cases hki:k = id
  · subst hki;simp at hk
  rw [if_neg hki] at hk;exact ⟨hk,hki⟩
 obtain ⟨bk,hbk,hok⟩:∃ bk:Nat → Prop,(∀ b,bk b → c.blk id b) ∧ ∀ c':Ctx,c'.imm = c.imm → c'.own id' = u → c'.blk id' = bk → ∀ o':av,dm 0 c' o' w id' (.arr true sz el m f):=by
  rcases h5 with ⟨h6,xs,h2,h4⟩ | ⟨h6 | h6,h7,h8⟩
  · obtain ⟨hxl,hrow⟩:=h2
    rcases hrow with ⟨hv0,hz⟩ | ⟨g,cap',cur,hown,hbase,hheap,hnc,hcm,hcs,htake⟩
    · rw [hv0] at q1
      simp only [Value.slice.injEq] at q1
      obtain ⟨rfl,_,rfl⟩:=q1
      obtain rfl:n = 0:=by omega
      obtain rfl:m = 0:=by omega
      refine ⟨noB,fun b hb=>hb.elim,fun c' e1 e2 e3 o'=>⟨h0,Nat.zero_le _, .inr ⟨.inr rfl,e3, ?_⟩⟩⟩
      rw [e2,q2]
      exact ⟨ad',0,rfl,Nat.le_refl _,Nat.zero_le _,fun _=>rfl,fun h=>absurd h (Nat.lt_irrefl 0)⟩
    rw [hown] at q1
    simp only [Value.slice.injEq,true_and] at q1
    obtain ⟨rfl,rfl⟩:=q1
    by_cases hcap:cap' = 0
    · subst hcap
      obtain rfl:m = 0:=by omega
      refine ⟨noB,fun b hb=>hb.elim,fun c' e1 e2 e3 o'=>⟨h0,Nat.zero_le _, .inr ⟨.inr rfl,e3, ?_⟩⟩⟩
      rw [e2,q2]
      exact ⟨ad',0,rfl,Nat.le_refl _,Nat.zero_le _,fun _=>rfl,fun h=>absurd h (Nat.lt_irrefl 0)⟩
    obtain rfl:=q6 (by omega)
    simp only [Option.map_some,cr,Nat.zero_mul,Nat.add_zero,Nat.sub_zero] at q2
    have hmul:m * sz ≤ n * sz:=Nat.mul_le_mul_right _ hm
    refine ⟨gv u,fun b hb=>by rw [h6,hown];rw [q2] at hb;exact hb,fun c' e1 e2 e3 o'=>⟨h0,Nat.le_trans hm h1, .inl ⟨by rw [e2,e3],xs.take (m * sz),⟨by rw [List.length_take,hxl,Nat.min_eq_left hmul], .inr ⟨g,cap',cur,by rw [e2,q2],hbase,hheap,by omega,hcm,hcs, ?_⟩⟩,fun i j hi hj=>?_⟩⟩⟩
    · rw [← htake,List.take_take,Nat.min_eq_left hmul]
    obtain ⟨x,hx,hr⟩:=h4 i j (by omega) hj
    refine ⟨x, ?_,by rw [e1];exact hr⟩
    rw [List.getElem?_take,if_pos (y7 hi hj)]
    exact hx
  · cases h6
  subst h6
  obtain rfl:m = 0:=by omega
  refine ⟨noB,fun b hb=>hb.elim,fun c' e1 e2 e3 o'=>⟨h0,Nat.zero_le _, .inr ⟨.inr rfl,e3, ?_⟩⟩⟩
  obtain ⟨ad2,cap2,r1,r2,r3,r4,_⟩:=h8
  rw [q1] at r1
  simp only [Value.slice.injEq,true_and] at r1
  obtain ⟨rfl,rfl⟩:=r1
  obtain rfl:cap = 0:=r4 rfl
  rw [e2,q2]
  exact ⟨ad',0,rfl,Nat.le_refl _,Nat.zero_le _,fun _=>rfl,fun h=>absurd h (Nat.lt_irrefl 0)⟩
 have hevo:∀ k,k ≠ id' → Evo c s.o { c with own:=fun k=>if k = id' then u else c.own k,blk:=fun k=>if k = id' then bk else c.blk k } ((s.setO id none).setO id' (some (.arr true sz el m f))).o k:=fun k hk=>by
  by_cases hki:k = id
  · subst hki
    exact .inl (by simp [S.setO,hk])
  exact Evo.of_same (by simp [S.setO,hk,hki]) (by simp [hk])
 refine ⟨{ c with own:=fun k=>if k = id' then u else c.own k,blk:=fun k=>if k = id' then bk else c.blk k },rfl,⟨h.defers,h.size,h.below,fun d x hx=>?_,fun k ob hk=>?_,fun i i' obi obi' b hi hi' hb hb'=>?_,h.imm,fun k ob b hk hb=>?_,h.was,h.frm,fun k ob b hk hb=>?_,fun k hk=>?_⟩, ?_⟩
 · exact (h.tmps d x hx).evo (Imm.le.refl c.imm) fun k hkm=>hevo k (by rintro rfl;exact hnm.1 d x hx hkm)
 · by_cases hk':k = id'
   · subst hk'
     obtain rfl:ob = .arr true sz el m f:=by simpa [S.setO] using hk.symm
     refine hok _ ?_ ?_ ?_ _ <;> first | rfl | exact if_pos rfl
   obtain ⟨hk1,hk2⟩:=hold k ob hk hk'
   exact (h.objs k ob hk1).keep (Imm.le.refl c.imm) (by simp [hk']) (by simp [hk']) (fun j hj=>hevo j (by rintro rfl;exact hnm.2.1 k ob hk1 hj)) fun b _=>rfl
 · have hone:∀ k ob b,k ≠ id' → ((s.setO id none).setO id' (some (.arr true sz el m f))).o k = some ob → c.blk k b → bk b → False:=fun k ob b hk' hk hb hbb=>by
    obtain ⟨hk1,hk2⟩:=hold k ob hk hk'
    exact hk2 (h.inj k id ob _ b hk1 ho hb (hbk b hbb))
   by_cases e1:i = id'
   · by_cases e2:i' = id'
     · rw [e1,e2]
     exact (hone i' obi' b e2 hi' (by simpa [e2] using hb') (by simpa [e1] using hb)).elim
   by_cases e2:i' = id'
   · exact (hone i obi b e1 hi (by simpa [e1] using hb) (by simpa [e2] using hb')).elim
   exact h.inj i i' obi obi' b (hold i obi hi e1).1 (hold i' obi' hi' e2).1 (by simpa [e1] using hb) (by simpa [e2] using hb')
 · by_cases hk':k = id'
   · exact h.sep id _ b ho (hbk b (by simpa [hk'] using hb))
   exact h.sep k ob b (hold k ob hk hk').1 (by simpa [hk'] using hb)
 · by_cases hk':k = id'
   · exact h.fsep id _ b ho (hbk b (by simpa [hk'] using hb))
   exact h.fsep k ob b (hold k ob hk hk').1 (by simpa [hk'] using hb)
 · exact (h.fixed k hk).trans (hevo k (by have:=hnm.2.2;omega))
 refine ⟨hu.1,fun l=>by simp [S.setO],fun ob2 s2 e2 n2 ho2 hd2=>?_⟩
 simp only [S.setO,if_true,Option.some.injEq] at ho2
 subst ho2
 simp only [af.dim,Option.some.injEq,Prod.mk.injEq] at hd2
 obtain ⟨rfl,rfl,rfl⟩:=hd2
 exact ⟨Nat.le_refl _,fun _=>by simp⟩
end
section
variable {ro:Option Nat} {P:Program} {nt:Nat} {st:HSt} {Q:Exit → HSt → Prop}
theorem aei {c:Code} (d id2:Nat) {id n n' i m s:Nat} {e:TypeId} {f:Nat → Nat → PV} (hd:bf st.t d = some (.v (.one (.win id n i m)))) (ho:bf st.o id = some (.arr true s e n' f)) (hn:n' = n) (hi:i = 0) (hm:m ≤ n) (hnew:qq id2 st = true)
 (h:HW (ro:=ro) P nt c ⟨(d,some (.v (.one (.ref id2 m)))) :: st.t,(id2,some (.arr true s e m f)) :: (id,none) :: st.o⟩ Q):HW (ro:=ro) P nt c st Q:=by
 subst hn hi
 obtain ⟨hnm,hno⟩:=kd hnew
 refine vc ⟨st.t,(id2,some (.arr true s e m f)) :: (id,none) :: st.o⟩ d (.v (.one (.ref id2 m))) (fun w0 m0 a w hr=>?_) h
 obtain ⟨cc,hold,hrr⟩:=hr
 obtain ⟨c',e1,e2,e3⟩:=hrr.short ho hm hnm hno (hrr.tmps d _ hd)
 have e4:(HSt.den ⟨st.t,(id2,some (.arr true s e m f)) :: (id,none) :: st.o⟩) = (st.den.setO id none).setO id2 (some (.arr true s e m f)):=by
  unfold HSt.den S.setO
  simp [bo]
 exact ⟨c',e1.trans hold,by rw [e4];exact e2,by rw [e4];exact e3⟩
theorem sd {c:Code} (d id2:Nat) {id n n' s:Nat} {e:TypeId} {f:Nat → Nat → PV} (hd:bf st.t d = some (.v (.one (.ref id n)))) (ho:bf st.o id = some (.arr true s e n' f)) (hn:n' = n) (hnew:qq id2 st = true)
 (h:HW (ro:=ro) P nt c ⟨(d,some (.v (.one (.ref id2 n)))) :: st.t,(id2,some (.arr true s e n f)) :: (id,none) :: st.o⟩ Q):HW (ro:=ro) P nt c st Q:=by
 subst hn
 obtain ⟨hnm,hno⟩:=kd hnew
 refine vc ⟨st.t,(id2,some (.arr true s e n' f)) :: (id,none) :: st.o⟩ d (.v (.one (.ref id2 n'))) (fun w0 m0 a w hr=>?_) h
 obtain ⟨cc,hold,hrr⟩:=hr
 have hu:b7 cc st.den.o (.ref id n') (a.tmps.getD d undef):=hrr.tmps d _ hd
 have hw:b7 cc st.den.o (.win id n' 0 n') (a.tmps.getD d undef):=by
  refine ⟨hu.1,hu.2.1,fun ob s2 e2 n2 ho2 hd2=>⟨(hu.2.2 _ _ _ _ ho2 hd2).1,fun hk=>?_⟩⟩
  have he:=(hu.2.2 _ _ _ _ ho2 hd2).2 hk
  obtain rfl:ob = .arr true s e n' f:=Option.some.inj (ho2.symm.trans ho)
  simp only [af.dim,Option.some.injEq,Prod.mk.injEq] at hd2
  obtain ⟨rfl,rfl,rfl⟩:=hd2
  obtain ⟨ad,cap,hv,hc1,hc2⟩:=uf (hrr.objs _ _ ho2)
  exact ⟨ad,ad,cap,hv,by rw [he,hv];rfl,by omega,hc1,hc2,fun _=>by cases ad <;> simp [kz]⟩
 obtain ⟨c',e1,e2,e3⟩:=hrr.short ho (Nat.le_refl _) hnm hno hw
 have e4:(HSt.den ⟨st.t,(id2,some (.arr true s e n' f)) :: (id,none) :: st.o⟩) = (st.den.setO id none).setO id2 (some (.arr true s e n' f)):=by
  unfold HSt.den S.setO
  simp [bo]
 exact ⟨c',e1.trans hold,by rw [e4];exact e2,by rw [e4];exact e3⟩
end
end Go.Hx
end
section
namespace Go.Hx
theorem ael {l:List AS} {k:Nat} (hk:l.length ≤ k) (h:∀ j,0 < j → j < k → ¬ l.getD j default = l.getD (j - 1) default):gw l = l:=by
 have:=qt (Nat.le_refl l.length) fun j h1 h2=>h j h1 (by omega)
 rw [List.take_length] at this
 exact this
theorem aau {l m:List AS} {k p q:Nat} (hC:CpI l k p q m) (hq:¬ q < l.length):(gw l).length = p ∧ m.take p = gw l:=by
 have e:=hC.pre
 have h1:=hC.ql
 have h2:=hC.len
 have h3:=hC.pq
 rw [show q = l.length by omega,List.take_length] at e
 exact ⟨by rw [← e];simp;omega,e⟩
theorem b0p {l m:List AS} {k p q n a d:Nat} {z:List Value} {e:TypeId} (hC:CpI l k p q m) (hq:¬ q < l.length) (ha:p ≤ a) (hn:n = p):CoO (.arr true 1 e n (li (lf sC m) a d z)) (.arr true 1 e (gw l).length (lf sC (gw l))):=by
 obtain ⟨h1,h2⟩:=aau hC hq
 subst hn
 refine ⟨fun h=>h,rfl,rfl,h1,fun i j hi hj=>CoP.of_eq ?_⟩
 show li (lf sC m) a d z i j = lf sC (gw l) i j
 unfold li
 rw [if_neg (by omega)]
 simp only [lf,List.getD]
 have e:(gw l)[i]? = m[i]?:=by rw [← h2,List.getElem?_take,if_pos hi]
 rw [e]
theorem jm {id n m:Nat} (h:n = m):CoR (.v (.one (.ref id n))) (.v (.one (.ref id m))):=by rw [h];exact CoR.refl _
end Go.Hx
end
section
namespace Go.Hx
open Go.Proofs
set_option maxRecDepth 100000
theorem alm (l:List AS):dj Tryz.prog 216 [.one (.ref 900 l.length)] [(900, .arr true 1 46 l.length (lf sC l))] (.v (.one (.ref 901 (gw l).length))) [(901, .arr true 1 46 (gw l).length (lf sC (gw l)))] []:=by
 refine fu (nt:=61) a7 Tryz.func216 rfl rfl l9 rfl ?_;refine ct ?_
 refine a6x 900 rfl fun hlen=>?_
 refine d7 ?_;refine a6 _ rfl (fun r0=>?_) (fun r0=>?_)
 ·
  have h0:=of_decide_eq_true r0
  try simp only [ty] at h0
  refine w_5 ?_;refine sd 2 901 rfl rfl rfl rfl ?_;refine gn ?_;refine ⟨.inr rfl, ?_⟩
  have he:=ael (l:=l) (k:=l.length) (Nat.le_refl _) (fun j h1 h2=>by omega)
  exact ⟨_,_,rfl,(by (repeat' apply And.intro) <;> first | trivial | exact Nat.le_of_ble_eq_true rfl),jm (by rw [he]),⟨⟨_,rfl,gu he (by rw [he])⟩,trivial⟩⟩
 have h0:=of_decide_eq_false r0
 try simp only [ty] at h0
 refine w_7 ?_
 refine aj (ι:=Nat) ⟨[(0,some _)],[(900,some _)]⟩ ⟨⟨c9,trivial⟩,⟨u9,trivial⟩⟩ (fun k=>⟨[(3,some (vI k))],[]⟩) (fun k=>1 ≤ k ∧ k ≤ l.length ∧ ∀ j,0 < j → j < k → ¬ l.getD j default = l.getD (j - 1) default) (fun k=>l.length - k) (1) (⟨Nat.le_refl _,by omega,fun j h1 h2=>by omega⟩) ⟨⟨zy,trivial⟩,trivial⟩ ?_
 rintro k ⟨hk1,hk,hI⟩
 refine w_8 ?_;refine a6 _ rfl (fun r1=>?_) (fun r1=>?_)
 ·
  have h1:=of_decide_eq_true r1
  try simp only [ty] at h1
  refine w_4 ?_;refine bp (E:=bm) a7 ax [0,1,2,3,4,5,6,7,8,9] ?_;refine ez ?_;refine ⟨by kernel_rfl, ?_⟩;refine a6 _ rfl (fun r2=>?_) (fun r2=>?_)
  ·
   have h2:=of_decide_eq_true r2
   try simp only [ty] at h2
   refine ld ?_
   refine aj (ι:=Nat × Nat × List AS) ⟨[(0,some _),(4,some _)],[]⟩ ⟨⟨c9,c9,trivial⟩,trivial⟩ (fun x=>⟨[(3,some (vI x.1)),(5,some (vI ((x.2.1:Int) - k)))],[(900,some (.arr true 1 46 l.length (lf sC x.2.2)))]⟩) (fun x=>CpI l k x.1 x.2.1 x.2.2) (fun x=>l.length - x.2.1) ((k,k + 1,l)) (CpI.start hk1 (by omega) hI (tw (by assumption) rfl (by omega))) ⟨⟨zy,⟨_,rfl,(coi (by first | rfl | (dsimp only;omega)))⟩,trivial⟩,⟨u9,trivial⟩⟩ ?_
   rintro ⟨p,q,m⟩ hC
   have hC0:=hC
   obtain ⟨hml,hkq,hpq,hql,_,_⟩:=hC0
   dsimp only at hC hml hkq hpq hql
   refine w_8 ?_;refine a6 _ rfl (fun r3=>?_) (fun r3=>?_)
   ·
    have h3:=of_decide_eq_true r3
    try simp only [ty] at h3
    simp only [dq,b4,Int.toNat_natCast] at h3
    refine w_4 ?_;refine bp (E:=bm) a7 ax [0,1,2,3,4,5,6,7,8,9] ?_;refine ez ?_;refine ⟨by kernel_rfl, ?_⟩;refine a6 _ rfl (fun r4=>?_) (fun r4=>?_)
    ·
     have h4:=r4
     have h4:=of_decide_eq_false (ap h4)
     try simp only [ty] at h4
     refine akf ?_
     first | (refine ⟨(p + 1, q + 1, m.set p (m.getD q default)), ?_, ?_, ?_⟩
              · exact hC.keep (by omega) (u7 (by assumption) (by simp only [b4];omega) (by simp only [b4];omega))
              · first | omega | (dsimp only;omega)
              exact ⟨⟨⟨_,rfl,(coi (by first | rfl | (dsimp only;omega)))⟩,⟨_,rfl,(coi (by first | rfl | (dsimp only;omega)))⟩,c9,c9,trivial⟩,⟨⟨_,rfl,(oo id hml.symm (by omega) (by dsimp only;omega) (by simp only [b4];omega))⟩,trivial⟩⟩)
           | (refine ⟨(p,q + 1,m), ?_, ?_, ?_⟩
              · exact hC.skip (by omega) (tw (by assumption) (by simp only [b4];omega) (by simp only [b4];omega))
              · first | omega | (dsimp only;omega)
              exact ⟨⟨⟨_,rfl,(coi (by first | rfl | (dsimp only;omega)))⟩,⟨_,rfl,(coi (by first | rfl | (dsimp only;omega)))⟩,c9,c9,trivial⟩,⟨u9,trivial⟩⟩)
    have h4:=r4
    have h4:=of_decide_eq_true (am h4)
    try simp only [ty] at h4
    refine w_6 ?_
    first | (refine ⟨(p + 1, q + 1, m.set p (m.getD q default)), ?_, ?_, ?_⟩
             · exact hC.keep (by omega) (u7 (by assumption) (by simp only [b4];omega) (by simp only [b4];omega))
             · first | omega | (dsimp only;omega)
             exact ⟨⟨⟨_,rfl,(coi (by first | rfl | (dsimp only;omega)))⟩,⟨_,rfl,(coi (by first | rfl | (dsimp only;omega)))⟩,c9,c9,trivial⟩,⟨⟨_,rfl,(oo id hml.symm (by omega) (by dsimp only;omega) (by simp only [b4];omega))⟩,trivial⟩⟩)
          | (refine ⟨(p,q + 1,m), ?_, ?_, ?_⟩
             · exact hC.skip (by omega) (tw (by assumption) (by simp only [b4];omega) (by simp only [b4];omega))
             · first | omega | (dsimp only;omega)
             exact ⟨⟨⟨_,rfl,(coi (by first | rfl | (dsimp only;omega)))⟩,⟨_,rfl,(coi (by first | rfl | (dsimp only;omega)))⟩,c9,c9,trivial⟩,⟨u9,trivial⟩⟩)
   have h3:=of_decide_eq_false r3
   try simp only [ty] at h3
   simp only [dq,b4,Int.toNat_natCast] at h3
   refine w_6 ?_;refine ra 0 true rfl rfl rfl rfl rfl rfl ?_;refine w_8 ?_;refine aei 2 901 rfl rfl rfl rfl (by simp only [dq,b4,Int.toNat_natCast];omega) rfl ?_;refine gn ?_;refine ⟨.inr rfl, ?_⟩
   have he:=(aau hC (by omega)).1
   exact ⟨_,_,rfl,(by (repeat' apply And.intro) <;> first | trivial | exact Nat.le_of_ble_eq_true rfl),jm (by rw [he];simp [dq,b4]),⟨⟨_,rfl,b0p hC (by omega) (by simp [b4]) (by simp [dq,b4])⟩,trivial⟩⟩
  have h2:=of_decide_eq_false r2
  try simp only [ty] at h2
  refine w_6 ?_;refine ⟨k + 1, ?_, ?_, ?_⟩
  · refine ⟨by omega,by show k + 1 ≤ _;omega,fun j h1 h2=>?_⟩
    rcases Nat.lt_or_eq_of_le (Nat.le_of_lt_succ h2) with h | h
    · exact hI j h1 h
    subst h
    exact u7 (by assumption) rfl (by omega)
  · first | omega | (dsimp only;omega)
  exact ⟨⟨zy,c9,trivial⟩,⟨u9,trivial⟩⟩
 have h1:=of_decide_eq_false r1
 try simp only [ty] at h1
 refine w_6 ?_;refine sd 2 901 rfl rfl rfl rfl ?_;refine gn ?_;refine ⟨.inr rfl, ?_⟩
 have he:=ael (l:=l) (k:=k) (by omega) hI
 exact ⟨_,_,rfl,(by (repeat' apply And.intro) <;> first | trivial | exact Nat.le_of_ble_eq_true rfl),jm (by rw [he]),⟨⟨_,rfl,gu he (by rw [he])⟩,trivial⟩⟩
theorem b4m (l:List AS) (hl:l.length ≤ 8589934592):dj Tryz.prog 169 [.one (.p (asl l))] [] (.v (.one (.ref 901 (ord l).length))) [(901, .arr true 1 46 (ord l).length (lf sC (ord l)))] []:=by
 refine fu (nt:=10) a7 Tryz.func169 rfl rfl l9 rfl ?_;refine w_7 ?_;refine b5 rfl rfl rfl rfl rfl rfl a0q (xc l.length false (lf sC l) (by omega)) (cn.refl _) trivial rfl rfl ?_;refine w_5 ?_
 refine b5 rfl rfl rfl rfl rfl rfl agv (azc 0 _ l hl) (cn.refl _) ⟨u9,trivial⟩ rfl rfl ?_;refine w_4 ?_
 refine b5 rfl rfl rfl rfl rfl rfl ahf ((alm (srt l)).swap 900 0) (⟨congrArg (HV.ref 0) (a3h l).symm,trivial⟩) ⟨⟨_,rfl,gu rfl (a3h l).symm⟩,trivial⟩ rfl rfl ?_;refine w_3 ?_;refine ⟨.inr rfl, ?_⟩
 exact ⟨_,_,rfl,(by (repeat' apply And.intro) <;> first | trivial | exact Nat.le_of_ble_eq_true rfl),jm (by rw [yx]),⟨⟨_,rfl,gu (yx _).symm (by rw [yx])⟩,trivial⟩⟩
theorem amt (s:AS):dj Tryz.prog 118 [.one (.p (asC s))] [] (.v (.one (.ref 901 (bi s).length))) [(901, .arr true 1 46 (bi s).length (lf sC (bi s)))] []:=by
 refine fu (nt:=23) a7 Tryz.func118 rfl rfl l9 rfl ?_;refine w_8 ?_;refine rc rfl rfl rfl rfl rfl rfl tv (a3k s) (CoL.refl _) rfl rfl ?_;refine w_2 ?_;refine a6 _ rfl (fun r0=>?_) (fun r0=>?_)
 ·
  have h0:=of_decide_eq_true r0
  try simp only [ty] at h0
  refine w_4 ?_;refine dy 2 901 true 1 46 (lf sC []) (by decide) rfl (CoP.sl rfl (.inr rfl) (fun h=>h) (fun i j hi _=>absurd hi (Nat.not_lt_zero i))) (.inr rfl) rfl ?_;refine gn ?_;refine ⟨.inr rfl, ?_⟩
  exact ⟨_,_,rfl,(by (repeat' apply And.intro) <;> first | trivial | exact Nat.le_of_ble_eq_true rfl),jm (by rw [a2f h0];rfl),⟨⟨_,rfl,gu (a2f h0) (by rw [a2f h0];rfl)⟩,trivial⟩⟩
 have h0:=of_decide_eq_false r0
 try simp only [ty] at h0
 refine w_4 ?_;refine m9 0 ?_;refine w_9 ?_
 refine aj (ι:=List AS × AS) ⟨[(0,some _)],[]⟩ ⟨⟨c9,trivial⟩,trivial⟩ (fun y=>⟨[(3,some (.v (.one (.ref 0 y.1.length)))),(4,some (vA y.2))],[(0,some (.arr true 1 46 y.1.length (lf sC y.1)))]⟩) (fun y=>a3g s y) (fun y=>y.2.toNat) (([s],s)) (ab0 s) ⟨⟨zy,zy,trivial⟩,⟨⟨_,rfl,(yl (CoP.refl _))⟩,trivial⟩⟩ ?_
 rintro y hy
 have hlen:=hy.2.1
 have hsl:=s.isLt
 refine w_6 ?_;refine a6 _ rfl (fun r1=>?_) (fun r1=>?_)
 ·
  have h1:=r1
  have h1:=of_decide_eq_false (ap h1)
  try simp only [ty] at h1
  have hne:y.2 ≠ 0:=fun e=>h1 (by rw [e];rfl)
  refine w_5 ?_;refine rq rfl rfl rfl rfl rfl ?_ (hp:=(vf hne));refine w_7 ?_;refine m9 1 ?_;refine ra 2 true rfl rfl rfl rfl rfl rfl ?_;refine w_2 ?_;refine ⟨(y.1 ++ [(y.2 - 1) &&& s],(y.2 - 1) &&& s), ?_, ?_, ?_⟩
  · exact aa7 hy hne
  · exact mc hne
  exact ⟨⟨⟨_,rfl,(d8 rfl)⟩,⟨_,rfl,(dv (ur hne))⟩,c9,trivial⟩,⟨⟨_,rfl,(dt rfl (CoP.of_eq (by rw [ur hne];rfl)))⟩,trivial⟩⟩
 have h1:=r1
 have h1:=of_decide_eq_true (am h1)
 try simp only [ty] at h1
 have hz:y.2 = 0:=c6.1 h1
 refine w_2 ?_;refine bt 3 rfl rfl rfl ?_;refine w_2 ?_;refine b5 rfl rfl rfl rfl rfl rfl uh (b4m y.1 (by omega)) (cn.refl _) trivial rfl rfl ?_;refine w_3 ?_;refine ⟨.inr rfl, ?_⟩
 have he:=(abt hy hz).trans (ahy h0).symm
 exact ⟨_,_,rfl,(by (repeat' apply And.intro) <;> first | trivial | exact Nat.le_of_ble_eq_true rfl),jm (by rw [he]),⟨⟨_,rfl,gu he.symm (by rw [he])⟩,trivial⟩⟩
end Go.Hx
end
section
namespace Go.Hx
def o8 (l:List Fd) (p:AS):Int:=if bg 16 l = 0 then (if 8 < bsz p then 3 else if p >>> 16 = 0 then 0 else 1) else bg 16 l
def zh (l:List Fd) (p:AS):Fd:=if o8 l p = 0 then jk l p else ⟨0,0⟩
def re (l:List Fd) (p:AS):Bool:=decide (o8 l p = 0) && gr l p
theorem abv {f:Fd} (h:f = ⟨0,0⟩):CoC (.agg [j3 (.int .u32 0),j3 (.int .u32 0)]) f.pc:=CoC.of_eq (by rw [h];rfl)
theorem bbn {a b:Fd} (h:a = b):CoC a.pc b.pc:=CoC.of_eq (by rw [h])
theorem b5x {l:List Fd} {p:AS} (h:¬ bg 16 l = 0):o8 l p = bg 16 l ∧ zh l p = ⟨0,0⟩ ∧ re l p = false:=by
 have e:o8 l p = bg 16 l:=if_neg h
 unfold zh re
 rw [e]
 exact ⟨rfl,if_neg h,by rw [decide_eq_false h];rfl⟩
theorem b6q {l:List Fd} {p:AS} (h:bg 16 l = 0) (h2:(8:Int) < bsz p):o8 l p = 3 ∧ zh l p = ⟨0,0⟩ ∧ re l p = false:=by
 have e:o8 l p = 3:=by unfold o8;rw [if_pos h,if_pos (by omega)]
 unfold zh re
 rw [e]
 exact ⟨rfl,rfl,rfl⟩
theorem af9 {p:AS} {n:Nat}:(asI p).fdiv (2 ^ (min n 32)) = 0 ↔ p >>> n = 0:=by
 rw [sy,show (0:Int) = asI 0 from rfl,c6]
theorem b8t {l:List Fd} {p:AS} (h:bg 16 l = 0) (h2:¬ (8:Int) < bsz p) (h3:¬ (asI p).fdiv (2 ^ (min 16 32)) = 0):o8 l p = 1 ∧ zh l p = ⟨0,0⟩ ∧ re l p = false:=by
 rw [af9] at h3
 have e:o8 l p = 1:=by unfold o8;rw [if_pos h,if_neg (by omega),if_neg h3]
 unfold zh re
 rw [e]
 exact ⟨rfl,rfl,rfl⟩
theorem b63 {l:List Fd} {p:AS} (h:bg 16 l = 0) (h2:¬ (8:Int) < bsz p) (h3:(asI p).fdiv (2 ^ (min 16 32)) = 0):o8 l p = 0 ∧ zh l p = jk l p ∧ re l p = gr l p:=by
 rw [af9] at h3
 have e:o8 l p = 0:=by unfold o8;rw [if_pos h,if_neg (by omega),if_pos h3]
 unfold zh re
 rw [e]
 exact ⟨rfl,rfl,rfl⟩
def bcP (n:Int) (l:List Fd) (f:Fd):Bool:=decide (f.rhs &&& ~~~f.lhs ≠ 0) && decide (clo l f.lhs ≠ ar n)
def bcS (n:Int) (l:List Fd):Bool:=decide (bg n l = 0) && !l.any (bcP n l)
def gd (n:Int) (l:List Fd):List AS:=if fh n l 8 = 0 then (bi (ar n)).filter fun s=>!gr l s else []
theorem b6u {n:Int} {l:List Fd} (h:fh n l 8 = 0):gd n l = (bi (ar n)).filter fun s=>!gr l s:=if_pos h
theorem b8m {n:Int} {l:List Fd} (h:¬ fh n l 8 = 0):gd n l = []:=if_neg h
theorem a2x {n m:Int} {l:List Fd} (h:fh n l m = 0):bg n l = 0 ∧ n ≤ m:=by
 unfold fh at h
 split at h
 · rename_i hv
   split at h
   · cases h
   exact ⟨hv,by omega⟩
 rename_i hv
 exact absurd h hv
theorem axf (n:Int) (l:List Fd):(gd n l).length ≤ 4294967296:=by
 unfold gd
 have:=w8 (ar n)
 split
 · exact Nat.le_trans (List.length_filter_le _ _) this
 simp
end Go.Hx
end

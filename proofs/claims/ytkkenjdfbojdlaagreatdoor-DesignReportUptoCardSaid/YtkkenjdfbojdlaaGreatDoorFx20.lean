/- A part of the proof: V11 Cs14 V12 Cs15 V13 Cs16 V14 Hx24 Cs17. -/
import Derived.Test.YtkkenjdfbojdlaaGreatDoorFx14
import Derived.Test.YtkkenjdfbojdlaaGreatDoorFx19
set_option linter.all false
set_option maxRecDepth 100000
set_option maxHeartbeats 1000000
namespace Go.Hx
section
open Go.Proofs
theorem b3z:goodFn Tryz.prog 229:=wgx Tryz.func229
theorem b20 (l:List Fd) (hl:l.length ≤ 4096):dw Tryz.prog 229 [.one (.p (fdl l))] [] (.v (.one (.ref 900 (spl l).length))) [(900, .arr true 2 48 (spl l).length (lf Fd.c (spl l)))] []:=by
 refine gd (nt:=37) a7 Tryz.func229 rfl rfl l9 rfl ?_;refine dl ?_
 refine dg 0 rfl fun hn=>?_
 refine w_6 ?_;refine d6 3 901 true 2 48 (lf Fd.c []) (by decide) rfl (CoP.sl rfl (.inr rfl) (fun h=>h) (fun i j hi _=>absurd hi (Nat.not_lt_zero i))) (.inr rfl) rfl ?_
 refine ah (ι:=Nat) ⟨[(8,some _),(9,some _)],[]⟩ ⟨⟨c9,c9,trivial⟩,trivial⟩ (fun i=>⟨[(3,some (.v (.one (.ref 901 (jh (l.take i)).length)))),(10,some (vI i))],[(901,some (.arr true 2 48 (jh (l.take i)).length (lf Fd.c (jh (l.take i)))))]⟩) (fun i=>i ≤ l.length) (fun i=>l.length - i) (0) (Nat.zero_le _) ⟨⟨zy,zy,trivial⟩,⟨u9,trivial⟩⟩ ?_
 rintro i hi
 refine w_5 ?_;refine a6 _ rfl (fun r0=>?_) (fun r0=>?_)
 ·
  have h0:=ae r0
  try simp only [ty] at h0
  refine w_7 ?_;refine m9 0 ?_;refine w_9 ?_;refine rc rfl rfl rfl rfl rfl rfl za (aad ((l.getD i default).rhs &&& ~~~(l.getD i default).lhs)) (⟨cci (jn _ _),trivial⟩) rfl rfl ?_;refine w_4 ?_
  refine ah (ι:=Nat) ⟨[(5,some _),(8,some _),(9,some _),(10,some _),(19,some _),(20,some _)],[(0,some _)]⟩ ⟨⟨c9,c9,c9,c9,c9,c9,trivial⟩,⟨u9,trivial⟩⟩ (fun k=>⟨[(3,some (.v (.one (.ref 901 (lw l i k).length)))),(21,some (vI k))],[(901,some (.arr true 2 48 (lw l i k).length (lf Fd.c (lw l i k))))]⟩) (fun k=>k ≤ (ap ((l.getD i default).rhs &&& ~~~(l.getD i default).lhs)).length) (fun k=>(ap ((l.getD i default).rhs &&& ~~~(l.getD i default).lhs)).length - k) (0) (Nat.zero_le _) ⟨⟨⟨_,rfl,(cg (a6a l i))⟩,zy,trivial⟩,⟨⟨_,rfl,(cb (a6a l i))⟩,trivial⟩⟩ ?_
  rintro k hk
  have hml:=lg ((l.getD i default).rhs &&& ~~~(l.getD i default).lhs)
  have hsl:=amh (l:=l) (i:=i) (k:=k) (by omega)
  refine w_5 ?_;refine a6 _ rfl (fun r1=>?_) (fun r1=>?_)
  ·
   have h1:=ae r1
   try simp only [ty] at h1
   refine w_9 ?_;refine bg (E:=bj) a7 aw [0,1,2,3,4,5,6,7,8] ?_;refine w_4 ?_;refine rq rfl rfl rfl rfl rfl ?_ (hp:=(Int.natCast_nonneg _));refine qy ?_;refine m9 1 ?_
   refine ra 2 true rfl rfl rfl rfl rfl rfl ?_;refine w_2 ?_;refine ⟨by kernel_rfl, ?_⟩;refine w_4 ?_;refine ⟨k + 1, ?_, ?_, ?_⟩
   · show k + 1 ≤ _;omega
   · first | omega | (dsimp only;omega)
   exact ⟨⟨⟨_,rfl,(ca (a61 rfl (by omega)))⟩,zy,c9,c9,c9,c9,c9,c9,trivial⟩,⟨⟨_,rfl,(ov (a61 rfl (by omega)) (CoP.refl _) (CoP.of_eq (by exact congrArg (fun z=>PV.raw (.int .u32 z)) (b0w _))))⟩,u9,trivial⟩⟩
  have h1:=aa r1
  try simp only [ty] at h1
  obtain rfl:k = (ap ((l.getD i default).rhs &&& ~~~(l.getD i default).lhs)).length:=by omega
  refine w_5 ?_;refine ⟨i + 1, ?_, ?_, ?_⟩
  · show i + 1 ≤ _;omega
  · first | omega | (dsimp only;omega)
  exact ⟨⟨⟨_,rfl,(cg (a9p (by omega) rfl).symm)⟩,zy,c9,c9,trivial⟩,⟨⟨_,rfl,(cb (a9p (by omega) rfl).symm)⟩,trivial⟩⟩
 have h0:=aa r0
 try simp only [ty] at h0
 obtain rfl:i = l.length:=by omega
 refine w_2 ?_;refine bi 3 rfl rfl rfl ?_;refine w_2 ?_
 refine bf rfl rfl rfl rfl rfl rfl ajo (ao2 (jh l) (Nat.le_trans (a1f l) (by omega))) (⟨CoP.of_eq (by rw [List.take_length];rfl),trivial⟩) trivial rfl rfl ?_;refine w_3 ?_;refine ⟨.inr rfl, ?_⟩
 exact ⟨_,_,rfl,(by (repeat' apply And.intro) <;> first | trivial | exact Nat.le_of_ble_eq_true rfl),CoR.refl _,⟨u9,trivial⟩⟩
theorem b12:goodFn Tryz.prog 184:=wgx Tryz.func184
theorem bbl (l:List Fd) (hl:l.length ≤ 4096):af Tryz.prog 184 [pP (fdl l)] (aj [pP (fdl (ae6 l))]):=by
 refine a8 (nt:=60) a7 Tryz.func184 rfl rfl l9 ?_;refine w_7 ?_;refine bf rfl rfl rfl rfl rfl rfl b3z (b20 l hl) (da.refl _) trivial rfl rfl ?_;refine w_4 ?_
 have hsl:=akz l
 refine w_6 ?_
 refine ah (ι:=Nat) ⟨[(3,some _),(11,some _)],[]⟩ ⟨⟨c9,c9,trivial⟩,trivial⟩ (fun i=>⟨[(12,some (vI i))],[(900,some (.arr true 2 48 (spl l).length (lf Fd.c (jm (spl l) i))))]⟩) (fun i=>i ≤ (spl l).length) (fun i=>(spl l).length - i) (0) (Nat.zero_le _) ⟨⟨zy,trivial⟩,⟨u9,trivial⟩⟩ ?_
 rintro i hi
 have htl:=mo (l:=spl l) (i:=i)
 refine w_5 ?_;refine a6 _ rfl (fun r0=>?_) (fun r0=>?_)
 ·
  have h0:=ae r0
  try simp only [ty] at h0
  refine mr ?_;refine qcx za (aad ((jm (spl l) i).getD i default).lhs) ?_;refine w_4 ?_
  refine ah (ι:=Nat) ⟨[(3,some _),(4,some _),(11,some _),(12,some _),(20,some _),(21,some _)],[]⟩ ⟨⟨c9,c9,c9,c9,c9,c9,trivial⟩,trivial⟩ (fun k=>⟨[(22,some (vI k))],[(900,some (.arr true 2 48 (spl l).length (lf Fd.c (ny (jm (spl l) i) i k))))]⟩) (fun k=>k ≤ (ap ((jm (spl l) i).getD i default).lhs).length) (fun k=>(ap ((jm (spl l) i).getD i default).lhs).length - k) (0) (Nat.zero_le _) ⟨⟨zy,trivial⟩,⟨⟨_,rfl,(fy (aoy _ _) rfl)⟩,trivial⟩⟩ ?_
  rintro k hk
  have hml:=lg ((jm (spl l) i).getD i default).lhs
  refine w_5 ?_;refine a6 _ rfl (fun r1=>?_) (fun r1=>?_)
  ·
   have h1:=ae r1
   try simp only [ty] at h1
   have hkl:(ny (jm (spl l) i) i k).length = (spl l).length:=by rw [af1,mo]
   have hhas:=atr (l:=(jm (spl l) i)) (i:=i) (k:=k) (by rw [mo];omega) (by omega)
   refine ae8 ?_
   refine rc rfl rfl rfl rfl rfl rfl ayi (b5g (ny (jm (spl l) i) i k) ((ny (jm (spl l) i) i k).getD i default) ((ap ((jm (spl l) i).getD i default).lhs).getD k default)) (⟨CoC.one (ak4 (by rw [af1,mo])),CoC.refl _,CoC.refl _,trivial⟩) rfl rfl ?_
   refine ax ?_;refine a6 _ rfl (fun r2=>?_) (fun r2=>?_)
   ·
    have h2:=r2
    refine bg (E:=bj) a7 aw [0,1,2,3,4,5,6,7,8,9,10] ?_;refine w_6 ?_;refine rq rfl rfl rfl rfl rfl ?_ (hp:=(Int.natCast_nonneg _));refine w_5 ?_;refine ⟨by kernel_rfl, ?_⟩;refine w_4 ?_
    first | (refine ⟨k + 1, ?_, ?_, ?_⟩
             · show k + 1 ≤ _;omega
             · first | omega | (dsimp only;omega)
             exact ⟨⟨zy,c9,c9,c9,c9,c9,c9,trivial⟩,⟨⟨_,rfl,(aiu (i:=i) (a:=(ap ((jm (spl l) i).getD i default).lhs).getD k default) (l:=(ny (jm (spl l) i) i k)) (by rw [xo (by omega),apo hhas (by assumption)]) (a5g _ _) (by omega) (by omega) hkl.symm)⟩,trivial⟩⟩)
          | (refine ⟨k + 1, ?_, ?_, ?_⟩
             · show k + 1 ≤ _;omega
             · first | omega | (dsimp only;omega)
             exact ⟨⟨zy,c9,c9,c9,c9,c9,c9,trivial⟩,⟨⟨_,rfl,(fy (by rw [xo (by omega),aqk (by assumption)]) rfl)⟩,trivial⟩⟩)
   have h2:=r2
   refine w_5 ?_
   first | (refine ⟨k + 1, ?_, ?_, ?_⟩
            · show k + 1 ≤ _;omega
            · first | omega | (dsimp only;omega)
            exact ⟨⟨zy,c9,c9,c9,c9,c9,c9,trivial⟩,⟨⟨_,rfl,(aiu (i:=i) (a:=(ap ((jm (spl l) i).getD i default).lhs).getD k default) (l:=(ny (jm (spl l) i) i k)) (by rw [xo (by omega),apo hhas (by assumption)]) (a5g _ _) (by omega) (by omega) hkl.symm)⟩,trivial⟩⟩)
         | (refine ⟨k + 1, ?_, ?_, ?_⟩
            · show k + 1 ≤ _;omega
            · first | omega | (dsimp only;omega)
            exact ⟨⟨zy,c9,c9,c9,c9,c9,c9,trivial⟩,⟨⟨_,rfl,(fy (by rw [xo (by omega),aqk (by assumption)]) rfl)⟩,trivial⟩⟩)
  have h1:=aa r1
  try simp only [ty] at h1
  obtain rfl:k = (ap ((jm (spl l) i).getD i default).lhs).length:=by omega
  refine w_5 ?_;refine ⟨i + 1, ?_, ?_, ?_⟩
  · show i + 1 ≤ _;omega
  · first | omega | (dsimp only;omega)
  exact ⟨⟨zy,c9,c9,trivial⟩,⟨⟨_,rfl,(fy (by rw [as3,atq rfl]) rfl)⟩,trivial⟩⟩
 have h0:=aa r0
 try simp only [ty] at h0
 obtain rfl:i = (spl l).length:=by omega
 refine w_2 ?_;refine bi 3 rfl rfl rfl ?_;refine w_2 ?_
 refine rc rfl rfl rfl rfl rfl rfl ajo (bai (jm (spl l) (spl l).length) (by rw [mo];omega)) (⟨CoC.one (ak4 (by rw [mo])),trivial⟩) rfl rfl ?_;refine w_4 ?_
 have hrl:=a87 l
 refine w_4 ?_
 refine ah (ι:=List Fd × Nat) ⟨[],[]⟩ ⟨trivial,trivial⟩ (fun x=>⟨[(3,some (bp (fdl x.1))),(7,some (vI x.2))],[]⟩) (fun x=>qr (x.1.length - x.2) x.1 x.2 = ae6 l ∧ x.2 ≤ x.1.length ∧ x.1.length ≤ 131072) (fun x=>x.1.length - x.2) ((a0d l,0)) (⟨rfl,Nat.zero_le _,by show (a0d l).length ≤ _;omega⟩) ⟨⟨zy,⟨_,rfl,(coi rfl)⟩,trivial⟩,trivial⟩ ?_
 rintro x ⟨hx,hx2,hx3⟩
 refine w_8 ?_;refine a6 _ rfl (fun r3=>?_) (fun r3=>?_)
 ·
  have h3:=ae r3
  try simp only [ty] at h3
  refine w_6 ?_;refine qcx b03 (b72 x.1 x.2 (by omega) (by omega)) ?_;refine ax ?_;refine a6 _ rfl (fun r4=>?_) (fun r4=>?_)
  ·
   have h4:=r4
   have hq:=r4
   refine w_3 ?_;refine qcx aj1 (al8 x.1 x.2 (by omega) (by omega)) ?_;refine w_2 ?_
   first | (refine ⟨(jw x.1 x.2, x.2), ?_, ?_, ?_⟩
            · have ho:=kn (l:=x.1) (i:=x.2) (by omega)
              exact ⟨by rw [← hx,aj3 (by omega) hq],by dsimp only;omega,by dsimp only;omega⟩
            · have ho:=kn (l:=x.1) (i:=x.2) (by omega)
              dsimp only;omega
            exact ⟨⟨zy,⟨_,rfl,(coi (by first | rfl | (dsimp only;omega)))⟩,trivial⟩,trivial⟩)
         | (refine ⟨(x.1,x.2 + 1), ?_, ?_, ?_⟩
            · exact ⟨by rw [← hx,al6 (by omega) hq],by dsimp only;omega,by dsimp only;omega⟩
            · first | omega | (dsimp only;omega)
            exact ⟨⟨zy,⟨_,rfl,(coi (by first | rfl | (dsimp only;omega)))⟩,trivial⟩,trivial⟩)
  have h4:=r4
  have hq:=r4
  refine w_5 ?_
  first | (refine ⟨(jw x.1 x.2, x.2), ?_, ?_, ?_⟩
           · have ho:=kn (l:=x.1) (i:=x.2) (by omega)
             exact ⟨by rw [← hx,aj3 (by omega) hq],by dsimp only;omega,by dsimp only;omega⟩
           · have ho:=kn (l:=x.1) (i:=x.2) (by omega)
             dsimp only;omega
           exact ⟨⟨zy,⟨_,rfl,(coi (by first | rfl | (dsimp only;omega)))⟩,trivial⟩,trivial⟩)
        | (refine ⟨(x.1,x.2 + 1), ?_, ?_, ?_⟩
           · exact ⟨by rw [← hx,al6 (by omega) hq],by dsimp only;omega,by dsimp only;omega⟩
           · first | omega | (dsimp only;omega)
           exact ⟨⟨zy,⟨_,rfl,(coi (by first | rfl | (dsimp only;omega)))⟩,trivial⟩,trivial⟩)
 have h3:=aa r3
 try simp only [ty] at h3
 have hq:=h3
 refine w_6 ?_
 exact hx8 rfl rfl rfl (⟨CoC.one (CoP.of_eq (by rw [← hx,ar7 (by omega)])),trivial⟩)
end
section
def yi (n:Int) (l:List Fd):List Fd:=if br n l = 0 then ae6 l else []
theorem b4b {n:Int} {l:List Fd} (h:br n l = 0):yi n l = ae6 l:=if_pos h
theorem b8e {n:Int} {l:List Fd} (h:¬ br n l = 0):yi n l = []:=if_neg h
theorem bb2 {s:Nat} {cl:Bool} {f:Nat → Nat → PV} {L:List Fd} (h:L = []):CoP (.sl 0 s cl f) (fdl L):=by subst h;exact aqh
theorem a0z {s:Nat} {cl:Bool} {f:Nat → Nat → PV} {L:List AS} (h:L = []):CoP (.sl 0 s cl f) (asl L):=by subst h;exact aqh
def bdc (l:List Fd) (i k:Nat):List Fd:=(List.range k).foldl (qx i) l
end
section
open Go.Proofs
theorem b1h:goodFn Tryz.prog 134:=wgx Tryz.func134
theorem baf (n:Int) (l:List Fd):af Tryz.prog 134 [pI n,pP (fdl l)] (aj [pP (fdl (yi n l)),pI (br n l)]):=by
 refine a8 (nt:=15) a7 Tryz.func134 rfl rfl l9 ?_;refine dl ?_;refine qcx sd (wo n l) ?_;refine w_7 ?_;refine a6 _ rfl (fun r0=>?_) (fun r0=>?_)
 ·
  have h0:=r0
  have h0:=aa (au h0)
  try simp only [ty] at h0
  refine w_6 ?_
  exact hx8 rfl rfl rfl (⟨CoC.one (bb2 (b8e (by assumption))),CoC.refl _,trivial⟩)
 have h0:=r0
 have h0:=ae (ar h0)
 try simp only [ty] at h0
 refine w_4 ?_;refine qcx b12 (bbl l (by have:=(gp (by assumption)).2.2.1;omega)) ?_;refine w_3 ?_
 exact hx8 rfl rfl rfl (⟨CoC.one (CoP.of_eq (by rw [b4b (by assumption)])),cci (by omega),trivial⟩)
end
section
theorem a0p (a b:Nat):a &&& b = 2 * (a / 2 &&& b / 2) + (a % 2 &&& b % 2):=by
 have h1:=Nat.div_add_mod (a &&& b) 2
 have h2:(a &&& b) % 2 = a % 2 &&& b % 2:=by
  have:=Nat.and_mod_two_pow (a:=a) (b:=b) (n:=1)
  simpa using this
 rw [Nat.and_div_two,h2] at h1
 exact h1.symm
theorem abi (a b:Nat):(a % 2 &&& b % 2) = if a % 2 = 1 ∧ b % 2 = 1 then 1 else 0:=by
 rcases Nat.mod_two_eq_zero_or_one a with h | h <;> rcases Nat.mod_two_eq_zero_or_one b with k | k <;> rw [h,k] <;> rfl
theorem a2a {x s:Nat} (h:x &&& s = x):(x / 2 &&& s / 2 = x / 2) ∧ (x % 2 = 1 → s % 2 = 1):=by
 have h1:=a0p x s
 rw [h,abi] at h1
 split at h1 <;> rename_i hc
 · exact ⟨by omega,fun _=>hc.2⟩
 exact ⟨by omega,fun hx=>by omega⟩
theorem ae3:∀ (x s z:Nat),x &&& s = x → z &&& s = z → z < x → z ≤ ((x - 1) &&& s):=by
 intro x
 induction x using Nat.strongRecOn with
 | _ x ih =>
  intro s z hx hz hlt
  obtain ⟨x1,x2⟩:=a2a hx
  obtain ⟨z1,z2⟩:=a2a hz
  rw [a0p (x - 1) s,abi]
  rcases Nat.mod_two_eq_zero_or_one x with hb | hb
  · have e1:(x - 1) / 2 = x / 2 - 1:=by omega
    have e2:(x - 1) % 2 = 1:=by omega
    have:=ih (x / 2) (by omega) (s / 2) (z / 2) x1 z1 (by omega)
    rw [e1,e2]
    by_cases hs:s % 2 = 1
    · rw [if_pos ⟨rfl,hs⟩];omega
    rw [if_neg (fun h=>hs h.2)]
    have:z % 2 = 0:=by omega
    omega
  have e1:(x - 1) / 2 = x / 2:=by omega
  have e2:(x - 1) % 2 = 0:=by omega
  rw [e1,e2,x1,if_neg (by omega)]
  omega
theorem ak7:∀ (w y s:Nat),y &&& s = y → s < 2 ^ w → ((2 ^ w - 1 - y) &&& s) = s - y:=by
 intro w
 induction w with
 | zero=>intro y s h hs;obtain rfl:s = 0:=(by simpa using hs);simp
 | succ w ih =>
  intro y s h hs
  obtain ⟨y1,y2⟩:=a2a h
  have hle:y ≤ s:=by rw [← h];exact Nat.and_le_right
  rw [Nat.pow_succ] at hs ⊢
  have hp:=Nat.two_pow_pos w
  have:=ih (y / 2) (s / 2) y1 (by omega)
  have hle2:y / 2 ≤ s / 2:=by omega
  rw [a0p,abi,show (2 ^ w * 2 - 1 - y) / 2 = 2 ^ w - 1 - y / 2 by omega,this]
  split <;> omega
theorem aon {y s:Nat} (h:y &&& s = y):(s - y) &&& s = s - y:=by
 rw [← ak7 s y s h Nat.lt_two_pow_self,Nat.and_assoc,Nat.and_self]
theorem b2h {w x s:Nat} (hx:x &&& s = x) (hs:s < 2 ^ w) (hne:x < s):((2 ^ w + x - s) &&& s) = s - ((s - x - 1) &&& s):=by
 have h1:((s - x - 1) &&& s) &&& s = (s - x - 1) &&& s:=by rw [Nat.and_assoc,Nat.and_self]
 rw [← ak7 w _ s h1 hs]
 have hp:=Nat.two_pow_pos w
 apply Nat.eq_of_testBit_eq
 intro i
 have hlt:s - x - 1 < 2 ^ w:=by omega
 have hlt2:((s - x - 1) &&& s) < 2 ^ w:=Nat.lt_of_le_of_lt Nat.and_le_left hlt
 rw [Nat.testBit_and,Nat.testBit_and,show 2 ^ w + x - s = 2 ^ w - (s - x - 1 + 1) by omega,Nat.testBit_two_pow_sub_succ hlt,show 2 ^ w - 1 - ((s - x - 1) &&& s) = 2 ^ w - (((s - x - 1) &&& s) + 1) by omega,Nat.testBit_two_pow_sub_succ hlt2,Nat.testBit_and]
 cases s.testBit i <;> simp
theorem ah1 {w x s z:Nat} (hx:x &&& s = x) (hs:s < 2 ^ w) (hz:z &&& s = z) (hlt:x < z):((2 ^ w + x - s) &&& s) ≤ z ∧ x < ((2 ^ w + x - s) &&& s):=by
 have hzs:z ≤ s:=by rw [← hz];exact Nat.and_le_right
 rw [b2h hx hs (by omega)]
 have h1:=ae3 (s - x) s (s - z) (aon hx) (aon hz) (by omega)
 have h2:((s - x - 1) &&& s) ≤ s - x - 1:=Nat.and_le_left
 omega
theorem a3o {z s:AS}:sub z s ↔ z.toNat &&& s.toNat = z.toNat:=by
 rw [← BitVec.toNat_and,BitVec.toNat_inj,ct]
 constructor
 · intro h
   apply BitVec.eq_of_getLsbD_eq
   intro k hk
   rw [BitVec.getLsbD_and]
   cases hz:z.getLsbD k with
   | false=>rfl
   | true=>rw [h k hk hz];rfl
 intro h i _ hi
 rw [← h,BitVec.getLsbD_and] at hi
 simp at hi
 exact hi.2
theorem akc {z s:AS} (h:sub z s):bsz z ≤ bsz s:=by
 unfold bsz
 apply List.countP_mono_left
 intro i hi hb
 exact ct.1 h i (List.mem_range.1 hi) hb
def xz (s:AS):Nat → AS → List AS
 | 0,_=>[]
 | n + 1,x=>x :: if x = 0 then [] else xz s n ((x - 1) &&& s)
theorem a0n {x:AS} (h:x ≠ 0):(x - 1).toNat = x.toNat - 1:=by
 have h0:x.toNat ≠ 0:=fun e=>h (BitVec.eq_of_toNat_eq e)
 have:=x.isLt
 rw [BitVec.toNat_sub]
 show (2 ^ 32 - 1 + x.toNat) % 2 ^ 32 = _
 omega
theorem a12 {x s:AS}:sub ((x - 1) &&& s) s:=by
 rw [a3o,BitVec.toNat_and,Nat.and_assoc,Nat.and_self]
theorem nc {x s:AS} (h:x ≠ 0):((x - 1) &&& s).toNat < x.toNat:=by
 have h0:x.toNat ≠ 0:=fun e=>h (BitVec.eq_of_toNat_eq e)
 rw [BitVec.toNat_and,a0n h]
 have:((x.toNat - 1) &&& s.toNat) ≤ x.toNat - 1:=Nat.and_le_left
 omega
theorem a7n {x s z:AS} (hx:sub x s) (hz:sub z s) (h:z.toNat < x.toNat):z.toNat ≤ ((x - 1) &&& s).toNat:=by
 have h0:x ≠ 0:=fun e=>by subst e;exact absurd h (Nat.not_lt_zero _)
 rw [BitVec.toNat_and,a0n h0]
 exact ae3 _ _ _ (a3o.1 hx) (a3o.1 hz) h
theorem afz {s:AS}:∀ (n:Nat) (x:AS),sub x s → x.toNat < n → ∀ z,z ∈ xz s n x ↔ sub z s ∧ z.toNat ≤ x.toNat
 | 0,x,_,h,z=>absurd h (Nat.not_lt_zero _)
 | n + 1,x,hx,h,z=>by
  unfold xz
  by_cases h0:x = 0
  · rw [if_pos h0,List.mem_singleton]
    subst h0
    constructor
    · rintro rfl;exact ⟨hx,Nat.le_refl _⟩
    rintro ⟨_,h⟩
    exact BitVec.eq_of_toNat_eq (Nat.le_antisymm h (Nat.zero_le _))
  rw [if_neg h0,List.mem_cons,afz n _ a12 (by have:=nc (s:=s) h0;omega)]
  constructor
  · rintro (rfl | ⟨h1,h2⟩)
    · exact ⟨hx,Nat.le_refl _⟩
    have:=nc (s:=s) h0
    exact ⟨h1,by omega⟩
  rintro ⟨h1,h2⟩
  by_cases he:z = x
  · exact .inl he
  have hne:z.toNat ≠ x.toNat:=fun e=>he (BitVec.eq_of_toNat_eq e)
  exact .inr ⟨h1,a7n hx h1 (by omega)⟩
def v7 (s:AS):List AS:=ord (xz s (s.toNat + 1) s)
theorem sub_self (s:AS):sub s s:=by rw [a3o,Nat.and_self]
theorem a86 {z s:AS} (h:sub z s):z.toNat ≤ s.toNat:=by rw [← a3o.1 h];exact Nat.and_le_right
theorem xj {s z:AS}:z ∈ v7 s ↔ sub z s:=by
 unfold v7
 rw [ve,afz _ _ (sub_self s) (Nat.lt_succ_self _)]
 exact ⟨fun h=>h.1,fun h=>⟨h,a86 h⟩⟩
theorem ahd {l:List AS} {s:AS} (ho:p9 l) (h:∀ z,z ∈ l ↔ sub z s):l = v7 s:=oe ho (j8 _) fun z=>by rw [h z];exact xj.symm
def be (s:AS):List AS:=if 12 < bsz s then [] else v7 s
theorem zu {s:AS} (h:(12:Int) < bsz s):be s = []:=if_pos (by omega)
theorem aar {s:AS} (h:¬ (12:Int) < bsz s):be s = v7 s:=if_neg (by omega)
def a4f (s:AS) (y:List AS × AS):Prop:=sub y.2 s ∧ y.1.length + y.2.toNat ≤ s.toNat + 1 ∧ ∀ z,z ∈ y.1 ↔ sub z s ∧ y.2.toNat ≤ z.toNat
theorem acw (s:AS):a4f s ([s],s):=⟨sub_self s,by simp only [List.length_singleton];omega,fun z=>by
 rw [List.mem_singleton]
 constructor
 · rintro rfl;exact ⟨sub_self _,Nat.le_refl _⟩
 rintro ⟨h1,h2⟩;exact BitVec.eq_of_toNat_eq (Nat.le_antisymm (a86 h1) h2)⟩
theorem acu {s:AS} {y:List AS × AS} (h:a4f s y) (h0:y.2 ≠ 0):a4f s (y.1 ++ [(y.2 - 1) &&& s],(y.2 - 1) &&& s):=by
 obtain ⟨h1,h2,h3⟩:=h
 have hl:=nc (s:=s) h0
 refine ⟨a12,by simp only [List.length_append,List.length_singleton];omega,fun z=>?_⟩
 rw [List.mem_append,List.mem_singleton,h3]
 constructor
 · rintro (⟨k1,k2⟩ | rfl)
   · exact ⟨k1,by dsimp only;omega⟩
   exact ⟨a12,Nat.le_refl _⟩
 rintro ⟨k1,k2⟩
 dsimp only at k2
 by_cases hz:y.2.toNat ≤ z.toNat
 · exact .inl ⟨k1,hz⟩
 have:=a7n h1 k1 (by omega)
 exact .inr (BitVec.eq_of_toNat_eq (by omega))
theorem ahn {s:AS} {y:List AS × AS} (h:a4f s y) (h0:y.2 = 0):ord y.1 = v7 s:=ahd (j8 _) fun z=>by
 rw [ve,h.2.2,h0]
 exact ⟨fun h=>h.1,fun h=>⟨h,Nat.zero_le _⟩⟩
def nxt (x s:Nat):Nat:=if x = s then s + 1 else ((2 ^ 64 + x - s) &&& s)
def UpI (s:AS) (k:Nat) (y:List AS × Nat):Prop :=
 (y.2 = s.toNat + 1 ∨ y.2 &&& s.toNat = y.2) ∧ y.1.length ≤ k * 4294967296 + y.2 ∧ p9 y.1 ∧ ∀ z,z ∈ y.1 ↔ sub z s ∧ (bsz z < k ∨ bsz z = k ∧ z.toNat < y.2)
theorem sb {x s:Nat} (hs:s < 2 ^ 32) (hx:x &&& s = x):x < nxt x s ∧ (nxt x s = s + 1 ∨ nxt x s &&& s = nxt x s) ∧ ∀ z,z &&& s = z → x < z → nxt x s ≤ z:=by
 have hle:x ≤ s:=by rw [← hx];exact Nat.and_le_right
 have hs':s < 2 ^ 64:=Nat.lt_trans hs (by decide)
 unfold nxt
 by_cases he:x = s
 · rw [if_pos he]
   refine ⟨by omega, .inl rfl,fun z hz hlt=>?_⟩
   have:z ≤ s:=by rw [← hz];exact Nat.and_le_right
   omega
 rw [if_neg he]
 refine ⟨(ah1 hx hs' (Nat.and_self s) (by omega)).2, .inr (by rw [Nat.and_assoc,Nat.and_self]),fun z hz hlt=>(ah1 hx hs' hz hlt).1⟩
theorem a1j {s:AS} {k:Nat} {y:List AS × Nat} (h:UpI s k y) (hy:y.2 ≤ s.toNat):y.2 &&& s.toNat = y.2:=by
 rcases h.1 with h | h
 · omega
 exact h
theorem ax1 {s:AS} {k:Nat} {y:List AS × Nat} (h:UpI s k y):y.2 ≤ s.toNat + 1:=by
 rcases h.1 with h | h
 · omega
 have:y.2 ≤ s.toNat:=by rw [← h];exact Nat.and_le_right
 omega
theorem ao1 {s:AS} {k:Nat} {y:List AS × Nat} (h:UpI s k y) (hy:y.2 ≤ s.toNat):(BitVec.ofNat 32 y.2).toNat = y.2:=by
 have:=s.isLt
 rw [BitVec.toNat_ofNat,Nat.mod_eq_of_lt (by omega)]
theorem b6h {s:AS} {k:Nat} {y:List AS × Nat} (h:UpI s k y) (hy:y.2 ≤ s.toNat) (hk:bsz (BitVec.ofNat 32 y.2) = k):UpI s k (y.1 ++ [BitVec.ofNat 32 y.2],nxt y.2 s.toNat):=by
 have hn:=ao1 h hy
 obtain ⟨s1,s2,s3⟩:=sb s.isLt (a1j h hy)
 have hsub:sub (BitVec.ofNat 32 y.2) s:=a3o.2 (by rw [hn];exact a1j h hy)
 obtain ⟨h1,h2,h3,h4⟩:=h
 refine ⟨s2,by simp only [List.length_append,List.length_singleton];omega, ?_,fun z=>?_⟩
 · refine List.pairwise_append.2 ⟨h3,List.pairwise_singleton _ _,fun a ha b hb=>?_⟩
   rw [List.mem_singleton] at hb
   subst hb
   rw [kz]
   have:=((h4 a).1 ha).2
   omega
 rw [List.mem_append,List.mem_singleton,h4]
 dsimp only
 constructor
 · rintro (⟨k1,k2⟩ | rfl)
   · exact ⟨k1,by omega⟩
   exact ⟨hsub, .inr ⟨hk,by omega⟩⟩
 rintro ⟨k1,k2 | ⟨k2,k3⟩⟩
 · exact .inl ⟨k1, .inl k2⟩
 by_cases hz:z.toNat < y.2
 · exact .inl ⟨k1, .inr ⟨k2,hz⟩⟩
 by_cases hz2:y.2 < z.toNat
 · have:=s3 z.toNat (a3o.1 k1) hz2
   omega
 exact .inr (BitVec.eq_of_toNat_eq (by omega))
theorem b5v {s:AS} {k:Nat} {y:List AS × Nat} (h:UpI s k y) (hy:y.2 ≤ s.toNat) (hk:bsz (BitVec.ofNat 32 y.2) ≠ k):UpI s k (y.1,nxt y.2 s.toNat):=by
 have hn:=ao1 h hy
 obtain ⟨s1,s2,s3⟩:=sb s.isLt (a1j h hy)
 obtain ⟨h1,h2,h3,h4⟩:=h
 refine ⟨s2,by dsimp only;omega,h3,fun z=>?_⟩
 rw [h4]
 dsimp only
 constructor
 · rintro ⟨k1,k2⟩
   exact ⟨k1,by omega⟩
 rintro ⟨k1,k2 | ⟨k2,k3⟩⟩
 · exact ⟨k1, .inl k2⟩
 by_cases hz:z.toNat < y.2
 · exact ⟨k1, .inr ⟨k2,hz⟩⟩
 by_cases hz2:y.2 < z.toNat
 · have:=s3 z.toNat (a3o.1 k1) hz2
   omega
 have e:z = BitVec.ofNat 32 y.2:=BitVec.eq_of_toNat_eq (by omega)
 exact absurd (e ▸ k2) hk
def UpK (s:AS) (k:Nat) (l:List AS):Prop:=l.length ≤ k * 4294967296 ∧ p9 l ∧ ∀ z,z ∈ l ↔ sub z s ∧ bsz z < k
theorem awj (s:AS):UpK s 0 []:=by
 refine ⟨?_,List.Pairwise.nil,fun z=>?_⟩
 · show 0 ≤ _
   exact Nat.zero_le _
 constructor
 · intro h;cases h
 rintro ⟨_,h⟩;omega
theorem b5e {s:AS} {k:Nat} {l:List AS} (h:UpK s k l):UpI s k (l,0):=by
 obtain ⟨h1,h2,h3⟩:=h
 unfold UpI
 dsimp only
 refine ⟨.inr (Nat.zero_and _),Nat.le_trans h1 (Nat.le_add_right _ _),h2,fun z=>?_⟩
 rw [h3]
 constructor
 · rintro ⟨a,b⟩
   exact ⟨a, .inl b⟩
 rintro ⟨a,b | ⟨_,b⟩⟩
 · exact ⟨a,b⟩
 exact absurd b (Nat.not_lt_zero _)
theorem b41 {s:AS} {k:Nat} {y:List AS × Nat} (h:UpI s k y) (hy:¬ y.2 ≤ s.toNat):UpK s (k + 1) y.1:=by
 have h0:=ax1 h
 have:=s.isLt
 obtain ⟨h1,h2,h3,h4⟩:=h
 refine ⟨by rw [Nat.add_mul];omega,h3,fun z=>?_⟩
 rw [h4]
 constructor
 · rintro ⟨k1,k2⟩
   exact ⟨k1,by omega⟩
 rintro ⟨k1,k2⟩
 have:=a86 k1
 exact ⟨k1,by omega⟩
theorem b2k {s:AS} {k:Nat} {l:List AS} (h:UpK s k l) (hk:bsz s < k):l = v7 s:=ahd h.2.1 fun z=>by
 rw [h.2.2]
 exact ⟨fun h=>h.1,fun h=>⟨h,by have:=akc h;omega⟩⟩
abbrev pU (n:Nat):PC:=.one (.raw (.int .u64 (n:Int)))
abbrev vU (n:Nat):HR:=bp (.raw (.int .u64 (n:Int)))
theorem ah4 (n:Int):IntKind.wrap .u64 n = n % 18446744073709551616:=by
 simp [IntKind.wrap,IntKind.signed,IntKind.bits]
theorem b4e {x s:Nat} (hs:s < 4294967296) (hx:x ≤ s) (h:¬ (x:Int) = s) {a:Int} (ha:a = IntKind.wrap .u64 ((x:Int) - s) ∨ a = (x:Int) - s):bo .and .u64 a s = (nxt x s:Nat):=by
 unfold nxt
 rw [if_neg (by omega)]
 show IntKind.wrap .u64 ((BitVec.ofInt 64 a &&& BitVec.ofInt 64 s).toNat:Int) = _
 have e1:(BitVec.ofInt 64 a).toNat = 2 ^ 64 + x - s:=by
  rw [BitVec.toNat_ofInt]
  rcases ha with rfl | rfl
  · rw [ah4]
    omega
  omega
 have e2:(BitVec.ofInt 64 (s:Int)).toNat = s:=by
  rw [BitVec.toNat_ofInt]
  omega
 have h2:((2 ^ 64 + x - s) &&& s) ≤ s:=Nat.and_le_right
 rw [BitVec.toNat_and,e1,e2,ah4]
 omega
theorem b7g {x s:Nat} (hs:s < 4294967296) (h:(x:Int) = s):(s:Int) + 1 = (nxt x s:Nat):=by
 unfold nxt
 rw [if_pos (by omega)]
 omega
theorem xb {x s:AS} (h:x ≠ 0):bo .and .u32 (asI x - 1) (asI s) = asI ((x - 1) &&& s):=by rw [agq h,gl]
theorem a0q {α:Type} [Inhabited α] {wr wr':Bool} {e:TypeId} {c:α → Nat → PV} {x:α} {f:Nat → Nat → PV} (h:CoP (f 0 0) (c x 0)) (hw:wr' = true → wr = true:=by exact fun h=>h):CoO (.arr wr 1 e 1 f) (.arr wr' 1 e [x].length (lf c [x])) :=
 ⟨hw,rfl,rfl,rfl,fun i j hi hj=>by
  have hi:i < 1:=hi
  have hj:j < 1:=hj
  obtain rfl:j = 0:=by omega
  obtain rfl:i = 0:=by omega
  exact h⟩
theorem yy {n:Nat} (h:n < 4294967296):(n:Int) = asI (BitVec.ofNat 32 n):=by
 unfold asI
 rw [BitVec.toNat_ofNat]
 omega
end
section
open Go.Proofs
theorem al5:goodFn Tryz.prog 173:=wgx Tryz.func173
theorem ay2 (x s:Nat) (hs:s < 4294967296) (hx:x ≤ s):af Tryz.prog 173 [pU x,pU s] (aj [pU (nxt x s)]):=by
 refine a8 (nt:=15) a7 Tryz.func173 rfl rfl l9 ?_;refine f8 ?_;refine a6 _ rfl (fun r0=>?_) (fun r0=>?_)
 ·
  have h0:=ae r0
  try simp only [ty] at h0
  refine w_6 ?_
  exact hx8 rfl rfl rfl (⟨cci (b7g hs h0),trivial⟩)
 have h0:=aa r0
 try simp only [ty] at h0
 refine w_5 ?_;refine rqw rfl rfl rfl rfl rfl ?_;refine w_4 ?_
 exact hx8 rfl rfl rfl (⟨cci (b4e hs hx h0 (by first | exact .inl rfl | exact .inr rfl)),trivial⟩)
theorem a5a:goodFn Tryz.prog 118:=wgx Tryz.func118
theorem axj (s:AS):af Tryz.prog 118 [pA s] (aj [pP (asl (be s))]):=by
 refine a8 (nt:=23) a7 Tryz.func118 rfl rfl l9 ?_;refine w_8 ?_;refine qcx vq (a51 s) ?_;refine w_2 ?_;refine a6 _ rfl (fun r0=>?_) (fun r0=>?_)
 ·
  have h0:=ae r0
  try simp only [ty] at h0
  refine w_4 ?_
  exact hx8 rfl rfl rfl (⟨CoC.one (a0z (zu h0)),trivial⟩)
 have h0:=aa r0
 try simp only [ty] at h0
 refine w_4 ?_;refine m9 0 ?_;refine w_9 ?_
 refine ah (ι:=List AS × AS) ⟨[(0,some _)],[]⟩ ⟨⟨c9,trivial⟩,trivial⟩ (fun y=>⟨[(3,some (.v (.one (.ref 0 y.1.length)))),(4,some (vA y.2))],[(0,some (.arr true 1 46 y.1.length (lf sC y.1)))]⟩) (fun y=>a4f s y) (fun y=>y.2.toNat) (([s],s)) (acw s) ⟨⟨zy,zy,trivial⟩,⟨⟨_,rfl,(a0q (CoP.refl _))⟩,trivial⟩⟩ ?_
 rintro y hy
 have hlen:=hy.2.1
 have hsl:=s.isLt
 refine w_6 ?_;refine a6 _ rfl (fun r1=>?_) (fun r1=>?_)
 ·
  have h1:=r1
  have h1:=aa (au h1)
  try simp only [ty] at h1
  have hne:y.2 ≠ 0:=fun e=>h1 (by rw [e];rfl)
  refine w_5 ?_;refine rq rfl rfl rfl rfl rfl ?_ (hp:=(wn hne));refine w_7 ?_;refine m9 1 ?_;refine ra 2 true rfl rfl rfl rfl rfl rfl ?_;refine w_2 ?_;refine ⟨(y.1 ++ [(y.2 - 1) &&& s],(y.2 - 1) &&& s), ?_, ?_, ?_⟩
  · exact acu hy hne
  · exact nc hne
  exact ⟨⟨⟨_,rfl,(ca rfl)⟩,⟨_,rfl,(dz (xb hne))⟩,c9,trivial⟩,⟨⟨_,rfl,(c7 rfl (CoP.of_eq (by rw [xb hne];rfl)))⟩,trivial⟩⟩
 have h1:=r1
 have h1:=ae (ar h1)
 try simp only [ty] at h1
 have hz:y.2 = 0:=c8.1 h1
 refine w_2 ?_;refine bi 3 rfl rfl rfl ?_;refine w_2 ?_;refine qcx vt (a3p y.1 (by omega)) ?_;refine w_2 ?_
 exact hx8 rfl rfl rfl (⟨CoC.one (CoP.of_eq (by rw [aar h0,ahn hy hz])),trivial⟩)
theorem b1r:goodFn Tryz.prog 124:=wgx Tryz.func124
theorem b6q (s:AS):af Tryz.prog 124 [pA s] (aj [pP (asl (be s))]):=by
 refine a8 (nt:=34) a7 Tryz.func124 rfl rfl l9 ?_;refine w_8 ?_;refine rc rfl rfl rfl rfl rfl rfl sw (xa _) (⟨cci (by first | rfl | exact yy (by omega)),trivial⟩) rfl rfl ?_;refine w_2 ?_
 refine a6 _ rfl (fun r0=>?_) (fun r0=>?_)
 ·
  have h0:=ae r0
  try simp only [ty] at h0
  refine w_4 ?_
  exact hx8 rfl rfl rfl (⟨CoC.one (a0z (zu h0)),trivial⟩)
 have h0:=aa r0
 try simp only [ty] at h0
 refine f8 ?_;refine d6 3 900 true 1 46 (lf sC []) (by decide) rfl (CoP.sl rfl (.inr rfl) (fun h=>h) (fun i j hi _=>absurd hi (Nat.not_lt_zero i))) (.inr rfl) rfl ?_
 refine ah (ι:=List AS × Nat) ⟨[(0,some _)],[]⟩ ⟨⟨c9,trivial⟩,trivial⟩ (fun x=>⟨[(3,some (.v (.one (.ref 900 x.1.length)))),(4,some (vI x.2))],[(900,some (.arr true 1 46 x.1.length (lf sC x.1)))]⟩) (fun x=>UpK s x.2 x.1 ∧ x.2 ≤ bsz s + 1) (fun x=>bsz s + 1 - x.2) (([],0)) (⟨awj s,Nat.zero_le _⟩) ⟨⟨zy,zy,trivial⟩,⟨u9,trivial⟩⟩ ?_
 rintro x ⟨hx,hxb⟩
 have hlen:=hx.1
 have hsl:=s.isLt
 have hbz:=ag0 s
 refine w_5 ?_;refine rc rfl rfl rfl rfl rfl rfl sw (xa _) (⟨cci (by first | rfl | exact yy (by omega)),trivial⟩) rfl rfl ?_;refine w_2 ?_;refine a6 _ rfl (fun r1=>?_) (fun r1=>?_)
 ·
  have h1:=ae r1
  try simp only [ty] at h1
  refine w_8 ?_
  refine ah (ι:=List AS × Nat) ⟨[(0,some _),(4,some _)],[]⟩ ⟨⟨c9,c9,trivial⟩,trivial⟩ (fun y=>⟨[(3,some (.v (.one (.ref 900 y.1.length)))),(5,some (vU y.2))],[(900,some (.arr true 1 46 y.1.length (lf sC y.1)))]⟩) (fun y=>UpI s x.2 y) (fun y=>s.toNat + 1 - y.2) ((x.1,0)) (b5e hx) ⟨⟨zy,zy,trivial⟩,⟨u9,trivial⟩⟩ ?_
  rintro y hy
  have hlen2:=hy.2.1
  have hyl:=ax1 hy
  have hsa:asI s = (s.toNat:Int):=rfl
  refine w_5 ?_;refine rq rfl rfl rfl rfl rfl ?_ (hp:=(by simp only [gj,inR,md,o6];omega));refine w_2 ?_;refine a6 _ rfl (fun r2=>?_) (fun r2=>?_)
  ·
   have h2:=ae r2
   try simp only [ty] at h2
   refine w_6 ?_;refine rq rfl rfl rfl rfl rfl ?_ (hp:=(by simp only [gj,inR,md,o6];omega))
   refine rc rfl rfl rfl rfl rfl rfl sw (xa _) (⟨cci (by first | rfl | exact yy (by omega)),trivial⟩) rfl rfl ?_;refine w_3 ?_;refine a6 _ rfl (fun r3=>?_) (fun r3=>?_)
   ·
    have h3:=ae r3
    try simp only [ty] at h3
    refine w_3 ?_;refine rq rfl rfl rfl rfl rfl ?_ (hp:=(by simp only [gj,inR,md,o6];omega));refine m9 0 ?_;refine ra 1 true rfl rfl rfl rfl rfl rfl ?_;refine w_5 ?_
    refine rq rfl rfl rfl rfl rfl ?_ (hp:=(by simp only [gj,inR,md,o6];omega));refine rc rfl rfl rfl rfl rfl rfl al5 (ay2 y.2 s.toNat s.isLt (by omega)) (⟨CoC.refl _,cci rfl,trivial⟩) rfl rfl ?_
    refine w_2 ?_
    first | (refine ⟨(y.1 ++ [BitVec.ofNat 32 y.2], nxt y.2 s.toNat), ?_, ?_, ?_⟩
             · exact b6h hy (by omega) (by omega)
             · have:=(sb s.isLt (a1j hy (by omega))).1
               dsimp only
               omega
             exact ⟨⟨⟨_,rfl,(ca rfl)⟩,zy,c9,c9,trivial⟩,⟨⟨_,rfl,(c7 rfl (CoP.of_eq (congrArg (fun z=>PV.raw (.int .u32 z)) (yy (by omega)))))⟩,trivial⟩⟩)
          | (refine ⟨(y.1,nxt y.2 s.toNat), ?_, ?_, ?_⟩
             · exact b5v hy (by omega) (by omega)
             · have:=(sb s.isLt (a1j hy (by omega))).1
               dsimp only
               omega
             exact ⟨⟨zy,zy,c9,c9,trivial⟩,⟨u9,trivial⟩⟩)
   have h3:=aa r3
   try simp only [ty] at h3
   refine w_4 ?_;refine rq rfl rfl rfl rfl rfl ?_ (hp:=(by simp only [gj,inR,md,o6];omega))
   refine rc rfl rfl rfl rfl rfl rfl al5 (ay2 y.2 s.toNat s.isLt (by omega)) (⟨CoC.refl _,cci rfl,trivial⟩) rfl rfl ?_;refine w_2 ?_
   first | (refine ⟨(y.1 ++ [BitVec.ofNat 32 y.2], nxt y.2 s.toNat), ?_, ?_, ?_⟩
            · exact b6h hy (by omega) (by omega)
            · have:=(sb s.isLt (a1j hy (by omega))).1
              dsimp only
              omega
            exact ⟨⟨⟨_,rfl,(ca rfl)⟩,zy,c9,c9,trivial⟩,⟨⟨_,rfl,(c7 rfl (CoP.of_eq (congrArg (fun z=>PV.raw (.int .u32 z)) (yy (by omega)))))⟩,trivial⟩⟩)
         | (refine ⟨(y.1,nxt y.2 s.toNat), ?_, ?_, ?_⟩
            · exact b5v hy (by omega) (by omega)
            · have:=(sb s.isLt (a1j hy (by omega))).1
              dsimp only
              omega
            exact ⟨⟨zy,zy,c9,c9,trivial⟩,⟨u9,trivial⟩⟩)
  have h2:=aa r2
  try simp only [ty] at h2
  refine w_6 ?_;refine ⟨(y.1,x.2 + 1), ?_, ?_, ?_⟩
  · show UpK s (x.2 + 1) y.1 ∧ x.2 + 1 ≤ _
    exact ⟨b41 (y:=y) hy (by omega),by omega⟩
  · dsimp only
    omega
  exact ⟨⟨zy,zy,c9,trivial⟩,⟨u9,trivial⟩⟩
 have h1:=aa r1
 try simp only [ty] at h1
 refine w_6 ?_;refine bi 2 rfl rfl rfl ?_
 exact hx8 rfl rfl rfl (⟨CoC.one (CoP.of_eq (by rw [aar h0,b2k hx (by omega)];rfl)),trivial⟩)
end
section
def o0 (l:List Fd) (p x:AS):Bool:=decide (clo l x &&& p ≠ x) && decide (clo l x &&& p ≠ p)
def a9l (l:List Fd) (p:AS):Option AS:=(be p).find? (o0 l p)
def amp (l:List Fd) (p x:AS):Fd:=⟨x,(clo l x &&& p) &&& ~~~x⟩
def k7 (l:List Fd) (p:AS):Fd:=match a9l l p with
 | some x=>amp l p x
 | none=>⟨0,0⟩
def ik (l:List Fd) (p:AS):Bool:=(a9l l p).isSome
theorem a9c {α:Type} [Inhabited α] {q:α → Bool} {l:List α} {i:Nat} (hi:i < l.length) (hI:∀ j,j < i → q (l.getD j default) = false) (h:q (l.getD i default) = true):l.find? q = some (l.getD i default):=by
 rw [List.find?_eq_some_iff_getElem]
 refine ⟨h,i,hi,by simp [List.getD,hi],fun j hj=>?_⟩
 have:=hI j hj
 rw [List.getD_eq_getElem?_getD,List.getElem?_eq_getElem (by omega),Option.getD_some] at this
 simp [this]
theorem ag6 {α:Type} [Inhabited α] {q:α → Bool} {l:List α} (hI:∀ j,j < l.length → q (l.getD j default) = false):l.find? q = none:=by
 rw [List.find?_eq_none]
 intro x hx
 obtain ⟨j,hj,rfl⟩:=List.getElem_of_mem hx
 have:=hI j hj
 rw [List.getD_eq_getElem?_getD,List.getElem?_eq_getElem hj,Option.getD_some] at this
 simp [this]
theorem aqd {l:List Fd} {p:AS} {i:Nat} (hi:i < (be p).length) (hI:∀ j,j < i → o0 l p ((be p).getD j default) = false) (h:o0 l p ((be p).getD i default) = true):k7 l p = amp l p ((be p).getD i default) ∧ ik l p = true:=by
 have e:a9l l p = some ((be p).getD i default):=a9c hi hI h
 unfold k7 ik
 rw [e]
 exact ⟨rfl,rfl⟩
theorem ass {l:List Fd} {p:AS} (hI:∀ j,j < (be p).length → o0 l p ((be p).getD j default) = false):k7 l p = ⟨0,0⟩ ∧ ik l p = false:=by
 have e:a9l l p = none:=ag6 hI
 unfold k7 ik
 rw [e]
 exact ⟨rfl,rfl⟩
theorem arl {l:List Fd} {p x:AS} (h:bo .and .u32 (asI (clo l x)) (asI p) = asI x):o0 l p x = false:=by
 rw [gl,c8] at h
 unfold o0
 simp [h]
theorem aox {l:List Fd} {p x:AS} (h:bo .and .u32 (asI (clo l x)) (asI p) = asI p):o0 l p x = false:=by
 rw [gl,c8] at h
 unfold o0
 simp [h]
theorem apl {l:List Fd} {p x:AS} (h:¬ bo .and .u32 (asI (clo l x)) (asI p) = asI x) (k:¬ bo .and .u32 (asI (clo l x)) (asI p) = asI p):o0 l p x = true:=by
 rw [gl,c8] at h k
 unfold o0
 simp [h,k]
theorem b3w {l:List Fd} {p:AS} {i:Nat} {a b:PV} (hi:i < (be p).length) (hI:∀ j,j < i → o0 l p ((be p).getD j default) = false) (h:o0 l p ((be p).getD i default) = true) (ha:a = asC ((be p).getD i default)) (hb:b = .raw (.int .u32 (bo .andNot .u32 (bo .and .u32 (asI (clo l ((be p).getD i default))) (asI p)) (asI ((be p).getD i default))))):CoC (.agg [a,b]) (k7 l p).pc :=
 CoC.of_eq (by rw [(aqd hi hI h).1,ha,hb,gl,jn];rfl)
theorem av0 {l:List Fd} {p:AS} (hI:∀ j,j < (be p).length → o0 l p ((be p).getD j default) = false):CoC (.agg [jg (.int .u32 0),jg (.int .u32 0)]) (k7 l p).pc:=CoC.of_eq (by rw [(ass hI).1];rfl)
theorem a2s {s:AS}:∀ (n:Nat) (x:AS),(xz s n x).length ≤ x.toNat + 1
 | 0,x=>Nat.zero_le _
 | n + 1,x=>by
  unfold xz
  by_cases h0:x = 0
  · rw [if_pos h0];simp
  rw [if_neg h0,List.length_cons]
  have h1:=a2s (s:=s) n ((x - 1) &&& s)
  have h2:=nc (s:=s) h0
  omega
theorem qc (s:AS):(be s).length ≤ 4294967296:=by
 unfold be v7
 have h1:=a2s (s:=s) (s.toNat + 1) s
 have h2:=l7 (xz s (s.toNat + 1) s)
 have h3:=s.isLt
 split
 · simp
 omega
end
section
open Go.Proofs
theorem agp:goodFn Tryz.prog 78:=wgx Tryz.func78
theorem amw (l:List Fd) (p:AS):af Tryz.prog 78 [pP (fdl l),pA p] (aj [(k7 l p).pc,pB (ik l p)]):=by
 refine a8 (nt:=36) a7 Tryz.func78 rfl rfl l9 ?_;refine sx7 ?_;refine m9 0 ?_;refine w_6 ?_;refine qcx a5a (axj p) ?_;refine w_4 ?_
 refine ah (ι:=Nat) ⟨[(0,some _),(1,some _),(4,some _),(10,some _),(11,some _)],[(0,some _)]⟩ ⟨⟨c9,c9,c9,c9,c9,trivial⟩,⟨u9,trivial⟩⟩ (fun i=>⟨[(12,some (vI i))],[]⟩) (fun i=>i ≤ (be p).length ∧ (∀ j,j < i → o0 l p ((be p).getD j default) = false)) (fun i=>(be p).length - i) (0) (⟨Nat.zero_le _,cr⟩) ⟨⟨zy,trivial⟩,trivial⟩ ?_
 rintro i ⟨hi,hI⟩
 have hlen:=qc p
 refine w_5 ?_;refine a6 _ rfl (fun r0=>?_) (fun r0=>?_)
 ·
  have h0:=ae r0
  try simp only [ty] at h0
  refine kf ?_;refine qcx qf (uf l ((be p).getD i default)) ?_;refine dl ?_;refine b9 rfl rfl (fun r1=>?_) (fun r1=>?_)
  ·
   have h1:=r1
   have h1:=aa (au h1)
   try simp only [ty] at h1
   (iterate 3 refine qy ?_ (hg:=(gtt r1)));refine w_2 ?_;refine a6 _ rfl (fun r2=>?_) (fun r2=>?_)
   ·
    have h2:=r2
    have h2:=du r1 h2
    have h2:=aa (au h2)
    try simp only [ty] at h2
    refine dl ?_
    exact hx8 rfl rfl rfl (⟨b3w (i:=i) (by omega) hI (apl h1 h2) rfl rfl,ccb (aqd (i:=i) (by omega) hI (apl h1 h2)).2.symm,trivial⟩)
   have h2:=r2
   have h2:=du r1 h2
   have h2:=ae (ar h2)
   try simp only [ty] at h2
   refine w_5 ?_;refine ⟨i + 1, ?_, ?_, ?_⟩
   · exact ⟨by show i + 1 ≤ _;omega,bz hI (by first | exact arl h1 | exact aox h2)⟩
   · first | omega | (dsimp only;omega)
   exact ⟨⟨zy,c9,c9,c9,c9,c9,trivial⟩,⟨u9,trivial⟩⟩
  have h1:=r1
  have h1:=ae (ar h1)
  try simp only [ty] at h1
  (iterate 3 refine k9 (gft r1) ?_);refine rq rfl rfl rfl rfl rfl ?_ (hp:=r1);refine ax ?_;refine a6 _ rfl (fun e=>by cases e) (fun _=>?_);refine w_5 ?_;refine ⟨i + 1, ?_, ?_, ?_⟩
  · exact ⟨by show i + 1 ≤ _;omega,bz hI (by first | exact arl h1 | exact aox h2)⟩
  · first | omega | (dsimp only;omega)
  exact ⟨⟨zy,c9,c9,c9,c9,c9,trivial⟩,⟨u9,trivial⟩⟩
 have h0:=aa r0
 try simp only [ty] at h0
 refine w_7 ?_
 exact hx8 rfl rfl rfl (⟨av0 (fun j hj=>hI j (by omega)),ccb (ass (fun j hj=>hI j (by omega))).2.symm,trivial⟩)
end
section
open Go.RowKit
section
variable {w0:World} {nt:Nat} {c:Ctx} {s:S} {a:Act} {w:World}
theorem al.short (h:al w0 nt c s a w) {id id' sz n m:Nat} {el:TypeId} {f:Nat → Nat → PV} (ho:s.o id = some (.arr true sz el n f)) (hm:m ≤ n) (hnm:NM s id') (hno:s.o id' = none) {u:Value} (hu:bm c s.o (.win id n 0 m) u) :
 ∃ c',c'.old = c.old ∧ al w0 nt c' ((s.setO id none).setO id' (some (.arr true sz el m f))) a w ∧ av c' ((s.setO id none).setO id' (some (.arr true sz el m f))).o (.v (.one (.ref id' m))) u:=by
 have hne:id ≠ id':=fun e=>by rw [← e,ho] at hno;cases hno
 obtain ⟨ad,ad',cap,q1,q2,q3,q4,q5,q6⟩:=vh hu ho rfl
 obtain ⟨h0,h1,h5⟩:=h.objs id _ ho
 have hold:∀ k ob,((s.setO id none).setO id' (some (.arr true sz el m f))).o k = some ob → k ≠ id' → s.o k = some ob ∧ k ≠ id:=fun k ob hk hk'=>by
  simp only [S.setO,if_neg hk'] at hk
  by_cases hki:k = id
  · subst hki;simp at hk
  rw [if_neg hki] at hk;exact ⟨hk,hki⟩
 obtain ⟨bk,hbk,hok⟩:∃ bk:Nat → Prop,(∀ b,bk b → c.blk id b) ∧ ∀ c':Ctx,c'.imm = c.imm → c'.own id' = u → c'.blk id' = bk → ∀ o':az,ec 0 c' o' w id' (.arr true sz el m f):=by
  rcases h5 with ⟨h6,xs,h2,h4⟩ | ⟨h6 | h6,h7,h8⟩
  · obtain ⟨hxl,hrow⟩:=h2
    rcases hrow with ⟨hv0,hz⟩ | ⟨g,cap',cur,hown,hbase,hheap,hnc,hcm,hcs,htake⟩
    · rw [hv0] at q1
      simp only [Value.slice.injEq] at q1
      obtain ⟨rfl,_,rfl⟩:=q1
      obtain rfl:n = 0:=by omega
      obtain rfl:m = 0:=by omega
      refine ⟨noB,fun b hb=>hb.elim,fun c' e1 e2 e3 o'=>⟨h0,Nat.zero_le _, .inr ⟨.inr rfl,e3, ?_⟩⟩⟩
      rw [e2,q2]
      exact ⟨ad',0,rfl,Nat.le_refl _,Nat.zero_le _,fun _=>rfl,fun h=>absurd h (Nat.lt_irrefl 0)⟩
    rw [hown] at q1
    simp only [Value.slice.injEq,true_and] at q1
    obtain ⟨rfl,rfl⟩:=q1
    by_cases hcap:cap' = 0
    · subst hcap
      obtain rfl:m = 0:=by omega
      refine ⟨noB,fun b hb=>hb.elim,fun c' e1 e2 e3 o'=>⟨h0,Nat.zero_le _, .inr ⟨.inr rfl,e3, ?_⟩⟩⟩
      rw [e2,q2]
      exact ⟨ad',0,rfl,Nat.le_refl _,Nat.zero_le _,fun _=>rfl,fun h=>absurd h (Nat.lt_irrefl 0)⟩
    obtain rfl:=q6 (by omega)
    simp only [Option.map_some,df,Nat.zero_mul,Nat.add_zero,Nat.sub_zero] at q2
    have hmul:m * sz ≤ n * sz:=Nat.mul_le_mul_right _ hm
    refine ⟨iw u,fun b hb=>by rw [h6,hown];rw [q2] at hb;exact hb,fun c' e1 e2 e3 o'=>⟨h0,Nat.le_trans hm h1, .inl ⟨by rw [e2,e3],xs.take (m * sz),⟨by rw [List.length_take,hxl,Nat.min_eq_left hmul], .inr ⟨g,cap',cur,by rw [e2,q2],hbase,hheap,by omega,hcm,hcs, ?_⟩⟩,fun i j hi hj=>?_⟩⟩⟩
    · rw [← htake,List.take_take,Nat.min_eq_left hmul]
    obtain ⟨x,hx,hr⟩:=h4 i j (by omega) hj
    refine ⟨x, ?_,by rw [e1];exact hr⟩
    rw [List.getElem?_take,if_pos (zj hi hj)]
    exact hx
  · cases h6
  subst h6
  obtain rfl:m = 0:=by omega
  refine ⟨noB,fun b hb=>hb.elim,fun c' e1 e2 e3 o'=>⟨h0,Nat.zero_le _, .inr ⟨.inr rfl,e3, ?_⟩⟩⟩
  obtain ⟨ad2,cap2,r1,r2,r3,r4,_⟩:=h8
  rw [q1] at r1
  simp only [Value.slice.injEq,true_and] at r1
  obtain ⟨rfl,rfl⟩:=r1
  obtain rfl:cap = 0:=r4 rfl
  rw [e2,q2]
  exact ⟨ad',0,rfl,Nat.le_refl _,Nat.zero_le _,fun _=>rfl,fun h=>absurd h (Nat.lt_irrefl 0)⟩
 have hevo:∀ k,k ≠ id' → Evo c s.o { c with own:=fun k=>if k = id' then u else c.own k,blk:=fun k=>if k = id' then bk else c.blk k } ((s.setO id none).setO id' (some (.arr true sz el m f))).o k:=fun k hk=>by
  by_cases hki:k = id
  · subst hki
    exact .inl (by simp [S.setO,hk])
  exact Evo.of_same (by simp [S.setO,hk,hki]) (by simp [hk])
 refine ⟨{ c with own:=fun k=>if k = id' then u else c.own k,blk:=fun k=>if k = id' then bk else c.blk k },rfl,⟨h.defers,h.size,h.below,fun d x hx=>?_,fun k ob hk=>?_,fun i i' obi obi' b hi hi' hb hb'=>?_,h.imm,fun k ob b hk hb=>?_,h.was,h.frm,fun k ob b hk hb=>?_,fun k hk=>?_⟩, ?_⟩
 · exact (h.tmps d x hx).evo (Imm.le.refl c.imm) fun k hkm=>hevo k (by rintro rfl;exact hnm.1 d x hx hkm)
 · by_cases hk':k = id'
   · subst hk'
     obtain rfl:ob = .arr true sz el m f:=by simpa [S.setO] using hk.symm
     refine hok _ ?_ ?_ ?_ _ <;> first | rfl | exact if_pos rfl
   obtain ⟨hk1,hk2⟩:=hold k ob hk hk'
   exact (h.objs k ob hk1).keep (Imm.le.refl c.imm) (by simp [hk']) (by simp [hk']) (fun j hj=>hevo j (by rintro rfl;exact hnm.2.1 k ob hk1 hj)) fun b _=>rfl
 · have hone:∀ k ob b,k ≠ id' → ((s.setO id none).setO id' (some (.arr true sz el m f))).o k = some ob → c.blk k b → bk b → False:=fun k ob b hk' hk hb hbb=>by
    obtain ⟨hk1,hk2⟩:=hold k ob hk hk'
    exact hk2 (h.inj k id ob _ b hk1 ho hb (hbk b hbb))
   by_cases e1:i = id'
   · by_cases e2:i' = id'
     · rw [e1,e2]
     exact (hone i' obi' b e2 hi' (by simpa [e2] using hb') (by simpa [e1] using hb)).elim
   by_cases e2:i' = id'
   · exact (hone i obi b e1 hi (by simpa [e1] using hb) (by simpa [e2] using hb')).elim
   exact h.inj i i' obi obi' b (hold i obi hi e1).1 (hold i' obi' hi' e2).1 (by simpa [e1] using hb) (by simpa [e2] using hb')
 · by_cases hk':k = id'
   · exact h.sep id _ b ho (hbk b (by simpa [hk'] using hb))
   exact h.sep k ob b (hold k ob hk hk').1 (by simpa [hk'] using hb)
 · by_cases hk':k = id'
   · exact h.fsep id _ b ho (hbk b (by simpa [hk'] using hb))
   exact h.fsep k ob b (hold k ob hk hk').1 (by simpa [hk'] using hb)
 · exact (h.fixed k hk).trans (hevo k (by have:=hnm.2.2;omega))
 refine ⟨hu.1,fun l=>by simp [S.setO],fun ob2 s2 e2 n2 ho2 hd2=>?_⟩
 simp only [S.setO,if_true,Option.some.injEq] at ho2
 subst ho2
 simp only [ai.dim,Option.some.injEq,Prod.mk.injEq] at hd2
 obtain ⟨rfl,rfl,rfl⟩:=hd2
 exact ⟨Nat.le_refl _,fun _=>by simp⟩
end
section
variable {ro:Option Nat} {P:Program} {nt:Nat} {st:HSt} {Q:Exit → HSt → Prop}
theorem ahl {c:Code} (d id2:Nat) {id n n' i m s:Nat} {e:TypeId} {f:Nat → Nat → PV} (hd:bq st.t d = some (.v (.one (.win id n i m)))) (ho:bq st.o id = some (.arr true s e n' f)) (hn:n' = n) (hi:i = 0) (hm:m ≤ n) (hnew:se id2 st = true)
 (h:HW (ro:=ro) P nt c ⟨(d,some (.v (.one (.ref id2 m)))) :: st.t,(id2,some (.arr true s e m f)) :: (id,none) :: st.o⟩ Q):HW (ro:=ro) P nt c st Q:=by
 subst hn hi
 obtain ⟨hnm,hno⟩:=lc hnew
 refine wa ⟨st.t,(id2,some (.arr true s e m f)) :: (id,none) :: st.o⟩ d (.v (.one (.ref id2 m))) (fun w0 m0 a w hr=>?_) h
 obtain ⟨cc,hold,hrr⟩:=hr
 obtain ⟨c',e1,e2,e3⟩:=hrr.short ho hm hnm hno (hrr.tmps d _ hd)
 have e4:(HSt.den ⟨st.t,(id2,some (.arr true s e m f)) :: (id,none) :: st.o⟩) = (st.den.setO id none).setO id2 (some (.arr true s e m f)):=by
  unfold HSt.den S.setO
  simp [bw]
 exact ⟨c',e1.trans hold,by rw [e4];exact e2,by rw [e4];exact e3⟩
theorem u6 {c:Code} (d id2:Nat) {id n n' s:Nat} {e:TypeId} {f:Nat → Nat → PV} (hd:bq st.t d = some (.v (.one (.ref id n)))) (ho:bq st.o id = some (.arr true s e n' f)) (hn:n' = n) (hnew:se id2 st = true)
 (h:HW (ro:=ro) P nt c ⟨(d,some (.v (.one (.ref id2 n)))) :: st.t,(id2,some (.arr true s e n f)) :: (id,none) :: st.o⟩ Q):HW (ro:=ro) P nt c st Q:=by
 subst hn
 obtain ⟨hnm,hno⟩:=lc hnew
 refine wa ⟨st.t,(id2,some (.arr true s e n' f)) :: (id,none) :: st.o⟩ d (.v (.one (.ref id2 n'))) (fun w0 m0 a w hr=>?_) h
 obtain ⟨cc,hold,hrr⟩:=hr
 have hu:bm cc st.den.o (.ref id n') (a.tmps.getD d undef):=hrr.tmps d _ hd
 have hw:bm cc st.den.o (.win id n' 0 n') (a.tmps.getD d undef):=by
  refine ⟨hu.1,hu.2.1,fun ob s2 e2 n2 ho2 hd2=>⟨(hu.2.2 _ _ _ _ ho2 hd2).1,fun hk=>?_⟩⟩
  have he:=(hu.2.2 _ _ _ _ ho2 hd2).2 hk
  obtain rfl:ob = .arr true s e n' f:=Option.some.inj (ho2.symm.trans ho)
  simp only [ai.dim,Option.some.injEq,Prod.mk.injEq] at hd2
  obtain ⟨rfl,rfl,rfl⟩:=hd2
  obtain ⟨ad,cap,hv,hc1,hc2⟩:=vm (hrr.objs _ _ ho2)
  exact ⟨ad,ad,cap,hv,by rw [he,hv];rfl,by omega,hc1,hc2,fun _=>by cases ad <;> simp [lr]⟩
 obtain ⟨c',e1,e2,e3⟩:=hrr.short ho (Nat.le_refl _) hnm hno hw
 have e4:(HSt.den ⟨st.t,(id2,some (.arr true s e n' f)) :: (id,none) :: st.o⟩) = (st.den.setO id none).setO id2 (some (.arr true s e n' f)):=by
  unfold HSt.den S.setO
  simp [bw]
 exact ⟨c',e1.trans hold,by rw [e4];exact e2,by rw [e4];exact e3⟩
end
end
section
theorem age {l:List AS} {k:Nat} (hk:l.length ≤ k) (h:∀ j,0 < j → j < k → ¬ l.getD j default = l.getD (j - 1) default):iu l = l:=by
 have:=s7 (Nat.le_refl l.length) fun j h1 h2=>h j h1 (by omega)
 rw [List.take_length] at this
 exact this
theorem ad3 {l m:List AS} {k p q:Nat} (hC:CpI l k p q m) (hq:¬ q < l.length):(iu l).length = p ∧ m.take p = iu l:=by
 have e:=hC.pre
 have h1:=hC.ql
 have h2:=hC.len
 have h3:=hC.pq
 rw [show q = l.length by omega,List.take_length] at e
 exact ⟨by rw [← e];simp;omega,e⟩
theorem b0k {l m:List AS} {k p q n a d:Nat} {z:List Value} {e:TypeId} (hC:CpI l k p q m) (hq:¬ q < l.length) (ha:p ≤ a) (hn:n = p):CoO (.arr true 1 e n (mf (lf sC m) a d z)) (.arr true 1 e (iu l).length (lf sC (iu l))):=by
 obtain ⟨h1,h2⟩:=ad3 hC hq
 subst hn
 refine ⟨fun h=>h,rfl,rfl,h1,fun i j hi hj=>CoP.of_eq ?_⟩
 show mf (lf sC m) a d z i j = lf sC (iu l) i j
 unfold mf
 rw [if_neg (by omega)]
 simp only [lf,List.getD]
 have e:(iu l)[i]? = m[i]?:=by rw [← h2,List.getElem?_take,if_pos hi]
 rw [e]
theorem jx {id n m:Nat} (h:n = m):CoR (.v (.one (.ref id n))) (.v (.one (.ref id m))):=by rw [h];exact CoR.refl _
end
end Go.Hx

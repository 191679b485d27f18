/- A part of the proof: Cs26 V25 Cs27 Cs28 Cs30 V29 Cs31 V30 Cs32 Cs33 Cs34 Cs35 V34 Cs36 Cz1m Cs37 Cs40. -/
import Derived.Test.YtkkenjdfbojdlaaGreatDoorMx29
set_option linter.all false
set_option maxRecDepth 100000
set_option maxHeartbeats 1000000
namespace Go.Hx
section
def noA (s:AS) (a:Nat):AS:=s &&& ~~~((1:AS) <<< a)
def akf (s:AS) (a:Nat) {b:Int} (h:b.toNat = a):ap .andNot .u32 (asI s) (IntKind.wrap .u32 (1 * 2 ^ (min b.toNat 32))) = asI (noA s a):=by
 rw [h];exact aal s a
def a4q (n:Int) (l:List Fd) (s:AS) (a:Nat):AS:=if f5 n l (noA s a) = true then noA s a else s
def iz (n:Int) (l:List Fd) (s:AS) (k:Nat):AS:=(List.range k).foldl (fun s j=>a4q n l s (n.toNat - 1 - j)) s
def t6 (n:Int) (l:List Fd) (s:AS) (k:Nat):iz n l s (k + 1) = a4q n l (iz n l s k) (n.toNat - 1 - k):=by
 unfold iz;rw [bq7,bpk];rfl
section
variable {l:List Fd} {n:Int} {s:AS}
def atz {k:Nat} (h:f5 n l (noA (iz n l s k) (n.toNat - 1 - k)) = true):iz n l s (k + 1) = noA (iz n l s k) (n.toNat - 1 - k):=by
 rw [t6];exact if_pos h
def au7 {k:Nat} (h:f5 n l (noA (iz n l s k) (n.toNat - 1 - k)) = false):iz n l s (k + 1) = iz n l s k:=by
 rw [t6];exact if_neg (by rw [h];decide)
def rkE (n:Int) (l:List Fd) (s:AS):Int:=if au n l = 0 then (if f5 n l s = true then 0 else 1) else au n l
def rkS (n:Int) (l:List Fd) (s:AS):AS:=if rkE n l s = 0 then iz n l s n.toNat else 0
def blb (h:¬ au n l = 0):rkS n l s = 0 /\ rkE n l s = au n l:=by
 have e:rkE n l s = au n l:=if_neg h;exact ⟨if_neg (by rw [e];exact h),e⟩
def blh (h:au n l = 0) (h2:f5 n l s = false):rkS n l s = 0 /\ rkE n l s = 1:=by
 have e:rkE n l s = 1:=by unfold rkE;rw [if_pos h,if_neg (by rw [h2];decide)]
 exact ⟨if_neg (by rw [e];decide),e⟩
def aup (h:au n l = 0) (h2:f5 n l s = true):rkS n l s = iz n l s n.toNat /\ rkE n l s = 0:=by
 have e:rkE n l s = 0:=by unfold rkE;rw [if_pos h,if_pos h2]
 exact ⟨if_pos e,e⟩
def a5g (n:Int) (l:List Fd) (s:AS):Bool:=f5 n l s && (List.range n.toNat).all fun a=>!(s.getLsbD a && f5 n l (noA s a))
def as3 (h:f5 n l s = true) (h2:∀ a,a < n.toNat -> (s.getLsbD a && f5 n l (noA s a)) = false):a5g n l s = true:=by
 unfold a5g;rw [h,bq1,bp1];intro a ha;rw [h2 a (bor.1 ha)];rfl
def bjd (n:Int) (l:List Fd) (i:Nat):List AS:=((List.range i).map (BitVec.ofNat 32)).filter (a5g n l)
def b72 (n:Int) (l:List Fd):List AS:=if au n l = 0 then ord (bjd n l (2 ^ n.toNat)) else []
def beu (h0:0 <= n) (h1:n <= 16):asI (a6 n) + 1 = (2 ^ n.toNat:Nat) /\ 2 ^ n.toNat <= 65536:=by
 have h2:2 ^ n.toNat <= 2 ^ 16:=bpm bsq bsq;have h3:0 < 2 ^ n.toNat:=bsb _;unfold a6 asI;rw [abe (Nat.min_le_right _ _),bq4 bsq];omega
end
end
section
open Go.Proofs
def bc1 (n:Int) (l:List Fd) (s:AS):a7 btb 73 [pI n,pP (fdl l),pA s] (aa [pA (rkS n l s),pI (rkE n l s)]):=by
 refine hpx (nt:=38) Tryz.func73 ?_;refine d5 ?_;refine qcx xn (a1e n l) ?_;refine w_7 ?_;refine hcn (fun h0=>?_) (fun h0=>?_)
 · refine w_6 ?_;refine hrr ?_;have he:=blb (s:=s) h0;exact f9 rfl rfl (⟨cci (congrArg asI he.1.symm),cci he.2.symm,trivial⟩)
 refine w_7 ?_;refine qcx aea (akb n l s) ?_;refine w_2 ?_;refine hcv (fun h1=>?_) (fun h1=>?_)
 · refine w_5 ?_;refine hrr ?_;have he:=blh h0 bsr;exact f9 rfl rfl (⟨cci (congrArg asI he.1.symm),cci he.2.symm,trivial⟩)
 refine w_3 ?_;have hv:=f8 h0;refine w_6 ?_;refine bp (ka 0 (ka 1 kn)) km (fun k=>⟨[(2,some (vA (iz n l s k))),(9,some (vI (n - 1 - (k:Int))))],[]⟩) n.toNat ⟨⟨zy,⟨_,rfl,(coi bsq)⟩,trivial⟩,trivial⟩ ?_;rintro k hk;refine w_6 ?_;refine hcd (fun h2=>?_) (fun h2=>?_)
 ·
  refine uk ?_;refine rc rfl rfl rfl rfl rfl rfl aea (akb n l (noA (iz n l s k) (n.toNat - 1 - k))) (⟨CoC.refl _,CoC.refl _,cci (akf _ _ bsq),trivial⟩) rfl rfl ?_;refine cu ?_;refine hcb (fun h3=>?_) (fun h3=>?_)
  ·
   refine w_9 ?_
   first | (refine lpz (k + 1) ⟨⟨⟨_, rfl, (bz ((akf _ (n.toNat - 1 - k) bsq).trans (congrArg asI (atz bsr).symm)))⟩, ⟨_, rfl, (coi bsq)⟩, tt⟩, trivial⟩ ?_; show k + 1 <= _; omega)
         | (refine lpz (k + 1) ⟨⟨⟨_,rfl,(bz (by rw [au7 bsr]))⟩,⟨_,rfl,(coi bsq)⟩,tt⟩,trivial⟩ ?_;show k + 1 <= _;omega)
  refine w_6 ?_
  first | (refine lpz (k + 1) ⟨⟨⟨_, rfl, (bz ((akf _ (n.toNat - 1 - k) bsq).trans (congrArg asI (atz bsr).symm)))⟩, ⟨_, rfl, (coi bsq)⟩, tt⟩, trivial⟩ ?_; show k + 1 <= _; omega)
        | (refine lpz (k + 1) ⟨⟨⟨_,rfl,(bz (by rw [au7 bsr]))⟩,⟨_,rfl,(coi bsq)⟩,tt⟩,trivial⟩ ?_;show k + 1 <= _;omega)
 refine w_7 ?_;refine hrr ?_;have he:=aup h0 bsr;obtain rfl:k = n.toNat:=by omega
 exact f9 rfl rfl (⟨cci (congrArg asI he.1.symm),cci he.2.symm,trivial⟩)
end
section
def bC:Bool -> Nat -> PV:=fun b _=>.raw (.bool b)
def b3z (n:Int) (l:List Fd) (k:Nat):Bool:=decide (clo l (BitVec.ofNat 32 k) = a6 n)
def bmt (n:Int) (l:List Fd) (i:Nat):List Bool:=(List.range (2 ^ n.toNat)).map fun k=>decide (k < i) && b3z n l k
def bnx (n:Int) (l:List Fd):List Bool:=bmt n l (2 ^ n.toNat)
end
section
section
variable {n:Int} {l:List Fd}
def okA (n:Int) (l:List Fd) (i a:Nat):Bool:=b3z n l i && (List.range a).all fun b=>!(i.testBit b && b3z n l (i ^^^ 2 ^ b))
section
variable {i a:Nat} (hv:au n l = 0) (hi:i < 2 ^ n.toNat) (ha:(a:Int) < n) (hx:i ^^^ 2 ^ a < 2 ^ n.toNat)
include hv hi ha hx
end
end
end
section
def yd (s:AS):Nat -> AS -> List AS
 | 0,_=>[]
 | n + 1,x=>if x = 0 then [] else x :: yd s n ((x - 1) &&& s)
def ge (s:AS):List AS:=0 :: yd s (s.toNat + 1) s
def sub_zero (s:AS):sub 0 s:=ae.2 fun i hi h=>by simp at h
section
variable {s:AS}
def aiy:∀ (n:Nat) (x:AS),sub x s -> x.toNat < n -> ∀ z,z ∈ yd s n x <-> sub z s /\ z ≠ 0 /\ z.toNat <= x.toNat
 | 0,x,_,h,z=>absurd h (bod _)
 | n + 1,x,hx,h,z=>by
  unfold yd;by_cases h0:x = 0
  · rw [if_pos h0]
    subst h0;constructor
    · intro h;cases h
    rintro ⟨_,h1,h2⟩;exact absurd (bp8 (Nat.le_antisymm h2 (boe _))) h1
  rw [if_neg h0,bok,aiy n _ a5u (by have:=so (s:=s) h0;omega)];constructor
  · rintro (rfl | ⟨h1,h2,h3⟩)
    · exact ⟨hx,h0,bo9 _⟩
    have:=so (s:=s) h0;exact ⟨h1,h2,by omega⟩
  rintro ⟨h1,h2,h3⟩;by_cases he:z = x
  · exact .inl he
  have hne:z.toNat ≠ x.toNat:=fun e=>he (bp8 e);exact .inr ⟨h1,h2,acv hx h1 bsq⟩
def ru {z:AS}:z ∈ ge s <-> sub z s:=by
 unfold ge;rw [bok,aiy _ _ (sub_self s) (Nat.lt_succ_self _)];constructor
 · rintro (rfl | h)
   · exact sub_zero s
   exact h.1
 intro h;by_cases h0:z = 0
 · exact .inl h0
 exact .inr ⟨h,h0,a2g h⟩
def TsI (s:AS) (x:Nat × List AS × AS):Prop:=x.2.1 ++ yd s x.1 x.2.2 = ge s /\ x.2.2.toNat < x.1 /\ x.2.1.length + x.1 = s.toNat + 2
def b7z (s:AS):TsI s (s.toNat + 1,[0],s):=⟨rfl,Nat.lt_succ_self _,by dsimp only;rw [bpz];omega⟩
def bcs {x:Nat × List AS × AS} (h:TsI s x) (h0:x.2.2 ≠ 0):TsI s (x.1 - 1,x.2.1 ++ [x.2.2],(x.2.2 - 1) &&& s):=by
 obtain ⟨h1,h2,h3⟩:=h;obtain ⟨n,hn⟩:∃ n,x.1 = n + 1:=⟨x.1 - 1,by omega⟩;have hl:=so (s:=s) h0;refine ⟨?_,by dsimp only;omega,by dsimp only;rw [bob,bpz];omega⟩;rw [<- h1,hn];show (x.2.1 ++ [x.2.2]) ++ yd s n _ = _;rw [bpo]
 conv=>rhs;unfold yd
 rw [if_neg h0];rfl
def bgy {x:Nat × List AS × AS} (h:TsI s x) (h0:x.2.2 = 0):x.2.1 = ge s:=by
 obtain ⟨h1,h2,h3⟩:=h;obtain ⟨n,hn⟩:∃ n,x.1 = n + 1:=⟨x.1 - 1,by omega⟩;rw [<- h1,hn];unfold yd;rw [if_pos h0,bpd]
def aja (s:AS):(ge s).length <= 4294967297:=by
 have:∀ n x,(yd s n x).length <= n:=by
  intro n
  induction n with
  | zero=>intro x;exact bo9 _
  | succ n ih =>
   intro x;unfold yd;split
   · simp
   rw [bov];have:=ih ((x - 1) &&& s);omega
 have h1:=this (s.toNat + 1) s;have:=s.isLt;unfold ge;rw [bov];omega
variable {r:AS}
def big (h:r ≠ 0):r &&& (-r) = (1:AS) <<< je r:=by
 obtain ⟨h1,h2,h3,h4⟩:=y5 h
 have e:-r = ~~~(r - 1):=by
  apply bp8;have h0:r.toNat ≠ 0:=fun e=>h (bp8 e);have:=r.isLt;rw [BitVec.toNat_neg,BitVec.toNat_not,a5x h];omega
 rw [e];apply bpx;intro i hi;have h5:=congrArg (fun z:AS=>z.getLsbD i) h4;simp only [boh,bp7,decide_eq_true hi,bq1] at h5;have h6:((1:AS) <<< je r).getLsbD i = decide (i = je r):=ey _ i hi;rw [boh,bp7,decide_eq_true hi,bq1,h6];rw [h6] at h5;by_cases hl:i = je r
 · subst hl
   rw [h2] at h5 ⊢;simpa using h5
 rw [decide_eq_false hl] at h5 ⊢;cases hr:r.getLsbD i <;> rw [hr] at h5 <;> simpa using h5
def bkv (r:AS) (h:r ≠ 0) {a:Int} (ha:a = IntKind.wrap .u32 (0 - asI r)):ap .and .u32 (asI r) a = asI ((1:AS) <<< je r):=by
 have e:a = asI (-r):=by
  rw [ha];have h0:r.toNat ≠ 0:=fun e=>h (bp8 e);have:=r.isLt;unfold asI;rw [BitVec.toNat_neg];simp only [IntKind.wrap,IntKind.signed,IntKind.bits];simp;omega
 rw [e,gk,big h]
def kp (l:List Fd) (p s:AS):Bool:=decide (sub p (clo l s))
variable {l:List Fd} {p:AS}
def tu:decide (ap .and .u32 (asI (clo l s)) (asI p) = asI p) = kp l p s:=by
 rw [gk,afb];unfold kp;refine decide_eq_decide.2 ⟨fun e=>?_,fun e=>?_⟩
 · rw [<- e];exact d6
 refine br lu (gr e (df p))
def zk (l:List Fd) (p x:AS):Bool:=(List.range 32).all fun a=>!(x.getLsbD a && kp l p (noA x a))
variable {x:AS}
def bh6 {a:Nat} (ha:a < 32) (h:x.getLsbD a = true) (h2:kp l p (noA x a) = true):zk l p x = false:=by
 unfold zk;rw [List.all_eq_false];exact ⟨a,bor.2 ha,by rw [h,h2];decide⟩
def axd (h2:∀ a,a < 32 -> x.getLsbD a = true -> kp l p (noA x a) = false):zk l p x = true:=by
 unfold zk;rw [bp1];intro a ha
 cases hx:x.getLsbD a with
 | false=>rfl
 | true=>rw [h2 a (bor.1 ha) hx];rfl
def age (l:List Fd) (p x r:AS):Prop:=sub r x /\ ∀ a,a < 32 -> x.getLsbD a = true -> r.getLsbD a = true \/ kp l p (noA x a) = false
def b1r (l:List Fd) (p x:AS):age l p x x:=⟨df x,fun a _ h=>.inl h⟩
def bcw (h:age l p x r) (h0:r ≠ 0):je r < 32 /\ x.getLsbD (je r) = true:=by
 obtain ⟨h1,h2,_,_⟩:=y5 h0;exact ⟨h1,ae.1 h.1 _ h1 h2⟩
def b30 (h:age l p x r) (h0:r ≠ 0) (hf:kp l p (noA x (je r)) = false):age l p x (r &&& (r - 1)):=by
 obtain ⟨h1,h2,h3,h4⟩:=y5 h0;rw [h4];refine ⟨ak d6 h.1,fun a ha hx=>?_⟩
 rcases h.2 a ha hx with h5 | h5
 · by_cases hl:a = je r
   · subst hl;exact .inr hf
   refine .inl ?_;have h6:((1:AS) <<< je r).getLsbD a = decide (a = je r):=ey _ a ha;rw [boh,bp7,decide_eq_true ha,bq1,h5,h6,decide_eq_false hl];rfl
 exact .inr h5
def bdx (h:age l p x r) (h0:r = 0):zk l p x = true:=axd fun a ha hx=>by
 rcases h.2 a ha hx with h5 | h5
 · subst h0;simp at h5
 exact h5
def bic (h:r ≠ 0):(r &&& (r - 1)).toNat < r.toNat:=by
 have h1:=a5x h;have h0:r.toNat ≠ 0:=fun e=>h (bp8 e);rw [bra,h1];have:(r.toNat &&& (r.toNat - 1)) <= r.toNat - 1:=brb;omega
def zo (l:List Fd) (p x:AS):Bool:=kp l p x && zk l p x
def lg (l:List Fd) (p:AS):AS:=orL ((ge p).filter (zo l p))
def a0r {k:Nat}:∀ {ps:List AS} {s:AS},(ps.foldl (· ||| ·) s).getLsbD k = (s.getLsbD k || ps.any fun x=>x.getLsbD k)
 | [],s=>by simp
 | x :: ps,s=>by
  rw [bq6,a0r,bpj,List.any_cons,Bool.or_assoc]
def b5h {a b:List AS} (h:∀ z,z ∈ a <-> z ∈ b):orL a = orL b:=by
 apply bpx;intro i hi;unfold orL;rw [a0r,a0r];congr 1;rw [bqf,bp4,bp4];exact ⟨fun ⟨x,h1,h2⟩=>⟨x,(h x).1 h1,h2⟩,fun ⟨x,h1,h2⟩=>⟨x,(h x).2 h1,h2⟩⟩
def wu (l:List Fd) (p:AS) (i:Nat):AS:=orL (((ge p).take i).filter (zo l p))
def arp (a:List AS) (x:AS):orL (a ++ [x]) = orL a ||| x:=by unfold orL;rw [bpk];rfl
def acd {i:Nat} (hi:i < (ge p).length) (h:zo l p ((ge p).getD i default) = true):wu l p (i + 1) = wu l p i ||| (ge p).getD i default:=by
 unfold wu;rw [aw hi,bpr];simp only [bpp,h,if_true,bq9];exact arp _ _
def xj {i:Nat} (hi:i < (ge p).length) (h:zo l p ((ge p).getD i default) = false):wu l p (i + 1) = wu l p i:=by
 unfold wu;rw [aw hi,bpr];simp only [bpp,h,bpe,if_false,bq9,bpd]
def avd (l:List Fd) (p:AS):wu l p (ge p).length = lg l p:=by unfold wu lg;rw [bog]
def a7e (h:kp l p x = true) (h2:zk l p x = true):zo l p x = true:=by unfold zo;rw [h,h2];rfl
def aaj (h:kp l p x = false):zo l p x = false:=by unfold zo;rw [h];rfl
def a9j (h:zk l p x = false):zo l p x = false:=by unfold zo;rw [h];simp
end
end
section
open Go.Proofs
def b1i (s:AS):a7 btb 204 [pA s] (aa [pP (asl (ge s))]):=by
 refine hpx (nt:=18) Tryz.func204 ?_;refine w_6 ?_;refine m9 0 ?_;refine w_9 ?_;refine ah (ι:=Nat × List AS × AS) (ka 0 kn) km (fun x=>⟨[(3,some (.v (.one (.ref 0 x.2.1.length)))),(4,some (vA x.2.2))],[(0,some (.arr true 1 46 x.2.1.length (lf sC x.2.1)))]⟩) (fun x=>TsI s x) (fun x=>x.1) ((s.toNat + 1,[0],s)) (b7z s) ⟨tt,⟨⟨_,rfl,(y4 (CoP.refl _))⟩,trivial⟩⟩ ?_;rintro x hx;have hlen:=hx.2;have hsl:=s.isLt;refine w_6 ?_;refine hcn (fun h0=>?_) (fun h0=>?_)
 ·
  have hne:x.2.2 ≠ 0:=fun e=>h0 (by rw [e];rfl);refine w_6 ?_;refine m9 1 ?_;refine r9 2 true ?_;refine w_4 ?_;refine rq rfl rfl rfl rfl rfl ?_ (hp:=(a15 hne));refine w_4 ?_;refine ⟨(x.1 - 1,x.2.1 ++ [x.2.2],(x.2.2 - 1) &&& s), ?_, ?_, ?_⟩
  · exact bcs hx hne
  · dsimp only
    omega
  exact ⟨⟨⟨_,rfl,(c8 rfl)⟩,⟨_,rfl,(bz (a13 hne))⟩,tt⟩,⟨⟨_,rfl,(bu rfl (CoP.refl _))⟩,trivial⟩⟩
 have hz:x.2.2 = 0:=ck.1 h0;refine w_6 ?_;refine b6 2 rfl rfl rfl ?_;exact hx8 rfl rfl rfl (⟨CoC.one (CoP.of_eq (by rw [<- bgy hx hz];rfl)),trivial⟩)
def bja (l:List Fd) (p x:AS):a7 btb 238 [pP (fdl l),pA p,pA x] (aa [pB (zk l p x)]):=by
 refine hpx (nt:=27) Tryz.func238 ?_;refine dl ?_;refine ah (ι:=AS) (ka 0 (ka 1 (ka 2 kn))) km (fun r=>⟨[(7,some (vA r))],[]⟩) (fun r=>age l p x r) (fun r=>r.toNat) (x) (b1r l p x) kk ?_;rintro r hr;refine w_6 ?_;refine hcn (fun h0=>?_) (fun h0=>?_)
 ·
  have hne:r ≠ 0:=fun e=>h0 (by rw [e];rfl);have hlow:=bcw hr hne;refine w_9 ?_;refine rqw rfl rfl rfl rfl rfl ?_;refine w_2 ?_;refine rc rfl rfl rfl rfl rfl rfl vr (yr l (noA x (je r))) (⟨CoC.refl _,cci (by rw [bkv r hne rfl,it];rfl),trivial⟩) rfl rfl ?_;refine w_5 ?_;refine hcd (fun h1=>?_) (fun h1=>?_)
  · refine v_4 ?_;exact ⟨ccb (bh6 hlow.1 hlow.2 (tu.symm.trans (decide_eq_true bsr))).symm,trivial⟩
  refine w_4 ?_;refine rq rfl rfl rfl rfl rfl ?_ (hp:=(a15 hne));refine w_3 ?_;refine ⟨r &&& (r - 1), ?_, ?_, ?_⟩
  · exact b30 hr hne (tu.symm.trans (decide_eq_false bsr))
  · exact bic hne
  exact ⟨⟨⟨_,rfl,(bz (ans hne))⟩,tt⟩,trivial⟩
 have hz:r = 0:=ck.1 h0;refine v_5 ?_;exact ⟨ccb (bdx hr hz).symm,trivial⟩
def b8k (l:List Fd) (p:AS):a7 btb 203 [pP (fdl l),pA p] (aa [pA (lg l p)]):=by
 refine hpx (nt:=33) Tryz.func203 ?_;refine d5 ?_;have htl:=aja p;refine w_2 ?_;refine qcx (wgx Tryz.func204) (b1i p) ?_;refine w_4 ?_;refine bp (ka 0 (ka 1 (ka 9 (ka 10 kn)))) km (fun i=>⟨[(5,some (vA (wu l p i))),(11,some (vI i))],[]⟩) ((ge p).length) ⟨⟨⟨_,rfl,(bz rfl)⟩,tt⟩,trivial⟩ ?_;rintro i hi;refine w_5 ?_;refine hcd (fun h0=>?_) (fun h0=>?_)
 ·
  refine kw ?_;refine qcx vr (yr l ((ge p).getD i default)) ?_;refine w_5 ?_;refine ai rfl rfl (fun r1=>?_) (fun r1=>?_)
  ·
   have h1:=tz1 r1;(iterate 3 refine qy ?_ (hg:=(gtt r1)));refine qcx (wgx Tryz.func238) (bja l p ((ge p).getD i default)) ?_ (hg:=(gtt r1));refine w_2 ?_;refine am _ rfl (fun r2=>?_) (fun r2=>?_)
   · have h2:=bq r1 r2;refine d5 ?_;exact lpx (i + 1) ⟨⟨⟨_,rfl,(by first | exact bz (by rw [bOr,acd bsq (a7e (tu.symm.trans (decide_eq_true bsr)) bsr)];rfl) | exact bz (by rw [xj bsq (a9j bsr)]) | exact bz (by rw [xj bsq (aaj (tu.symm.trans (decide_eq_false bsr)))]))⟩,tt⟩,trivial⟩
   have h2:=bq r1 r2;refine w_5 ?_;exact lpx (i + 1) ⟨⟨⟨_,rfl,(by first | exact bz (by rw [bOr,acd bsq (a7e (tu.symm.trans (decide_eq_true bsr)) bsr)];rfl) | exact bz (by rw [xj bsq (a9j bsr)]) | exact bz (by rw [xj bsq (aaj (tu.symm.trans (decide_eq_false bsr)))]))⟩,tt⟩,trivial⟩
  have h1:=tz2 r1;(iterate 4 refine k9 (gft r1) ?_);refine w_8 ?_
  exact lpx (i + 1) ⟨⟨⟨_,rfl,(by first | exact bz (by rw [bOr,acd bsq (a7e (tu.symm.trans (decide_eq_true bsr)) bsr)];rfl) | exact bz (by rw [xj bsq (a9j bsr)]) | exact bz (by rw [xj bsq (aaj (tu.symm.trans (decide_eq_false bsr)))]))⟩,tt⟩,trivial⟩
 obtain rfl:i = (ge p).length:=by omega
 refine v_6 ?_;exact ⟨cci (by rw [avd]),trivial⟩
end
section
def a1j (l:List Fd) (p x:AS) (a:Nat):Bool:=(List.range a).all fun b=>!(x.getLsbD b && kp l p (noA x b))
def a93 (l:List Fd) (p x:AS) (a:Nat):a1j l p x (a + 1) = (a1j l p x a && !(x.getLsbD a && kp l p (noA x a))):=by
 unfold a1j;rw [bq7,List.all_append];simp only [List.all_cons,List.all_nil,Bool.and_true]
section
variable {l:List Fd} {p x:AS}
def alb {a:Nat} (ha:a < 32) (h:bw x a = true) (h2:kp l p (noA x a) = true):a1j l p x (a + 1) = false:=by
 rw [cb ha] at h;rw [a93,h,h2];simp
def ai2 {a:Nat} (ha:a < 32) (h:bw x a = false):a1j l p x (a + 1) = a1j l p x a:=by
 rw [cb ha] at h;rw [a93,h];simp
def ai0 {a:Nat} (h:kp l p (noA x a) = false):a1j l p x (a + 1) = a1j l p x a:=by
 rw [a93,h];simp
def ah6 (i:Nat):List AS:=(List.range i).map (BitVec.ofNat 32)
def aj7 (i:Nat):ah6 (i + 1) = ah6 i ++ [BitVec.ofNat 32 i]:=by unfold ah6;rw [bq7,bqi];rfl
def prQ (l:List Fd) (p x:AS):Bool:=decide (sub x p) && zo l p x
def kf (l:List Fd) (p:AS) (i:Nat):AS:=orL ((ah6 i).filter (prQ l p))
def b61 {i:Nat} (h:sub (BitVec.ofNat 32 i) p) (h2:kp l p (BitVec.ofNat 32 i) = true) (h3:zk l p (BitVec.ofNat 32 i) = true):kf l p (i + 1) = kf l p i ||| BitVec.ofNat 32 i:=by
 have e:prQ l p (BitVec.ofNat 32 i) = true:=by unfold prQ;rw [decide_eq_true h,a7e h2 h3];rfl
 unfold kf;rw [aj7,bpr];simp only [bpp,e,if_true,bq9];exact arp _ _
def ace {i:Nat} (e:prQ l p (BitVec.ofNat 32 i) = false):kf l p (i + 1) = kf l p i:=by
 unfold kf;rw [aj7,bpr];simp only [bpp,e,bpe,if_false,bq9,bpd]
def bj4 (h:¬ sub x p):prQ l p x = false:=by unfold prQ;rw [decide_eq_false h];rfl
def bk8 (h:kp l p x = false):prQ l p x = false:=by unfold prQ;rw [aaj h];simp
def bjl (h:zk l p x = false):prQ l p x = false:=by unfold prQ;rw [a9j h];simp
def b2k {i:Nat} (hi:i <= 4294967296):x ∈ ah6 i <-> x.toNat < i:=by
 unfold ah6;rw [boo];constructor
 · rintro ⟨k,hk,rfl⟩
   rw [bor] at hk;rw [bsc,br8 bsq];exact hk
 intro h;exact ⟨x.toNat,bor.2 h,by rw [BitVec.ofNat_toNat,BitVec.setWidth_eq]⟩
def aui {i:Nat} (hp:i = p.toNat + 1):kf l p i = lg l p:=by
 have:=p.isLt;unfold kf lg;refine b5h fun z=>?_;rw [bpq,bpq,b2k bsq,ru];unfold prQ;rw [boc,decide_eq_true_iff];constructor
 · rintro ⟨_,h1,h2⟩;exact ⟨h1,h2⟩
 rintro ⟨h1,h2⟩;have:=a2g h1;exact ⟨by omega,h1,h2⟩
end
section
variable {l:List Fd} {p:AS} {i:Nat}
def a99 (hi:i < 4294967296):ap .andNot .u32 (i:Int) (asI p) = 0 <-> sub (BitVec.ofNat 32 i) p:=by
 rw [jn hi];exact k6
def av6 (hi:i < 4294967296) (h:¬ ap .andNot .u32 (i:Int) (asI p) = 0):asI (kf l p i) = asI (kf l p (i + 1)):=congrArg asI (ace (bj4 fun e=>h ((a99 hi).2 e))).symm
def av9 (h:decide (sub p (clo l (BitVec.ofNat 32 i))) = false):asI (kf l p i) = asI (kf l p (i + 1)):=congrArg asI (ace (bk8 h)).symm
def avr (h:a1j l p (BitVec.ofNat 32 i) 32 = false):asI (kf l p i) = asI (kf l p (i + 1)):=congrArg asI (ace (bjl h)).symm
def aw2 (hi:i < 4294967296) (h1:ap .andNot .u32 (i:Int) (asI p) = 0) (h2:decide (sub p (clo l (BitVec.ofNat 32 i))) = true) (h3:a1j l p (BitVec.ofNat 32 i) 32 = true):ap .or .u32 (asI (kf l p i)) (i:Int) = asI (kf l p (i + 1)):=by
 rw [b61 ((a99 hi).1 h1) h2 h3,jn hi,bOr]
end
def p9 (l:List Fd) (p x:AS):Bool:=!kp l p x && decide (((clo l x &&& p) &&& ~~~x) &&& ~~~lg l p ≠ 0)
def jc (l:List Fd) (p:AS):Bool:=!(ge p).any (p9 l p)
section
variable {l:List Fd} {p:AS}
def ag4 (h:∀ x,sub x p -> p9 l p x = false):jc l p = true:=by
 unfold jc
 have:(ge p).any (p9 l p) = false:=by
  rw [bpw];intro x hx;rw [h x (ru.1 hx)];decide
 rw [this];rfl
variable {x:AS}
def arf (hx:sub x p) (h:p9 l p x = true):jc l p = false:=by
 unfold jc
 have:(ge p).any (p9 l p) = true:=by
  rw [bp4];exact ⟨x,ru.2 hx,h⟩
 rw [this];rfl
def b6s:decide (ap .andNot .u32 (ap .andNot .u32 (ap .and .u32 (asI (clo l x)) (asI p)) (asI x)) (asI (lg l p)) = 0) = decide (((clo l x &&& p) &&& ~~~x) &&& ~~~lg l p = 0):=by
 rw [gk,it,it,show (0:Int) = asI 0 from rfl,afb]
def a4l (h:kp l p x = true):p9 l p x = false:=by unfold p9;rw [h];rfl
def a7s (h:ap .andNot .u32 (ap .andNot .u32 (ap .and .u32 (asI (clo l x)) (asI p)) (asI x)) (asI (lg l p)) = 0):p9 l p x = false:=by
 have e:=b6s.symm.trans (decide_eq_true h);unfold p9;rw [decide_eq_false (fun hn=>hn (of_decide_eq_true e))];simp
def b7f (h0:kp l p x = false) (h:¬ ap .andNot .u32 (ap .andNot .u32 (ap .and .u32 (asI (clo l x)) (asI p)) (asI x)) (asI (lg l p)) = 0):p9 l p x = true:=by
 have e:=b6s.symm.trans (decide_eq_false h);unfold p9;rw [h0,decide_eq_true (of_decide_eq_false e)];rfl
def b6o (h:ap .and .u32 (asI (clo l x)) (asI p) = asI p):kp l p x = true:=tu.symm.trans (decide_eq_true h)
def bky (h:¬ ap .and .u32 (asI (clo l x)) (asI p) = asI p):kp l p x = false:=tu.symm.trans (decide_eq_false h)
def al5 {i:Nat} (hi:i < 4294967296) (h:¬ ap .andNot .u32 (i:Int) (asI p) = 0):(decide (sub (BitVec.ofNat 32 i) p) && p9 l p (BitVec.ofNat 32 i)) = false:=by
 rw [decide_eq_false (fun e=>h ((a99 hi).2 e))];rfl
def a4r {b:Bool} (h:p9 l p x = false):(b && p9 l p x) = false:=by rw [h];simp
def b9y {i:Nat} (hi:i = p.toNat + 1) (h:∀ j,j < i -> (decide (sub (BitVec.ofNat 32 j) p) && p9 l p (BitVec.ofNat 32 j)) = false):jc l p = true:=ag4 fun x hx=>by
 have:=h x.toNat (by have:=a2g hx;omega);rw [BitVec.ofNat_toNat,BitVec.setWidth_eq,decide_eq_true hx,bq1] at this;exact this
def b2a (h:∀ j,j < (ge p).length -> p9 l p ((ge p).getD j default) = false):jc l p = true:=ag4 fun x hx=>by
 obtain ⟨j,hj,rfl⟩:=bou (ru.2 hx);have:=h j hj;rwa [bo7,bo6 hj,bp0] at this
def zi (n:Int) (l:List Fd) (p:AS):Int:=if au n l = 0 then (if sub p (a6 n) then 0 else 1) else au n l
def tk (n:Int) (l:List Fd) (p:AS):Bool:=decide (zi n l p = 0) && jc l p
def b6l {n:Int} (h:¬ au n l = 0):zi n l p = au n l /\ tk n l p = false:=by
 have e:zi n l p = au n l:=if_neg h;exact ⟨e,by unfold tk;rw [e,decide_eq_false h];rfl⟩
def b7g {n:Int} (h:au n l = 0) (h2:¬ sub p (a6 n)):zi n l p = 1 /\ tk n l p = false:=by
 have e:zi n l p = 1:=by unfold zi;rw [if_pos h,if_neg h2]
 exact ⟨e,by unfold tk;rw [e];rfl⟩
def a9s {n:Int} (h:au n l = 0) (h2:sub p (a6 n)):zi n l p = 0 /\ tk n l p = jc l p:=by
 have e:zi n l p = 0:=by unfold zi;rw [if_pos h,if_pos h2]
 exact ⟨e,by unfold tk;rw [e];rfl⟩
end
end
section
open Go.Proofs
def bt8 {p:Prop} (h:p:=by first | exact bz (av6 bsq bsr) | exact bz (av9 bsr) | exact bz (aw2 bsq bsr bsr bsr) | exact bz (avr bsr)):p:=h
def b0j (l:List Fd) (p:AS) (hp:p.toNat < 65536):a7 btb 205 [pP (fdl l),pA p] (aa [pA (lg l p)]):=by
 refine hpx (nt:=46) Tryz.func205 ?_;refine t7 ?_;refine bp (ka 0 (ka 1 kn)) km (fun i=>⟨[(5,some (vA (kf l p i))),(6,some (.v (.one (.p (.raw (.int .u32 (i:Int)))))))],[]⟩) (p.toNat + 1) ⟨⟨⟨_,rfl,(bz rfl)⟩,tt⟩,trivial⟩ ?_;rintro i hi;have hsa:asI p = (p.toNat:Int):=rfl;refine w_7 ?_;refine hcd (fun h0=>?_) (fun h0=>?_)
 ·
  refine dl ?_;refine ai rfl rfl (fun r1=>?_) (fun r1=>?_)
  ·
   have h1:=tz2 (ci r1);(iterate 5 refine k9 (gtf r1) ?_);refine w_9 ?_
   exact lpx (i + 1) ⟨⟨⟨_,rfl,bt8⟩,tt⟩,trivial⟩
  have h1:=tz1 (cj r1);(iterate 3 refine qy ?_ (hg:=(gff r1)));refine rc rfl rfl rfl rfl rfl rfl al9 (b4o l (BitVec.ofNat 32 i) p) (⟨CoC.refl _,cci (jn bsq),CoC.refl _,trivial⟩) rfl (gff r1) ?_;refine qy ?_ (hg:=(gff r1))
  refine w_2 ?_;refine am _ rfl (fun r2=>?_) (fun r2=>?_)
  · have h2:=ci (aq r1 r2);refine w_6 ?_;exact lpx (i + 1) ⟨⟨⟨_,rfl,bt8⟩,tt⟩,trivial⟩
  have h2:=cj (aq r1 r2);refine dl ?_;refine bp (ka 0 (ka 1 (ka 5 (ka 6 kn)))) km (fun a=>⟨[(7,some (vB (a1j l p (BitVec.ofNat 32 i) a))),(8,some (vI a))],[]⟩) 32 ⟨⟨⟨_,rfl,(cob rfl)⟩,tt⟩,trivial⟩ ?_;rintro a ha;refine w_6 ?_;refine hcd (fun h3=>?_) (fun h3=>?_)
  ·
   refine w_7 ?_;refine rc rfl rfl rfl rfl rfl rfl a0h (agk (BitVec.ofNat 32 i) a) (⟨cci (jn bsq),CoC.refl _,trivial⟩) rfl rfl ?_;refine qy ?_;refine ai rfl rfl (fun r4=>?_) (fun r4=>?_)
   ·
    have h4:=r4;(iterate 6 refine qy ?_ (hg:=(gtt r4)));refine rc rfl rfl rfl rfl rfl rfl al9 (b4o l (noA (BitVec.ofNat 32 i) a) p) (⟨CoC.refl _,cci (by rw [jn (n:=i) bsq];exact akf _ _ rfl),CoC.refl _,trivial⟩) rfl (gtt r4) ?_;refine w_2 ?_;refine am _ rfl (fun r5=>?_) (fun r5=>?_)
    · have h5:=bq r4 r5;refine w_8 ?_;exact lpx (a + 1) ⟨⟨⟨_,rfl,(cob (by first | exact (alb bsq bsr bsr).symm | exact (ai2 bsq bsr).symm | exact (ai0 bsr).symm))⟩,tt⟩,trivial⟩
    have h5:=bq r4 r5;refine w_6 ?_;exact lpx (a + 1) ⟨⟨⟨_,rfl,(cob (by first | exact (alb bsq bsr bsr).symm | exact (ai2 bsq bsr).symm | exact (ai0 bsr).symm))⟩,tt⟩,trivial⟩
   have h4:=r4;(iterate 7 refine k9 (gft r4) ?_);refine w_9 ?_
   exact lpx (a + 1) ⟨⟨⟨_,rfl,(cob (by first | exact (alb bsq bsr bsr).symm | exact (ai2 bsq bsr).symm | exact (ai0 bsr).symm))⟩,tt⟩,trivial⟩
  obtain rfl:a = 32:=by omega
  refine w_5 ?_;refine hcb (fun h6=>?_) (fun h6=>?_)
  · refine dl ?_;exact lpx (i + 1) ⟨⟨⟨_,rfl,bt8⟩,tt⟩,trivial⟩
  refine w_6 ?_;exact lpx (i + 1) ⟨⟨⟨_,rfl,bt8⟩,tt⟩,trivial⟩
 have hie:i = p.toNat + 1:=by omega
 refine v_6 ?_;exact ⟨cci (congrArg asI (aui hie)),trivial⟩
def b12 (l:List Fd) (p:AS) (hp:p.toNat < 65536):a7 btb 158 [pP (fdl l),pA p] (aa [pB (jc l p)]):=by
 refine hpx (nt:=38) Tryz.func158 ?_;refine w_8 ?_;refine qcx (wgx Tryz.func205) (b0j l p hp) ?_;refine w_8 ?_;refine ah (ι:=Nat) (ka 0 (ka 1 (ka 5 kn))) km (fun i=>⟨[(6,some (.v (.one (.p (.raw (.int .u32 (i:Int)))))))],[]⟩) (fun i=>i <= p.toNat + 1 /\ ∀ j,j < i -> (decide (sub (BitVec.ofNat 32 j) p) && p9 l p (BitVec.ofNat 32 j)) = false) (fun i=>p.toNat + 1 - i) (0) (⟨boe _,c5⟩) kk ?_;rintro i ⟨hi,hI⟩;have hsa:asI p = (p.toNat:Int):=rfl;refine w_7 ?_;refine hcd (fun h0=>?_) (fun h0=>?_)
 ·
  refine d5 ?_;refine ai rfl rfl (fun r1=>?_) (fun r1=>?_)
  ·
   have h1:=tz1 r1;(iterate 3 refine qy ?_ (hg:=(gtt r1)));refine rc rfl rfl rfl rfl rfl rfl al9 (b4o l (BitVec.ofNat 32 i) p) (⟨CoC.refl _,cci (jn bsq),CoC.refl _,trivial⟩) rfl (gtt r1) ?_;refine qy ?_ (hg:=(gtt r1))
   refine w_2 ?_;refine ai rfl rfl (fun r2=>?_) (fun r2=>?_)
   ·
    have h2:=ci (bq r1 r2);(iterate 2 refine qy ?_ (hg:=(gtt r2)));refine rc rfl rfl rfl rfl rfl rfl aa1 (a97 l (BitVec.ofNat 32 i)) (⟨CoC.refl _,cci (jn bsq),trivial⟩) rfl (gtt r2) ?_
    (iterate 7 refine qy ?_ (hg:=(gtt r2)));refine w_2 ?_;refine am _ rfl (fun r3=>?_) (fun r3=>?_)
    · have h3:=tz2 (ci (bq r2 r3));refine v_4 ?_;exact ⟨ccb (arf (x:=BitVec.ofNat 32 i) ((a99 (i:=i) bsq).1 bsr) (b7f bsr (by rw [<- jn (n:=i) bsq];assumption))).symm,trivial⟩
    have h3:=tz1 (cj (bq r2 r3));refine w_6 ?_;refine lpz (i + 1) kk ?_;exact ⟨by show i + 1 <= _;omega,b7 hI (by first | exact al5 bsq bsr | exact a4r (a4l bsr) | exact a4r (a7s (by rw [<- jn (n:=i) bsq];assumption)))⟩
   have h2:=cj (bq r1 r2);(iterate 10 refine k9 (gft r2) ?_);refine w_9 ?_;refine lpz (i + 1) kk ?_
   exact ⟨by show i + 1 <= _;omega,b7 hI (by first | exact al5 bsq bsr | exact a4r (a4l bsr) | exact a4r (a7s (by rw [<- jn (n:=i) bsq];assumption)))⟩
  have h1:=tz2 r1;(iterate 5 refine k9 (gft r1) ?_);refine w_2 ?_;(iterate 10 refine k9 rfl ?_);refine w_9 ?_;refine lpz (i + 1) kk ?_
  exact ⟨by show i + 1 <= _;omega,b7 hI (by first | exact al5 bsq bsr | exact a4r (a4l bsr) | exact a4r (a7s (by rw [<- jn (n:=i) bsq];assumption)))⟩
 have hie:i = p.toNat + 1:=by omega
 refine v_5 ?_;exact ⟨ccb (b9y hie hI).symm,trivial⟩
def be2 (n:Int) (l:List Fd) (p:AS):a7 btb 156 [pI n,pP (fdl l),pA p] (aa [pB (tk n l p),pI (zi n l p)]):=by
 refine hpx (nt:=50) Tryz.func156 ?_;refine d5 ?_;refine qcx xn (a1e n l) ?_;refine w_7 ?_;refine hcn (fun h0=>?_) (fun h0=>?_)
 · refine w_6 ?_;refine hrr ?_;have he:=b6l (p:=p) h0;exact f9 rfl rfl (⟨ccb he.2.symm,cci he.1.symm,trivial⟩)
 refine w_3 ?_;have hv:=f8 h0;have hsh:=avg (s:=p) (n:=n) hv.1 hv.2.1;refine w_6 ?_;refine hcn (fun h1=>?_) (fun h1=>?_)
 · refine w_5 ?_;refine hrr ?_;have he:=b7g h0 (fun e=>h1 (hsh.2 e));exact f9 rfl rfl (⟨ccb he.2.symm,cci he.1.symm,trivial⟩)
 refine w_5 ?_;refine qcx (wgx Tryz.func203) (b8k l p) ?_;refine w_4 ?_;have htl:=aja p;refine w_2 ?_;refine qcx (wgx Tryz.func204) (b1i p) ?_;refine w_4 ?_;refine ah (ι:=Nat) (ka 1 (ka 2 (ka 9 (ka 27 (ka 28 kn))))) km (fun i=>⟨[(29,some (vI i))],[]⟩) (fun i=>i <= (ge p).length /\ (∀ j,j < i -> p9 l p ((ge p).getD j default) = false)) (fun i=>(ge p).length - i) (0) (⟨boe _,c5⟩) kk ?_;rintro i ⟨hi,hI⟩;refine w_5 ?_;refine hcd (fun h2=>?_) (fun h2=>?_)
 ·
  refine kw ?_;refine qcx vr (yr l ((ge p).getD i default)) ?_;refine d5 ?_;refine ai rfl rfl (fun r3=>?_) (fun r3=>?_)
  ·
   have h3:=tz2 (ci r3);(iterate 6 refine qy ?_ (hg:=(gtt r3)));refine w_2 ?_;refine am _ rfl (fun r4=>?_) (fun r4=>?_)
   · have h4:=tz2 (ci (bq r3 r4));refine w_5 ?_;refine hrr ?_;have he:=a9s h0 (hsh.1 h1);have hb:=arf (ru.1 (acz (l:=ge p) (j:=i) bsq)) (b7f (bky h3) h4);exact f9 rfl rfl (⟨ccb (by rw [he.2,hb]),cci he.1.symm,trivial⟩)
   have h4:=tz1 (cj (bq r3 r4));refine w_5 ?_;refine lpz (i + 1) kk ?_;exact ⟨by show i + 1 <= _;omega,b7 hI (by first | exact a4l (b6o h3) | exact a7s h4)⟩
  have h3:=tz1 (cj r3);(iterate 6 refine k9 (gft r3) ?_);refine w_8 ?_;refine lpz (i + 1) kk ?_
  exact ⟨by show i + 1 <= _;omega,b7 hI (by first | exact a4l (b6o h3) | exact a7s h4)⟩
 obtain rfl:i = (ge p).length:=by omega
 refine w_6 ?_;refine hrr ?_;have he:=a9s h0 (hsh.1 h1);have hb:=b2a hI;exact f9 rfl rfl (⟨ccb (by rw [he.2,hb]),cci he.1.symm,trivial⟩)
def b1a (n:Int) (l:List Fd) (p:AS):a7 btb 107 [pI n,pP (fdl l),pA p] (aa [pB (tk n l p),pI (zi n l p)]):=by
 refine hpx (nt:=23) Tryz.func107 ?_;refine d5 ?_;refine qcx (wgx Tryz.func98) (asn n l) ?_;refine w_7 ?_;refine hcn (fun h0=>?_) (fun h0=>?_)
 · refine w_6 ?_;refine hrr ?_;have he:=b6l (p:=p) h0;exact f9 rfl rfl (⟨ccb he.2.symm,cci he.1.symm,trivial⟩)
 refine w_3 ?_;have hv:=f8 h0;have hfn:=beu hv.1 hv.2.1;refine w_3 ?_;refine qcx x4 (w4 n) ?_;refine w_3 ?_;refine hcn (fun h1=>?_) (fun h1=>?_)
 · refine w_5 ?_;refine hrr ?_;have he:=b7g h0 (fun e=>h1 (k6.2 e));exact f9 rfl rfl (⟨ccb he.2.symm,cci he.1.symm,trivial⟩)
 refine w_2 ?_;have hsp:=k6.1 h1;have hpl:=a2g hsp;have hfe:asI (a6 n) = ((a6 n).toNat:Int):=rfl;refine w_3 ?_;refine qcx (wgx Tryz.func158) (b12 l p bsq) ?_;refine w_3 ?_;refine hrr ?_;have he:=a9s h0 hsp;exact f9 rfl rfl (⟨ccb he.2.symm,cci he.1.symm,trivial⟩)
end
section
def a2t {l:List Fd} {i:Nat} {x:Fd} (h:x ∈ dm l i):x ∈ l:=by
 unfold dm at h
 rcases boj.1 h with h | h
 · exact bq8 h
 exact bru h
def vf {x:Fd}:∀ (f:Nat) (l:List Fd) (i:Nat),x ∈ l5 f l i -> x ∈ l
 | 0,l,i,h=>h
 | f + 1,l,i,h=>by
  unfold l5 at h;split at h
  · split at h
    · exact a2t (vf f _ _ h)
    exact vf f _ _ h
  exact h
def bal {n:Int} {l:List Fd} (h:au n l = 0):w8 (a6 n) (nn l):=fun x hx=>by
 have h1:=vf _ _ _ hx;exact atl (bi8 (b2j h)) _ x (lz.1 h1)
section
variable {n:Int} {l:List Fd}
def arz {x:AS} {a:Nat}:sub (noA x a) x:=d6
def bez (n:Int) (l:List Fd) (f:Fd):Bool:=decide (clo l f.lhs ≠ a6 n) && decide (f.rhs &&& ~~~lg l (a6 n) ≠ 0)
def bna (n:Int) (l:List Fd) (i:Nat):List Fd:=((tc n l).take i).filter (bez n l)
def bnc (n:Int) (l:List Fd):List Fd:=(tc n l).filter (bez n l)
def alx (n:Int) (l:List Fd):(tc n l).length <= 2048:=by
 unfold tc;split
 · rename_i h
   have h1:=(f8 h).2.2.1;have h2:=af8 l
   have h3:(nn l).length <= (a1a l).length:=by
    have:∀ (f:Nat) (k:List Fd) (i:Nat),(l5 f k i).length <= k.length:=by
     intro f
     induction f with
     | zero=>intro k i;exact bo9 _
     | succ f ih =>
      intro k i;unfold l5;split
      · rename_i hi
        split
        · exact bon (ih _ _) (by rw [lv hi];omega)
        exact ih _ _
      exact bo9 _
    exact this _ _ _
   omega
 simp
end
end
section
def blw (l:List Fd) (pr k:AS):Bool:=(List.range 32).all fun a=>!k.getLsbD a || decide (sub (clo l (noA k a)) pr)
def bm8 (n:Int) (l:List Fd):Bool:=(b72 n l).all (blw l (orL (b72 n l)))
def bnm (n:Int) (l:List Fd):Bool:=decide (au n l = 0) && bm8 n l
section
variable {l:List Fd} {pr k:AS}
def bnr (l:List Fd) (pr k r:AS):Prop:=sub r k /\ ∀ a,a < 32 -> k.getLsbD a = true -> r.getLsbD a = true \/ sub (clo l (noA k a)) pr
def bnk (l:List Fd) (pr k:AS) (s:Nat):Prop:=∀ j,j < s -> sub (BitVec.ofNat 32 j) k -> sub (clo l (BitVec.ofNat 32 j)) pr
end
section
variable {n:Int} {l:List Fd}
end
end
section
def mgR (l:List Fd) (s:AS):AS:=(l.filter fun f=>decide (f.lhs = s)).foldl (fun a f=>a ||| f.rhs) 0
def mgF (l:List Fd) (s:AS):Fd:=⟨s,mgR l s⟩
def a1q (l:List Fd):List Fd:=(ord (l.map Fd.lhs)).map (mgF l)
def bkg {l:List Fd} {s:AS} {i:Nat} (hi:i < l.length) (h:(l.getD i default).lhs = s):mgR (l.take (i + 1)) s = mgR (l.take i) s ||| (l.getD i default).rhs:=by
 unfold mgR;rw [aw hi,bpr,bpk];simp only [bpp,h,decide_true,if_true,bq9,bq6,List.foldl_nil]
def bjn {l:List Fd} {s:AS} {i:Nat} (hi:i < l.length) (h:¬ (l.getD i default).lhs = s):mgR (l.take (i + 1)) s = mgR (l.take i) s:=by
 unfold mgR;rw [aw hi,bpr,bpk];simp only [bpp,h,decide_false,bpe,if_false,bq9,List.foldl_nil]
def bmn {l:List Fd} {s:AS} {i:Nat} (hi:i < l.length) (h:asI (l.getD i default).lhs = asI s):PV.raw (.int .u32 (ap .or .u32 (asI (mgR (l.take i) s)) (asI (l.getD i default).rhs))) = asC (mgR (l.take (i + 1)) s):=by
 rw [bOr,bkg hi (ck.1 h)];rfl
def b3l (l:List Fd):(a1q l).length <= l.length:=by
 unfold a1q;rw [bp2];exact bon (n3 _) (by rw [bp2];exact bo9 _)
end
section
open Go.Proofs
def yh (t:AS) (l:List Fd):Prop:=∀ x ∈ l,sub x.rhs t
section
variable {l:List Fd} {t:AS}
def b3b {i a:Nat} (h:yh t l):yh t (fv i l a):=by
 unfold fv;split
 · intro x hx
   rcases brx hx with hx | rfl
   · exact h x hx
   by_cases hi:i < l.length
   · exact h (l.getD i default) (by rw [bo7,bo6 hi];exact bp3 hi)
   rw [br1 bsq] at hx;exact h _ hx
 exact h
def aj1 {i:Nat}:∀ (m:List Nat) (l:List Fd),yh t l -> yh t (m.foldl (fv i) l)
 | [],_,h=>h
 | a :: m,l,h=>aj1 m _ (b3b h)
def ali (h:yh t l):∀ i,yh t (jx l i)
 | 0=>h
 | i + 1=>by rw [vw];exact aj1 _ _ (ali h i)
def ba5 (h:yh t l):yh t (spl l):=by
 intro x hx;have hx:=lz.1 hx;unfold gt at hx;obtain ⟨ys,hys,hxy⟩:=bs7.1 hx;obtain ⟨f,hf,rfl⟩:=boo.1 hys;unfold qh at hxy;obtain ⟨a,ha,rfl⟩:=boo.1 hxy;refine ae.2 fun i hi hb=>?_;have h1:((1:AS) <<< a).getLsbD i = decide (i = a):=ey a i hi;rw [show (⟨f.lhs,(1:AS) <<< a⟩:Fd).rhs.getLsbD i = decide (i = a) from h1,decide_eq_true_iff] at hb;subst hb;have hm:=(gi.1 ha).2;rw [boh,boc] at hm;exact ae.1 (h f hf) i hi hm.1
def b3p {n:Int} (h:au n l = 0):yh (a6 n) (nn l):=fun x hx=>by
 have h1:=vf _ _ _ hx;exact ali (ba5 fun f hf=>(ahd h f hf).2) _ x (lz.1 h1)
def al0:∀ (l:List Fd) (s:AS),sub s t -> (∀ f ∈ l,sub f.rhs t) -> sub (l.foldl (fun a f=>a ||| f.rhs) s) t
 | [],s,h,_=>h
 | f :: l,s,h,hl=>al0 l _ (sc h (hl f (bp9 ..))) fun g hg=>hl g (bpg _ hg)
def be6 (h1:w8 t l) (h2:yh t l):∀ f ∈ a1q l,sub f.lhs t /\ sub f.rhs t:=fun f hf=>by
 unfold a1q at hf;obtain ⟨s,hs,rfl⟩:=boo.1 hf;obtain ⟨g,hg,rfl⟩:=boo.1 (gn.1 hs);exact ⟨h1 g hg,al0 _ _ (sub_zero t) fun x hx=>h2 x (bpq.1 hx).1⟩
def ic (n:Int) (l:List Fd):List Fd:=a1q (tc n l)
def aq4 (n:Int) (l:List Fd):(ic n l).length <= 2048:=bon (b3l _) (alx n l)
def pt (f:Fd):AS:=f.lhs ||| f.rhs
end
section
variable {n:Int} {l:List Fd}
def od (n:Int) (l:List Fd) (i:Nat):Bool:=((ic n l).take i).any fun f=>f5 n l (pt f)
def a59 {i:Nat} (hi:i < (ic n l).length):od n l (i + 1) = (od n l i || f5 n l (pt ((ic n l).getD i default))):=by
 unfold od;rw [aw hi,List.any_append];simp
def a2d (h:au n l = 0):f5 n l (a6 n) = true:=decide_eq_true ⟨h,df _,br (ut h (df _)) j9⟩
def bbd (h:au n l = 0):rkE n l (a6 n) = 0:=(aup h (a2d h)).2
def xe (n:Int) (l:List Fd):List AS:=(ic n l).map pt
def auv (n:Int) (l:List Fd):List AS:=ef (if od n l (ic n l).length = true then xe n l else xe n l ++ [rkS n l (a6 n)])
def oz (n:Int) (l:List Fd):List AS:=if au n l = 0 then auv n l else []
def bf4 (h:¬ au n l = 0):oz n l = []:=if_neg h
def a3v (h:au n l = 0):oz n l = auv n l:=if_pos h
def b2u (n:Int) (l:List Fd):(xe n l).length <= 2048:=by unfold xe;rw [bp2];exact aq4 n l
def ai8 (n:Int) (l:List Fd):((ic n l).take (ic n l).length).map pt = xe n l:=by rw [bog];rfl
def ou (n:Int) (l:List Fd):List AS:=if od n l (ic n l).length = true then xe n l else xe n l ++ [rkS n l (a6 n)]
def a3r (h:od n l (ic n l).length = true):ou n l = ((ic n l).take (ic n l).length).map pt:=by rw [ai8];exact if_pos h
def adz (h:od n l (ic n l).length = false):ou n l = ((ic n l).take (ic n l).length).map pt ++ [rkS n l (a6 n)]:=by rw [ai8];exact if_neg (by rw [h];decide)
def b42 (n:Int) (l:List Fd):(ou n l).length <= 4096:=by
 have:=b2u n l;unfold ou;split
 · omega
 rw [bob,bpz];omega
def b77 {i:Nat} (hi:i < (ic n l).length) (h:od n l i = true):true = od n l (i + 1):=by rw [a59 hi,h];rfl
def b7l {i:Nat} (hi:i < (ic n l).length) (h:od n l i = false):f5 n l (pt ((ic n l).getD i default)) = od n l (i + 1):=by rw [a59 hi,h];rfl
def b7b {i:Nat} (hi:i < (ic n l).length):(bif od n l i then true else f5 n l (pt ((ic n l).getD i default))) = od n l (i + 1):=by rw [a59 hi];cases od n l i <;> rfl
end
end
section
open Go.Proofs
def bgc (hM:∀ k:List Fd,k.length <= 16777216 -> a7 btb 135 [pP (fdl k)] (aa [pP (fdl (a1q k))])) (n:Int) (l:List Fd):a7 btb 71 [pI n,pP (fdl l)] (aa [pP (fdl (ic n l)),pI (au n l)]):=by
 refine hpx (nt:=17) Tryz.func71 ?_;refine w_9 ?_;refine qcx (wgx Tryz.func134) (bl5 n l) ?_;refine w_7 ?_;have hml:=alx n l;refine w_2 ?_;refine qcx (wgx Tryz.func135) (hM (tc n l) bsq) ?_;refine v_4 ?_;exact CoL.refl _
def ata (hM:∀ k:List Fd,k.length <= 16777216 -> a7 btb 135 [pP (fdl k)] (aa [pP (fdl (a1q k))])) (n:Int) (l:List Fd):a7 btb 32 [pI n,pP (fdl l)] (aa [pP (asl (oz n l)),pI (au n l)]):=by
 refine hpx (nt:=66) Tryz.func32 ?_;refine w_9 ?_;refine qcx (wgx Tryz.func71) (bgc hM n l) ?_;refine i6 ?_;refine hcn (fun h0=>?_) (fun h0=>?_)
 · refine v_6 ?_;exact ⟨CoC.one (a2s (bf4 h0)),CoC.refl _,trivial⟩
 refine w_2 ?_;have hv:=f8 h0;have hcl:=aq4 n l;have hsl:=b42 n l;refine o8 ?_;refine ct 8 900 true 1 46 (lf sC []) bsu rfl (CoP.sl rfl (.inr rfl) (fun h=>h) (fun i j hi _=>absurd hi (bod i))) (.inr rfl) rfl ?_;refine bp (ka 0 (ka 1 (ka 24 (ka 25 kn)))) km (fun i=>⟨[(8,some (.v (.one (.ref 900 (((ic n l).take i).map pt).length)))),(9,some (vB (od n l i))),(26,some (vI i))],[(900,some (.arr true 1 46 (((ic n l).take i).map pt).length (lf sC (((ic n l).take i).map pt))))]⟩) ((ic n l).length) ⟨⟨zy,⟨_,rfl,(cob rfl)⟩,tt⟩,uu⟩ ?_;rintro i hi;have hlen:(((ic n l).take i).map pt).length <= i:=by rw [bp2,boi];omega
 refine w_5 ?_;refine hcd (fun h1=>?_) (fun h1=>?_)
 ·
  refine w_7 ?_;refine m9 0 ?_;refine o8 ?_;refine m9 1 ?_;refine r9 2 true ?_;refine w_5 ?_;refine ai rfl rfl (fun r2=>?_) (fun r2=>?_)
  ·
   have h2:=r2;(iterate 4 refine k9 (gtf r2) ?_);refine w_7 ?_
   exact lpx (i + 1) ⟨⟨⟨_,rfl,(c8 (wa bsq))⟩,⟨_,rfl,(cob (by first | exact b77 (n:=n) (l:=l) (i:=i) bsq bsr | exact b7l (n:=n) (l:=l) (i:=i) bsq bsr | exact b7b (n:=n) (l:=l) (i:=i) bsq))⟩,tt⟩,⟨⟨_,rfl,(bu (wa bsq) (CoP.of_eq (congrArg (fun z=>PV.raw (.int .u32 z)) (bOr _ _))))⟩,trivial⟩⟩
  have h2:=r2;(iterate 3 refine qy ?_ (hg:=(gff r2)));refine rc rfl rfl rfl rfl rfl rfl aea (akb n l (pt ((ic n l).getD i default))) (⟨CoC.refl _,CoC.refl _,cci (bOr _ _),trivial⟩) rfl (gff r2) ?_;refine w_7 ?_
  exact lpx (i + 1) ⟨⟨⟨_,rfl,(c8 (wa bsq))⟩,⟨_,rfl,(cob (by first | exact b77 (n:=n) (l:=l) (i:=i) bsq bsr | exact b7l (n:=n) (l:=l) (i:=i) bsq bsr | exact b7b (n:=n) (l:=l) (i:=i) bsq))⟩,tt⟩,⟨⟨_,rfl,(bu (wa bsq) (CoP.of_eq (congrArg (fun z=>PV.raw (.int .u32 z)) (bOr _ _))))⟩,trivial⟩⟩
 obtain rfl:i = (ic n l).length:=by omega
 refine dy ?_;refine nc kn km ⟨[(8,some (.v (.one (.ref 900 (ou n l).length))))],[(900,some (.arr true 1 46 (ou n l).length (lf sC (ou n l))))]⟩ ?_ ?_
 ·
  refine w_5 ?_;refine hcv (fun h3=>?_) (fun h3=>?_)
  ·
   refine w_5 ?_;refine qcx (wgx Tryz.func74) (beb n hv.1 hv.2.1) ?_;refine qcx (wgx Tryz.func73) (bc1 n l (a6 n)) ?_;refine i6 ?_;refine hcn (fun h4=>?_) (fun h4=>?_)
   · exfalso;exact h4 (bbd h0)
   refine w_4 ?_;refine m9 3 ?_;refine r9 4 true ?_;refine w_2 ?_;exact ⟨⟨⟨_,rfl,(by first | exact jq (by rw [a3r bsr]) | exact jq (by rw [adz bsr,bob];rfl))⟩,trivial⟩,⟨⟨_,rfl,(by first | exact fw (a3r bsr) (by rw [a3r bsr]) | exact bu (adz bsr) (CoP.refl _))⟩,trivial⟩⟩
  refine dp ?_;exact ⟨⟨⟨_,rfl,(by first | exact jq (by rw [a3r bsr]) | exact jq (by rw [adz bsr,bob];rfl))⟩,trivial⟩,⟨⟨_,rfl,(by first | exact fw (a3r bsr) (by rw [a3r bsr]) | exact bu (adz bsr) (CoP.refl _))⟩,trivial⟩⟩
 refine cw ?_;refine b6 8 rfl rfl rfl ?_;refine w_2 ?_;refine qcx aet (a6i (ou n l) bsq) ?_;refine v_3 ?_;exact ⟨CoC.one (CoP.of_eq (by rw [a3v h0];rfl)),cci h0.symm,trivial⟩
end
section
def Eqv (l k:List Fd):Prop:=∀ s,sx l s <-> sx k s
theorem Eqv.refl (l:List Fd):Eqv l l:=fun s=>Iff.rfl
theorem Eqv.trans {a b c:List Fd} (h:Eqv a b) (k:Eqv b c):Eqv a c:=fun s=>(h s).trans (k s)
section
variable {l:List Fd}
theorem Eqv.clo {k:List Fd} (h:Eqv l k) (s:AS):clo l s = clo k s :=
 br (ku ((h _).2 gu) j9) (ku ((h _).1 gu) j9)
def agn {k:List Fd} (h:∀ f,f ∈ l <-> f ∈ k):Eqv l k:=fun s=>⟨fun hs f hf=>hs f ((h f).2 hf),fun hs f hf=>hs f ((h f).1 hf)⟩
def aiz (l:List Fd):Eqv l (gt l):=fun s=>by
 constructor
 · intro hs g hg hgs
   unfold gt at hg;obtain ⟨ys,hys,hxy⟩:=bs7.1 hg;obtain ⟨f,hf,rfl⟩:=boo.1 hys;unfold qh at hxy;obtain ⟨a,ha,rfl⟩:=boo.1 hxy;have hr:=hs f hf hgs;refine ae.2 fun i hi hb=>?_;have h1:((1:AS) <<< a).getLsbD i = decide (i = a):=ey a i hi;rw [show (⟨f.lhs,(1:AS) <<< a⟩:Fd).rhs.getLsbD i = decide (i = a) from h1,decide_eq_true_iff] at hb;subst hb;have hm:=(gi.1 ha).2;rw [boh,boc] at hm;exact ae.1 hr i hi hm.1
 intro hs f hf hfs;refine ae.2 fun i hi hb=>?_;by_cases hl:f.lhs.getLsbD i = true
 · exact ae.1 hfs i hi hl
 have hg:(⟨f.lhs,(1:AS) <<< i⟩:Fd) ∈ gt l:=by
  unfold gt;refine bs7.2 ⟨qh f,boo.2 ⟨f,hf,rfl⟩, ?_⟩;unfold qh;refine boo.2 ⟨i,gi.2 ⟨hi, ?_⟩,rfl⟩;rw [boh,bp7,decide_eq_true hi,hb]
  cases hq:f.lhs.getLsbD i with
  | true=>exact absurd hq hl
  | false=>rfl
 have h1:((1:AS) <<< i).getLsbD i = decide (i = i):=ey i i hi;exact ae.1 (hs _ hg hfs) i hi (h1.trans (decide_eq_true rfl))
def af1 {f:Fd} (h:imp l f = true) {s:AS} (hs:sx l s) (hf:sub f.lhs s):sub f.rhs s :=
 ak (of_decide_eq_true h) (ku hs hf)
def b84 {i:Nat} {g:Fd} (hg:imp l g = true) (h1:sub g.lhs (l.getD i default).lhs) (h2:g.rhs = (l.getD i default).rhs):Eqv l (l.set i g):=fun s=>by
 constructor
 · intro hs f hf hfs
   rcases brx hf with hf | rfl
   · exact hs f hf hfs
   exact af1 hg hs hfs
 intro hs f hf hfs;obtain ⟨j,hj,rfl⟩:=bou hf;by_cases e:i = j
 · subst e
   have hm:g ∈ l.set i g:=bqq.2 ⟨i,by rw [bqg];exact hj,by simp⟩;rw [bo7,bo6 hj,bp0] at h1 h2;have:=hs g hm (ak h1 hfs);rwa [h2] at this
 have hm:l[j] ∈ l.set i g:=bqq.2 ⟨j,by rw [bqg];exact hj,by rw [List.getElem_set_ne e]⟩;exact hs _ hm hfs
def aoq {i a:Nat}:Eqv l (fv i l a):=by
 unfold fv;split
 · rename_i hc
   rw [boc] at hc;exact b84 hc.2 d6 rfl
 exact Eqv.refl l
def aix {i:Nat}:∀ (m:List Nat) (l:List Fd),Eqv l (m.foldl (fv i) l)
 | [],l=>Eqv.refl l
 | a :: m,l=>aoq.trans (aix m _)
def abu (l:List Fd):∀ i,Eqv l (jx l i)
 | 0=>Eqv.refl l
 | i + 1=>by rw [vw];exact (abu l i).trans (aix _ _)
def awp {i:Nat} (h:uq l i = true):Eqv l (dm l i):=fun s=>by
 constructor
 · intro hs f hf
   exact hs f (a2t hf)
 intro hs f hf hfs;obtain ⟨j,hj,rfl⟩:=bou hf;by_cases e:j = i
 · subst e
   unfold uq at h;rw [bo7,bo6 hj,bp0] at h;exact af1 h hs hfs
 refine hs _ ?_ hfs;unfold dm;rw [boj];by_cases h2:j < i
 · exact .inl (List.mem_take_iff_getElem.2 ⟨j,by omega,rfl⟩)
 exact .inr (brz.2 ⟨j - (i + 1),by omega,by congr 1;omega⟩)
def a86:∀ (f:Nat) (l:List Fd) (i:Nat),Eqv l (l5 f l i)
 | 0,l,i=>Eqv.refl l
 | f + 1,l,i=>by
  unfold l5;split
  · split
    · rename_i h;exact (awp h).trans (a86 f _ _)
    exact a86 f _ _
  exact Eqv.refl l
def bdj (l:List Fd):Eqv l (nn l):=by
 refine Eqv.trans ?_ (a86 _ _ _);unfold a1a;refine Eqv.trans ?_ (agn fun f=>lz.symm);refine Eqv.trans ?_ (abu _ _);unfold spl;exact (aiz l).trans (agn fun f=>lz.symm)
def sh (l:List Fd) (s:AS):clo (nn l) s = clo l s:=((bdj l).clo s).symm
end
end
section
def aa8 (l:List Fd) (ps:List AS) (t:AS):Prop:=∀ p ∈ ps,sub (clo l (t &&& p) &&& p) t
section
variable {l:List Fd}
def b8t {z p:AS}:eu l z p = false <-> sub (clo l (z &&& p) &&& p) z:=by
 unfold eu oj sub;rw [decide_eq_false_iff_not,Decidable.not_not,bse p]
def amt {a b c:AS} (h:sub a b):sub (a &&& c) (b &&& c):=gr (ak d6 h) lu
variable {ps:List AS}
def am9:∀ (n:Nat) (z:AS),4294967296 < n + z.toNat -> aa8 l ps (w5 l ps n z)
 | 0,z,h=>by have:=z.isLt;omega
 | n + 1,z,h=>by
  unfold w5
  cases hf:ps.find? (eu l z) with
  | none =>
   intro p hp;have:=br2.1 hf p hp;exact b8t.1 (by simpa using this)
  | some p =>
   have hm:=List.find?_some hf;have:=ao3 hm;exact am9 n _ bsq
def aua:∀ (n:Nat) (z:AS),sub z (w5 l ps n z)
 | 0,z=>df z
 | n + 1,z=>by
  unfold w5
  cases hf:ps.find? (eu l z) with
  | none=>exact df z
  | some p=>exact ak o5 (aua n _)
def atd {t:AS} (ht:aa8 l ps t):∀ (n:Nat) (z:AS),sub z t -> sub (w5 l ps n z) t
 | 0,z,h=>h
 | n + 1,z,h=>by
  unfold w5
  cases hf:ps.find? (eu l z) with
  | none=>exact h
  | some p =>
   refine atd ht n _ (sc h ?_);have hp:=bry hf;refine ak ?_ (ht p hp);unfold oj;refine ak d6 ?_;rw [bse];exact amt (jv (amt h))
def a5q (l:List Fd) (ps:List AS) (z:AS):aa8 l ps (o0 l ps z):=am9 _ _ (by have:=z.isLt;omega)
def a4o {z:AS}:sub z (o0 l ps z):=aua _ _
def ahm {z t:AS} (ht:aa8 l ps t) (h:sub z t):sub (o0 l ps z) t:=atd ht _ _ h
def bkr (l:List Fd) (s p:AS):AS:=s ||| (clo l (s &&& p) &&& p)
def bn6 (l:List Fd) (ps:List AS) (s:AS):AS:=ps.foldl (bkr l) s
def PrI (l:List Fd) (ps:List AS) (z s:AS):Prop:=sub z s /\ sub s (o0 l ps z)
def ax7 {z:AS}:o0 l ps (o0 l ps z) = o0 l ps z:=br (ahm (a5q l ps z) (df _)) a4o
def azp {a b:AS} (h:sub a b):sub (o0 l ps a) (o0 l ps b):=ahm (a5q l ps b) (ak h a4o)
def al7 {m:List Fd} (h:∀ f ∈ m,py l ps f = true) (s:AS):sub (clo m s) (o0 l ps s):=by
 refine ku (fun f hf hfs=>?_) a4o;have h1:sub f.rhs (o0 l ps f.lhs):=of_decide_eq_true (h f hf);refine ak h1 ?_;have:=azp (l:=l) (ps:=ps) hfs;rw [ax7] at this;exact this
def ajb {m k:List Fd} (h:∀ f ∈ m,py l ps f = true) (he:∀ s,clo k s = clo m s):∀ f ∈ k,py l ps f = true:=fun f hf=>by
 refine decide_eq_true ?_;refine ak ?_ (al7 h f.lhs);rw [<- he];exact gu f hf j9
def abs:ij l ps = true <-> ∀ f ∈ l,py l ps f = true:=by
 unfold ij;rw [bp1];constructor
 · intro h f hf
   obtain ⟨j,hj,rfl⟩:=bou hf;have:=h j (bor.2 hj);rwa [bo7,bo6 hj] at this
 intro h j hj;have hj:=bor.1 hj;rw [bo7,bo6 hj];exact h _ (bp3 hj)
def b43:ij l ps = true <-> ∀ f ∈ nn l,py l ps f = true:=by
 rw [abs];exact ⟨fun h=>ajb h (fun s=>sh l s),fun h=>ajb h (fun s=>(sh l s).symm)⟩
def bns (n:Int) (l:List Fd) (i:Nat):List AS:=((av (a6 n)).take i).filter fun s=>!cr l s
end
end
section
def bn3 (l:List Fd):Prop:=∀ f ∈ l,∀ i,i < 32 -> f.rhs.getLsbD i = true -> f.lhs.getLsbD i = false
section
variable {n:Int} {l:List Fd}
end
end
section
open Go.Proofs
def sq {ps:List AS} {k:AS} (h:k ∈ ps):sub k (orL ps):=ae.2 fun i hi hb=>by
 unfold orL;rw [a0r,bph];exact .inr (bp4.2 ⟨k,h,hb⟩)
section
variable {n:Int} {l:List Fd}
end
end
end Go.Hx

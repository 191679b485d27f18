/- A part of the proof: Cs15 V13 Cs16 V14 Hx24 Cs17 V15 Cs18 V16 Cs19. -/
import Derived.Test.YtkkenjdfbojdlaaGreatDoorGx15
import Derived.Test.YtkkenjdfbojdlaaGreatDoorGx19
set_option linter.all false
set_option maxRecDepth 100000
namespace Go.Hx
section
theorem a3t (a b:Nat):a &&& b = 2 * (a / 2 &&& b / 2) + (a % 2 &&& b % 2):=by
 have h1:=Nat.div_add_mod (a &&& b) 2
 have h2:(a &&& b) % 2 = a % 2 &&& b % 2:=by
  have:=Nat.and_mod_two_pow (a:=a) (b:=b) (n:=1);simpa using this
 rw [Nat.and_div_two,h2] at h1;exact h1.symm
theorem af0 (a b:Nat):(a % 2 &&& b % 2) = if a % 2 = 1 /\ b % 2 = 1 then 1 else 0:=by
 rcases Nat.mod_two_eq_zero_or_one a with h | h <;> rcases Nat.mod_two_eq_zero_or_one b with k | k <;> rw [h,k] <;> rfl
section
variable {x:Nat}
theorem a64 {s:Nat} (h:x &&& s = x):(x / 2 &&& s / 2 = x / 2) /\ (x % 2 = 1 -> s % 2 = 1):=by
 have h1:=a3t x s;rw [h,af0] at h1;split at h1 <;> rename_i hc
 · exact ⟨by omega,fun _=>hc.2⟩
 exact ⟨by omega,fun hx=>by omega⟩
theorem aiu:∀ (x s z:Nat),x &&& s = x -> z &&& s = z -> z < x -> z <= ((x - 1) &&& s):=by
 intro x
 induction x using Nat.strongRecOn with
 | _ x ih =>
  intro s z hx hz hlt;obtain ⟨x1,x2⟩:=a64 hx;obtain ⟨z1,z2⟩:=a64 hz;rw [a3t (x - 1) s,af0]
  rcases Nat.mod_two_eq_zero_or_one x with hb | hb
  · have e1:(x - 1) / 2 = x / 2 - 1:=by omega
    have e2:(x - 1) % 2 = 1:=by omega
    have:=ih (x / 2) bos (s / 2) (z / 2) x1 z1 bos;rw [e1,e2];by_cases hs:s % 2 = 1
    · rw [if_pos ⟨rfl,hs⟩];omega
    rw [if_neg (fun h=>hs h.2)];have:z % 2 = 0:=by omega
    omega
  have e1:(x - 1) / 2 = x / 2:=by omega
  have e2:(x - 1) % 2 = 0:=by omega
  rw [e1,e2,x1,if_neg bos];omega
theorem ao8:∀ (w y s:Nat),y &&& s = y -> s < 2 ^ w -> ((2 ^ w - 1 - y) &&& s) = s - y:=by
 intro w
 induction w with
 | zero=>intro y s h hs;obtain rfl:s = 0:=(by simpa using hs);simp
 | succ w ih =>
  intro y s h hs;obtain ⟨y1,y2⟩:=a64 h;have hle:y <= s:=by rw [<- h];exact bnl
  rw [Nat.pow_succ] at hs ⊢;have hp:=bof w;have:=ih (y / 2) (s / 2) y1 bos;have hle2:y / 2 <= s / 2:=by omega
  rw [a3t,af0,show (2 ^ w * 2 - 1 - y) / 2 = 2 ^ w - 1 - y / 2 by omega,this];split <;> omega
theorem atu {y s:Nat} (h:y &&& s = y):(s - y) &&& s = s - y:=by
 rw [<- ao8 s y s h Nat.lt_two_pow_self,Nat.and_assoc,Nat.and_self]
theorem b6q {w s:Nat} (hx:x &&& s = x) (hs:s < 2 ^ w) (hne:x < s):((2 ^ w + x - s) &&& s) = s - ((s - x - 1) &&& s):=by
 have h1:((s - x - 1) &&& s) &&& s = (s - x - 1) &&& s:=by rw [Nat.and_assoc,Nat.and_self]
 rw [<- ao8 w _ s h1 hs];have hp:=bof w;apply Nat.eq_of_testBit_eq;intro i;have hlt:s - x - 1 < 2 ^ w:=by omega
 have hlt2:((s - x - 1) &&& s) < 2 ^ w:=bny Nat.and_le_left hlt;rw [Nat.testBit_and,Nat.testBit_and,show 2 ^ w + x - s = 2 ^ w - (s - x - 1 + 1) by omega,Nat.testBit_two_pow_sub_succ hlt,show 2 ^ w - 1 - ((s - x - 1) &&& s) = 2 ^ w - (((s - x - 1) &&& s) + 1) by omega,Nat.testBit_two_pow_sub_succ hlt2,Nat.testBit_and];cases s.testBit i <;> simp
theorem aki {w s z:Nat} (hx:x &&& s = x) (hs:s < 2 ^ w) (hz:z &&& s = z) (hlt:x < z):((2 ^ w + x - s) &&& s) <= z /\ x < ((2 ^ w + x - s) &&& s):=by
 have hzs:z <= s:=by rw [<- hz];exact bnl
 rw [b6q hx hs bos];have h1:=aiu (s - x) s (s - z) (atu hx) (atu hz) bos;have h2:((s - x - 1) &&& s) <= s - x - 1:=Nat.and_le_left;omega
variable {s z:AS}
theorem a65:sub z s <-> z.toNat &&& s.toNat = z.toNat:=by
 rw [<- bnk,BitVec.toNat_inj,ai];constructor
 · intro h
   apply bm6;intro k hk;rw [bkz]
   cases hz:z.getLsbD k with
   | false=>rfl
   | true=>rw [h k hk hz];rfl
 intro h i _ hi;rw [<- h,bkz] at hi;simp at hi;exact hi.2
theorem af4 (h:sub z s):bsz z <= bsz s:=by
 unfold bsz;apply List.countP_mono_left;intro i hi hb;exact ai.1 h i (bl0.1 hi) hb
def a04 (s:AS):Nat -> AS -> List AS
 | 0,_=>[]
 | n + 1,x=>x :: if x = 0 then [] else a04 s n ((x - 1) &&& s)
theorem a3p {x:AS} (h:x ≠ 0):(x - 1).toNat = x.toNat - 1:=by
 have h0:x.toNat ≠ 0:=fun e=>h (bln e);have:=x.isLt;rw [BitVec.toNat_sub];show (2 ^ 32 - 1 + x.toNat) % 2 ^ 32 = _;omega
theorem a3r {x:AS}:sub ((x - 1) &&& s) s:=by
 rw [a65,bnk,Nat.and_assoc,Nat.and_self]
theorem py {x:AS} (h:x ≠ 0):((x - 1) &&& s).toNat < x.toNat:=by
 have h0:x.toNat ≠ 0:=fun e=>h (bln e);rw [bnk,a3p h];have:((x.toNat - 1) &&& s.toNat) <= x.toNat - 1:=Nat.and_le_left;omega
theorem aae {x:AS} (hx:sub x s) (hz:sub z s) (h:z.toNat < x.toNat):z.toNat <= ((x - 1) &&& s).toNat:=by
 have h0:x ≠ 0:=fun e=>by subst e;exact absurd h (bkp _)
 rw [bnk,a3p h0];exact aiu _ _ _ (a65.1 hx) (a65.1 hz) h
theorem ama:∀ (n:Nat) (x:AS),sub x s -> x.toNat < n -> ∀ z,z ∈ a04 s n x <-> sub z s /\ z.toNat <= x.toNat
 | 0,x,_,h,z=>absurd h (bkp _)
 | n + 1,x,hx,h,z=>by
  unfold a04;by_cases h0:x = 0
  · rw [if_pos h0,bl3]
    subst h0;constructor
    · rintro rfl;exact ⟨hx,bko _⟩
    rintro ⟨_,h⟩;exact bln (Nat.le_antisymm h (bkl _))
  rw [if_neg h0,bkx,ama n _ a3r (by have:=py (s:=s) h0;omega)];constructor
  · rintro (rfl | ⟨h1,h2⟩)
    · exact ⟨hx,bko _⟩
    have:=py (s:=s) h0;exact ⟨h1,by omega⟩
  rintro ⟨h1,h2⟩;by_cases he:z = x
  · exact .inl he
  have hne:z.toNat ≠ x.toNat:=fun e=>he (bln e);exact .inr ⟨h1,aae hx h1 bos⟩
def xn (s:AS):List AS:=ord (a04 s (s.toNat + 1) s)
theorem sub_self (s:AS):sub s s:=by rw [a65,Nat.and_self]
theorem a0k (h:sub z s):z.toNat <= s.toNat:=by rw [<- a65.1 h];exact bnl
theorem ta:z ∈ xn s <-> sub z s:=by
 unfold xn;rw [n3,ama _ _ (sub_self s) (Nat.lt_succ_self _)];exact ⟨fun h=>h.1,fun h=>⟨h,a0k h⟩⟩
theorem aiq {l:List AS} (ho:qc l) (h:∀ z,z ∈ l <-> sub z s):l = xn s:=qo ho (jb _) fun z=>by rw [h z];exact ta.symm
def ax (s:AS):List AS:=if 12 < bsz s then [] else xn s
theorem a2f (h:(12:Int) < bsz s):ax s = []:=if_pos bos
theorem ad1 (h:¬ (12:Int) < bsz s):ax s = xn s:=if_neg bos
def a6u (s:AS) (y:List AS × AS):Prop:=sub y.2 s /\ y.1.length + y.2.toNat <= s.toNat + 1 /\ ∀ z,z ∈ y.1 <-> sub z s /\ y.2.toNat <= z.toNat
theorem afx (s:AS):a6u s ([s],s):=⟨sub_self s,by simp only [bm7];omega,fun z=>by
 rw [bl3];constructor
 · rintro rfl;exact ⟨sub_self _,bko _⟩
 rintro ⟨h1,h2⟩;exact bln (Nat.le_antisymm (a0k h1) h2)⟩
theorem afq {y:List AS × AS} (h:a6u s y) (h0:y.2 ≠ 0):a6u s (y.1 ++ [(y.2 - 1) &&& s],(y.2 - 1) &&& s):=by
 obtain ⟨h1,h2,h3⟩:=h;have hl:=py (s:=s) h0;refine ⟨a3r,by simp only [bkq,bm7];omega,fun z=>?_⟩;rw [bl4,bl3,h3];constructor
 · rintro (⟨k1,k2⟩ | rfl)
   · exact ⟨k1,by dsimp only;omega⟩
   exact ⟨a3r,bko _⟩
 rintro ⟨k1,k2⟩;dsimp only at k2;by_cases hz:y.2.toNat <= z.toNat
 · exact .inl ⟨k1,hz⟩
 have:=aae h1 k1 bos;exact .inr (bln bos)
theorem ajc {y:List AS × AS} (h:a6u s y) (h0:y.2 = 0):ord y.1 = xn s:=aiq (jb _) fun z=>by
 rw [n3,h.2.2,h0];exact ⟨fun h=>h.1,fun h=>⟨h,bkl _⟩⟩
def nxt (x s:Nat):Nat:=if x = s then s + 1 else ((2 ^ 64 + x - s) &&& s)
def UpI (s:AS) (k:Nat) (y:List AS × Nat):Prop :=
 (y.2 = s.toNat + 1 \/ y.2 &&& s.toNat = y.2) /\ y.1.length <= k * 4294967296 + y.2 /\ qc y.1 /\ ∀ z,z ∈ y.1 <-> sub z s /\ (bsz z < k \/ bsz z = k /\ z.toNat < y.2)
theorem vi {s:Nat} (hs:s < 2 ^ 32) (hx:x &&& s = x):x < nxt x s /\ (nxt x s = s + 1 \/ nxt x s &&& s = nxt x s) /\ ∀ z,z &&& s = z -> x < z -> nxt x s <= z:=by
 have hle:x <= s:=by rw [<- hx];exact bnl
 have hs':s < 2 ^ 64:=Nat.lt_trans hs boz;unfold nxt;by_cases he:x = s
 · rw [if_pos he]
   refine ⟨by omega, .inl rfl,fun z hz hlt=>?_⟩;have:z <= s:=by rw [<- hz];exact bnl
   omega
 rw [if_neg he];refine ⟨(aki hx hs' (Nat.and_self s) bos).2, .inr (by rw [Nat.and_assoc,Nat.and_self]),fun z hz hlt=>(aki hx hs' hz hlt).1⟩
variable {k:Nat} {y:List AS × Nat}
theorem a2q (h:UpI s k y) (hy:y.2 <= s.toNat):y.2 &&& s.toNat = y.2:=by
 rcases h.1 with h | h
 · omega
 exact h
theorem b3v (h:UpI s k y):y.2 <= s.toNat + 1:=by
 rcases h.1 with h | h
 · omega
 have:y.2 <= s.toNat:=by rw [<- h];exact bnl
 omega
theorem att (h:UpI s k y) (hy:y.2 <= s.toNat):(BitVec.ofNat 32 y.2).toNat = y.2:=by
 have:=s.isLt;rw [bog,bni bos]
theorem bb1 (h:UpI s k y) (hy:y.2 <= s.toNat) (hk:bsz (BitVec.ofNat 32 y.2) = k):UpI s k (y.1 ++ [BitVec.ofNat 32 y.2],nxt y.2 s.toNat):=by
 have hn:=att h hy;obtain ⟨s1,s2,s3⟩:=vi s.isLt (a2q h hy);have hsub:sub (BitVec.ofNat 32 y.2) s:=a65.2 (by rw [hn];exact a2q h hy);obtain ⟨h1,h2,h3,h4⟩:=h;refine ⟨s2,by simp only [bkq,bm7];omega, ?_,fun z=>?_⟩
 · refine bnr.2 ⟨h3,List.pairwise_singleton _ _,fun a ha b hb=>?_⟩
   rw [bl3] at hb;subst hb;rw [my];have:=((h4 a).1 ha).2;omega
 rw [bl4,bl3,h4];dsimp only;constructor
 · rintro (⟨k1,k2⟩ | rfl)
   · exact ⟨k1,by omega⟩
   exact ⟨hsub, .inr ⟨hk,by omega⟩⟩
 rintro ⟨k1,k2 | ⟨k2,k3⟩⟩
 · exact .inl ⟨k1, .inl k2⟩
 by_cases hz:z.toNat < y.2
 · exact .inl ⟨k1, .inr ⟨k2,hz⟩⟩
 by_cases hz2:y.2 < z.toNat
 · have:=s3 z.toNat (a65.1 k1) hz2
   omega
 exact .inr (bln bos)
theorem bd7 (h:UpI s k y) (hy:y.2 <= s.toNat) (hk:bsz (BitVec.ofNat 32 y.2) ≠ k):UpI s k (y.1,nxt y.2 s.toNat):=by
 have hn:=att h hy;obtain ⟨s1,s2,s3⟩:=vi s.isLt (a2q h hy);obtain ⟨h1,h2,h3,h4⟩:=h;refine ⟨s2,by dsimp only;omega,h3,fun z=>?_⟩;rw [h4];dsimp only;constructor
 · rintro ⟨k1,k2⟩
   exact ⟨k1,by omega⟩
 rintro ⟨k1,k2 | ⟨k2,k3⟩⟩
 · exact ⟨k1, .inl k2⟩
 by_cases hz:z.toNat < y.2
 · exact ⟨k1, .inr ⟨k2,hz⟩⟩
 by_cases hz2:y.2 < z.toNat
 · have:=s3 z.toNat (a65.1 k1) hz2
   omega
 have e:z = BitVec.ofNat 32 y.2:=bln bos;exact absurd (e ▸ k2) hk
def UpK (s:AS) (k:Nat) (l:List AS):Prop:=l.length <= k * 4294967296 /\ qc l /\ ∀ z,z ∈ l <-> sub z s /\ bsz z < k
theorem azj (s:AS):UpK s 0 []:=by
 refine ⟨?_,List.Pairwise.nil,fun z=>?_⟩
 · show 0 <= _
   exact bkl _
 constructor
 · intro h;cases h
 rintro ⟨_,h⟩;omega
theorem bbf {l:List AS} (h:UpK s k l):UpI s k (l,0):=by
 obtain ⟨h1,h2,h3⟩:=h;unfold UpI;dsimp only;refine ⟨.inr (Nat.zero_and _),bky h1 (Nat.le_add_right _ _),h2,fun z=>?_⟩;rw [h3];constructor
 · rintro ⟨a,b⟩
   exact ⟨a, .inl b⟩
 rintro ⟨a,b | ⟨_,b⟩⟩
 · exact ⟨a,b⟩
 exact absurd b (bkp _)
theorem b9t (h:UpI s k y) (hy:¬ y.2 <= s.toNat):UpK s (k + 1) y.1:=by
 have h0:=b3v h;have:=s.isLt;obtain ⟨h1,h2,h3,h4⟩:=h;refine ⟨by rw [blu];omega,h3,fun z=>?_⟩;rw [h4];constructor
 · rintro ⟨k1,k2⟩
   exact ⟨k1,by omega⟩
 rintro ⟨k1,k2⟩;have:=a0k k1;exact ⟨k1,by omega⟩
theorem b7b {l:List AS} (h:UpK s k l) (hk:bsz s < k):l = xn s:=aiq h.2.1 fun z=>by
 rw [h.2.2];exact ⟨fun h=>h.1,fun h=>⟨h,by have:=af4 h;omega⟩⟩
abbrev pU (n:Nat):PC:=.one (.raw (.int .u64 (n:Int)))
abbrev vU (n:Nat):HR:=bn (.raw (.int .u64 (n:Int)))
theorem akv (n:Int):IntKind.wrap .u64 n = n % 18446744073709551616:=by
 simp [IntKind.wrap,IntKind.signed,IntKind.bits]
theorem bav {s:Nat} (hs:s < 4294967296) (hx:x <= s) (h:¬ (x:Int) = s) {a:Int} (ha:a = IntKind.wrap .u64 ((x:Int) - s) \/ a = (x:Int) - s):aw .and .u64 a s = (nxt x s:Nat):=by
 unfold nxt;rw [if_neg bos];show IntKind.wrap .u64 ((BitVec.ofInt 64 a &&& BitVec.ofInt 64 s).toNat:Int) = _
 have e1:(BitVec.ofInt 64 a).toNat = 2 ^ 64 + x - s:=by
  rw [BitVec.toNat_ofInt]
  rcases ha with rfl | rfl
  · rw [akv]
    omega
  omega
 have e2:(BitVec.ofInt 64 (s:Int)).toNat = s:=by
  rw [BitVec.toNat_ofInt];omega
 have h2:((2 ^ 64 + x - s) &&& s) <= s:=bnl;rw [bnk,e1,e2,akv];omega
theorem bdq {s:Nat} (hs:s < 4294967296) (h:(x:Int) = s):(s:Int) + 1 = (nxt x s:Nat):=by
 unfold nxt;rw [if_pos bos];omega
theorem yu {x:AS} (h:x ≠ 0):aw .and .u32 (asI x - 1) (asI s) = asI ((x - 1) &&& s):=by rw [ak0 h,fj]
theorem yp {α:Type} [Inhabited α] {wr wr':Bool} {e:TypeId} {c:α -> Nat -> PV} {x:α} {f:Nat -> Nat -> PV} (h:CoP (f 0 0) (c x 0)) (hw:wr' = true -> wr = true:=by exact fun h=>h):CoO (.arr wr 1 e 1 f) (.arr wr' 1 e [x].length (lf c [x])) :=
 ⟨hw,rfl,rfl,rfl,fun i j hi hj=>by
  have hi:i < 1:=hi;have hj:j < 1:=hj;obtain rfl:j = 0:=by omega
  obtain rfl:i = 0:=by omega
  exact h⟩
theorem j0 {n:Nat} (h:n < 4294967296):(n:Int) = asI (BitVec.ofNat 32 n):=by
 unfold asI;rw [bog];omega
end
end
section
open Go.Proofs
theorem ao5:goodFn Tryz.prog 173:=wgx Tryz.func173
theorem b3k (x s:Nat) (hs:s < 4294967296) (hx:x <= s):a7 Tryz.prog 173 [pU x,pU s] (ae [pU (nxt x s)]):=by
 refine hpx (nt:=15) Tryz.func173 ?_;refine cu ?_;refine hcd (fun h0=>?_) (fun h0=>?_)
 · refine w_6 ?_;exact hx8 rfl rfl rfl (⟨cci (bdq hs h0),trivial⟩)
 refine w_5 ?_;refine rqw rfl rfl rfl rfl rfl ?_;refine w_4 ?_;exact hx8 rfl rfl rfl (⟨cci (bav hs hx h0 (by first | exact .inl rfl | exact .inr rfl)),trivial⟩)
theorem a80:goodFn Tryz.prog 118:=wgx Tryz.func118
theorem b2q (s:AS):a7 Tryz.prog 118 [pA s] (ae [pP (asl (ax s))]):=by
 refine hpx (nt:=23) Tryz.func118 ?_;refine w_8 ?_;refine qcx ye (a74 s) ?_;refine w_2 ?_;refine hcd (fun h0=>?_) (fun h0=>?_)
 · refine w_4 ?_;exact hx8 rfl rfl rfl (⟨CoC.one (a3q (a2f h0)),trivial⟩)
 refine w_4 ?_;refine m9 0 ?_;refine w_9 ?_;refine a6 (ι:=List AS × AS) ⟨[(0,some _)],[]⟩ ⟨⟨c9,trivial⟩,trivial⟩ (fun y=>⟨[(3,some (.v (.one (.ref 0 y.1.length)))),(4,some (vA y.2))],[(0,some (.arr true 1 46 y.1.length (lf sC y.1)))]⟩) (fun y=>a6u s y) (fun y=>y.2.toNat) (([s],s)) (afx s) ⟨⟨zy,zy,trivial⟩,⟨⟨_,rfl,(yp (CoP.refl _))⟩,trivial⟩⟩ ?_;rintro y hy;have hlen:=hy.2.1;have hsl:=s.isLt;refine w_6 ?_;refine hcn (fun h1=>?_) (fun h1=>?_)
 ·
  have hne:y.2 ≠ 0:=fun e=>h1 (by rw [e];rfl);refine w_5 ?_;refine rq rfl rfl rfl rfl rfl ?_ (hp:=(zc hne));refine w_7 ?_;refine m9 1 ?_;refine r9 2 true ?_;refine w_2 ?_;refine ⟨(y.1 ++ [(y.2 - 1) &&& s],(y.2 - 1) &&& s), ?_, ?_, ?_⟩
  · exact afq hy hne
  · exact py hne
  exact ⟨⟨⟨_,rfl,(c7 rfl)⟩,⟨_,rfl,(bw (yu hne))⟩,c9,trivial⟩,⟨⟨_,rfl,(bz rfl (CoP.of_eq (by rw [yu hne];rfl)))⟩,trivial⟩⟩
 have hz:y.2 = 0:=cg.1 h1;refine w_2 ?_;refine av 3 rfl rfl rfl ?_;refine w_2 ?_;refine qcx xx (a51 y.1 bos) ?_;refine w_2 ?_;exact hx8 rfl rfl rfl (⟨CoC.one (CoP.of_eq (by rw [ad1 h0,ajc hy hz])),trivial⟩)
theorem aov:goodFn Tryz.prog 124:=wgx Tryz.func124
theorem avk (s:AS):a7 Tryz.prog 124 [pA s] (ae [pP (asl (ax s))]):=by
 refine hpx (nt:=34) Tryz.func124 ?_;refine w_8 ?_;refine rc rfl rfl rfl rfl rfl rfl vh (yt _) (⟨cci (by first | rfl | exact j0 bos),trivial⟩) rfl rfl ?_;refine w_2 ?_;refine hcd (fun h0=>?_) (fun h0=>?_)
 · refine w_4 ?_;exact hx8 rfl rfl rfl (⟨CoC.one (a3q (a2f h0)),trivial⟩)
 refine cu ?_;refine cj 3 900 true 1 46 (lf sC []) boz rfl (CoP.sl rfl (.inr rfl) (fun h=>h) (fun i j hi _=>absurd hi (bkp i))) (.inr rfl) rfl ?_;refine a6 (ι:=List AS × Nat) ⟨[(0,some _)],[]⟩ ⟨⟨c9,trivial⟩,trivial⟩ (fun x=>⟨[(3,some (.v (.one (.ref 900 x.1.length)))),(4,some (vI x.2))],[(900,some (.arr true 1 46 x.1.length (lf sC x.1)))]⟩) (fun x=>UpK s x.2 x.1 /\ x.2 <= bsz s + 1) (fun x=>bsz s + 1 - x.2) (([],0)) (⟨azj s,bkl _⟩) ⟨⟨zy,zy,trivial⟩,⟨u9,trivial⟩⟩ ?_;rintro x ⟨hx,hxb⟩;have hlen:=hx.1;have hsl:=s.isLt;have hbz:=aj8 s;refine w_5 ?_;refine rc rfl rfl rfl rfl rfl rfl vh (yt _) (⟨cci (by first | rfl | exact j0 bos),trivial⟩) rfl rfl ?_;refine w_2 ?_;refine hcd (fun h1=>?_) (fun h1=>?_)
 ·
  refine w_8 ?_;refine a6 (ι:=List AS × Nat) ⟨[(0,some _),(4,some _)],[]⟩ ⟨⟨c9,c9,trivial⟩,trivial⟩ (fun y=>⟨[(3,some (.v (.one (.ref 900 y.1.length)))),(5,some (vU y.2))],[(900,some (.arr true 1 46 y.1.length (lf sC y.1)))]⟩) (fun y=>UpI s x.2 y) (fun y=>s.toNat + 1 - y.2) ((x.1,0)) (bbf hx) ⟨⟨zy,zy,trivial⟩,⟨u9,trivial⟩⟩ ?_;rintro y hy;have hlen2:=hy.2.1;have hyl:=b3v hy;have hsa:asI s = (s.toNat:Int):=rfl;refine w_5 ?_;refine qy ?_ (hp:=(by simp only [gr,inR,mb,nb];omega));refine w_2 ?_;refine hcd (fun h2=>?_) (fun h2=>?_)
  ·
   refine w_6 ?_;refine qy ?_ (hp:=(by simp only [gr,inR,mb,nb];omega));refine rc rfl rfl rfl rfl rfl rfl vh (yt _) (⟨cci (by first | rfl | exact j0 bos),trivial⟩) rfl rfl ?_;refine w_3 ?_;refine hcd (fun h3=>?_) (fun h3=>?_)
   ·
    refine w_3 ?_;refine qy ?_ (hp:=(by simp only [gr,inR,mb,nb];omega));refine m9 0 ?_;refine r9 1 true ?_;refine w_5 ?_;refine qy ?_ (hp:=(by simp only [gr,inR,mb,nb];omega));refine rc rfl rfl rfl rfl rfl rfl ao5 (b3k y.2 s.toNat s.isLt bos) (⟨CoC.refl _,cci rfl,trivial⟩) rfl rfl ?_;refine w_2 ?_
    first | (refine ⟨(y.1 ++ [BitVec.ofNat 32 y.2], nxt y.2 s.toNat), ?_, ?_, ?_⟩
             · exact bb1 hy bos bos
             · have:=(vi s.isLt (a2q hy bos)).1
               dsimp only;omega
             exact ⟨⟨⟨_,rfl,(c7 rfl)⟩,zy,c9,c9,trivial⟩,⟨⟨_,rfl,(bz rfl (CoP.of_eq (congrArg (fun z=>PV.raw (.int .u32 z)) (j0 bos))))⟩,trivial⟩⟩)
          | (refine ⟨(y.1,nxt y.2 s.toNat), ?_, ?_, ?_⟩
             · exact bd7 hy bos bos
             · have:=(vi s.isLt (a2q hy bos)).1
               dsimp only;omega
             exact ⟨⟨zy,zy,c9,c9,trivial⟩,⟨u9,trivial⟩⟩)
   refine w_4 ?_;refine qy ?_ (hp:=(by simp only [gr,inR,mb,nb];omega));refine rc rfl rfl rfl rfl rfl rfl ao5 (b3k y.2 s.toNat s.isLt bos) (⟨CoC.refl _,cci rfl,trivial⟩) rfl rfl ?_;refine w_2 ?_
   first | (refine ⟨(y.1 ++ [BitVec.ofNat 32 y.2], nxt y.2 s.toNat), ?_, ?_, ?_⟩
            · exact bb1 hy bos bos
            · have:=(vi s.isLt (a2q hy bos)).1
              dsimp only;omega
            exact ⟨⟨⟨_,rfl,(c7 rfl)⟩,zy,c9,c9,trivial⟩,⟨⟨_,rfl,(bz rfl (CoP.of_eq (congrArg (fun z=>PV.raw (.int .u32 z)) (j0 bos))))⟩,trivial⟩⟩)
         | (refine ⟨(y.1,nxt y.2 s.toNat), ?_, ?_, ?_⟩
            · exact bd7 hy bos bos
            · have:=(vi s.isLt (a2q hy bos)).1
              dsimp only;omega
            exact ⟨⟨zy,zy,c9,c9,trivial⟩,⟨u9,trivial⟩⟩)
  refine w_6 ?_;refine ⟨(y.1,x.2 + 1), ?_, ?_, ?_⟩
  · show UpK s (x.2 + 1) y.1 /\ x.2 + 1 <= _
    exact ⟨b9t (y:=y) hy bos,by omega⟩
  · dsimp only
    omega
  exact ⟨⟨zy,zy,c9,trivial⟩,⟨u9,trivial⟩⟩
 refine w_6 ?_;refine av 2 rfl rfl rfl ?_;exact hx8 rfl rfl rfl (⟨CoC.one (CoP.of_eq (by rw [ad1 h0,b7b hx bos];rfl)),trivial⟩)
end
section
def n4 (l:List Fd) (p x:AS):Bool:=decide (clo l x &&& p ≠ x) && decide (clo l x &&& p ≠ p)
def a6o (l:List Fd) (p:AS):Option AS:=(ax p).find? (n4 l p)
def asb (l:List Fd) (p x:AS):Fd:=⟨x,(clo l x &&& p) &&& ~~~x⟩
def ky (l:List Fd) (p:AS):Fd:=match a6o l p with
 | some x=>asb l p x
 | none=>⟨0,0⟩
def dm (l:List Fd) (p:AS):Bool:=(a6o l p).isSome
theorem abr {α:Type} [Inhabited α] {q:α -> Bool} {l:List α} {i:Nat} (hi:i < l.length) (hI:∀ j,j < i -> q (l.getD j default) = false) (h:q (l.getD i default) = true):l.find? q = some (l.getD i default):=by
 rw [List.find?_eq_some_iff_getElem];refine ⟨h,i,hi,by simp [List.getD,hi],fun j hj=>?_⟩;have:=hI j hj;rw [bkk,bkj bos,bli] at this;simp [this]
theorem ahx {α:Type} [Inhabited α] {q:α -> Bool} {l:List α} (hI:∀ j,j < l.length -> q (l.getD j default) = false):l.find? q = none:=by
 rw [bnx];intro x hx;obtain ⟨j,hj,rfl⟩:=bla hx;have:=hI j hj;rw [bkk,bkj hj,bli] at this;simp [this]
section
variable {l:List Fd} {p:AS}
theorem als {i:Nat} (hi:i < (ax p).length) (hI:∀ j,j < i -> n4 l p ((ax p).getD j default) = false) (h:n4 l p ((ax p).getD i default) = true):ky l p = asb l p ((ax p).getD i default) /\ dm l p = true:=by
 have e:a6o l p = some ((ax p).getD i default):=abr hi hI h;unfold ky dm;rw [e];exact ⟨rfl,rfl⟩
theorem ala (hI:∀ j,j < (ax p).length -> n4 l p ((ax p).getD j default) = false):ky l p = ⟨0,0⟩ /\ dm l p = false:=by
 have e:a6o l p = none:=ahx hI;unfold ky dm;rw [e];exact ⟨rfl,rfl⟩
theorem ab5 {x:AS} (h:aw .and .u32 (asI (clo l x)) (asI p) = asI x):n4 l p x = false:=by
 rw [fj,cg] at h;unfold n4;simp [h]
theorem aar {x:AS} (h:aw .and .u32 (asI (clo l x)) (asI p) = asI p):n4 l p x = false:=by
 rw [fj,cg] at h;unfold n4;simp [h]
theorem aaw {x:AS} (h:¬ aw .and .u32 (asI (clo l x)) (asI p) = asI x) (k:¬ aw .and .u32 (asI (clo l x)) (asI p) = asI p):n4 l p x = true:=by
 rw [fj,cg] at h k;unfold n4;simp [h,k]
theorem ap9 {i:Nat} {a b:PV} (hi:i < (ax p).length) (hI:∀ j,j < i -> n4 l p ((ax p).getD j default) = false) (h:n4 l p ((ax p).getD i default) = true) (ha:a = asC ((ax p).getD i default)) (hb:b = .raw (.int .u32 (aw .andNot .u32 (aw .and .u32 (asI (clo l ((ax p).getD i default))) (asI p)) (asI ((ax p).getD i default))))):CoC (.agg [a,b]) (ky l p).pc :=
 CoC.of_eq (by rw [(als hi hI h).1,ha,hb,fj,go];rfl)
theorem aja (hI:∀ j,j < (ax p).length -> n4 l p ((ax p).getD j default) = false):CoC (.agg [kp (.int .u32 0),kp (.int .u32 0)]) (ky l p).pc:=CoC.of_eq (by rw [(ala hI).1];rfl)
theorem a52 {s:AS}:∀ (n:Nat) (x:AS),(a04 s n x).length <= x.toNat + 1
 | 0,x=>bkl _
 | n + 1,x=>by
  unfold a04;by_cases h0:x = 0
  · rw [if_pos h0];simp
  rw [if_neg h0,blf];have h1:=a52 (s:=s) n ((x - 1) &&& s);have h2:=py (s:=s) h0;omega
theorem t7 (s:AS):(ax s).length <= 4294967296:=by
 unfold ax xn;have h1:=a52 (s:=s) (s.toNat + 1) s;have h2:=ln (a04 s (s.toNat + 1) s);have h3:=s.isLt;split
 · simp
 omega
end
end
section
open Go.Proofs
theorem aho:goodFn Tryz.prog 78:=wgx Tryz.func78
theorem as6 (l:List Fd) (p:AS):a7 Tryz.prog 78 [pP (fdl l),pA p] (ae [(ky l p).pc,pB (dm l p)]):=by
 refine hpx (nt:=36) Tryz.func78 ?_;refine sx7 ?_;refine m9 0 ?_;refine w_6 ?_;refine qcx a80 (b2q p) ?_;refine w_4 ?_;refine a6 (ι:=Nat) ⟨[(0,some _),(1,some _),(4,some _),(10,some _),(11,some _)],[(0,some _)]⟩ ⟨⟨c9,c9,c9,c9,c9,trivial⟩,⟨u9,trivial⟩⟩ (fun i=>⟨[(12,some (vI i))],[]⟩) (fun i=>i <= (ax p).length /\ (∀ j,j < i -> n4 l p ((ax p).getD j default) = false)) (fun i=>(ax p).length - i) (0) (⟨bkl _,bq⟩) ⟨⟨zy,trivial⟩,trivial⟩ ?_;rintro i ⟨hi,hI⟩;have hlen:=t7 p;refine w_5 ?_;refine hcd (fun h0=>?_) (fun h0=>?_)
 ·
  refine ik ?_;refine qcx t6 (x6 l ((ax p).getD i default)) ?_;refine ce ?_;refine am rfl rfl (fun r1=>?_) (fun r1=>?_)
  ·
   have h1:=tz2 (d6 r1);(iterate 3 refine qy ?_ (hg:=(gtt r1)));refine w_2 ?_;refine a8 _ rfl (fun r2=>?_) (fun r2=>?_)
   · have h2:=tz2 (d6 (bp r1 r2));refine ce ?_;exact hx8 rfl rfl rfl (⟨ap9 (i:=i) bos hI (aaw h1 h2) rfl rfl,ccb (als (i:=i) bos hI (aaw h1 h2)).2.symm,trivial⟩)
   have h2:=tz1 (d5 (bp r1 r2));refine w_5 ?_;refine lpz (i + 1) ⟨⟨zy,c9,c9,c9,c9,c9,trivial⟩,⟨u9,trivial⟩⟩ ?_;exact ⟨by show i + 1 <= _;omega,az hI (by first | exact ab5 h1 | exact aar h2)⟩
  have h1:=tz1 (d5 r1);(iterate 3 refine k9 (gft r1) ?_);refine rq rfl rfl rfl rfl rfl ?_ (hp:=r1);refine aq ?_;refine a8 _ rfl (fun e=>by cases e) (fun _=>?_);refine w_5 ?_
  refine lpz (i + 1) ⟨⟨zy,c9,c9,c9,c9,c9,trivial⟩,⟨u9,trivial⟩⟩ ?_;exact ⟨by show i + 1 <= _;omega,az hI (by first | exact ab5 h1 | exact aar h2)⟩
 refine w_7 ?_;exact hx8 rfl rfl rfl (⟨aja (fun j hj=>hI j bos),ccb (ala (fun j hj=>hI j bos)).2.symm,trivial⟩)
theorem ba0:goodFn Tryz.prog 145:=wgx Tryz.func145
theorem bbt (l:List Fd) (p:AS):a7 Tryz.prog 145 [pP (fdl l),pA p] (ae [(ky l p).pc,pB (dm l p)]):=by
 refine hpx (nt:=48) Tryz.func145 ?_;refine sx7 ?_;refine m9 0 ?_;refine w_5 ?_;refine qcx aov (avk p) ?_;refine w_8 ?_;refine a6 (ι:=Nat) ⟨[(0,some _),(1,some _),(4,some _),(6,some _)],[(0,some _)]⟩ ⟨⟨c9,c9,c9,c9,trivial⟩,⟨u9,trivial⟩⟩ (fun i=>⟨[(7,some (vI i))],[]⟩) (fun i=>i <= (ax p).length /\ (∀ j,j < i -> n4 l p ((ax p).getD j default) = false)) (fun i=>(ax p).length - i) (0) (⟨bkl _,bq⟩) ⟨⟨zy,trivial⟩,trivial⟩ ?_;rintro i ⟨hi,hI⟩;have hlen:=t7 p;refine w_8 ?_;refine hcd (fun h0=>?_) (fun h0=>?_)
 ·
  refine ce ?_;refine qcx a8a (a7z l ((ax p).getD i default)) ?_;refine ik ?_;refine am rfl rfl (fun r1=>?_) (fun r1=>?_)
  ·
   have h1:=tz2 (d6 r1);(iterate 3 refine qy ?_ (hg:=(gtt r1)));refine w_2 ?_;refine a8 _ rfl (fun r2=>?_) (fun r2=>?_)
   · have h2:=tz2 (d6 (bp r1 r2));refine xa ?_;exact hx8 rfl rfl rfl (⟨ap9 (i:=i) bos hI (aaw h1 h2) rfl rfl,ccb (als (i:=i) bos hI (aaw h1 h2)).2.symm,trivial⟩)
   have h2:=tz1 (d5 (bp r1 r2));refine w_6 ?_;refine lpz (i + 1) ⟨⟨zy,c9,c9,c9,c9,trivial⟩,⟨u9,trivial⟩⟩ ?_;exact ⟨by show i + 1 <= _;omega,az hI (by first | exact ab5 h1 | exact aar h2)⟩
  have h1:=tz1 (d5 r1);(iterate 3 refine k9 (gft r1) ?_);refine rq rfl rfl rfl rfl rfl ?_ (hp:=r1);refine aq ?_;refine a8 _ rfl (fun e=>by cases e) (fun _=>?_);refine w_6 ?_
  refine lpz (i + 1) ⟨⟨zy,c9,c9,c9,c9,trivial⟩,⟨u9,trivial⟩⟩ ?_;exact ⟨by show i + 1 <= _;omega,az hI (by first | exact ab5 h1 | exact aar h2)⟩
 refine w_7 ?_;exact hx8 rfl rfl rfl (⟨aja (fun j hj=>hI j bos),ccb (ala (fun j hj=>hI j bos)).2.symm,trivial⟩)
theorem b5q:goodFn Tryz.prog 108:=wgx Tryz.func108
theorem bcu (l:List Fd) (p:AS):a7 Tryz.prog 108 [pP (fdl l),pA p] (ae [pB (!dm l p)]):=by
 refine hpx (nt:=15) Tryz.func108 ?_;refine w_8 ?_;refine qcx ba0 (bbt l p) ?_;refine w_3 ?_;refine m9 0 ?_;refine w_9 ?_;exact hx8 rfl rfl rfl (CoL.refl _)
end
section
open Go.RowKit
section
variable {w0:World} {nt:Nat} {c:Ctx} {s:S} {a:Act} {w:World}
theorem ak.short (h:ak w0 nt c s a w) {id id' sz n m:Nat} {el:TypeId} {f:Nat -> Nat -> PV} (ho:s.o id = some (.arr true sz el n f)) (hm:m <= n) (hnm:NM s id') (hno:s.o id' = none) {u:Value} (hu:bi c s.o (.win id n 0 m) u) :
 ∃ c',c'.old = c.old /\ ak w0 nt c' ((s.setO id none).setO id' (some (.arr true sz el m f))) a w /\ ap c' ((s.setO id none).setO id' (some (.arr true sz el m f))).o (.v (.one (.ref id' m))) u:=by
 have hne:id ≠ id':=fun e=>by rw [<- e,ho] at hno;cases hno
 obtain ⟨ad,ad',cap,q1,q2,q3,q4,q5,q6⟩:=yf hu ho rfl;obtain ⟨h0,h1,h5⟩:=h.objs id _ ho
 have hold:∀ k ob,((s.setO id none).setO id' (some (.arr true sz el m f))).o k = some ob -> k ≠ id' -> s.o k = some ob /\ k ≠ id:=fun k ob hk hk'=>by
  simp only [S.setO,if_neg hk'] at hk;by_cases hki:k = id
  · subst hki;simp at hk
  rw [if_neg hki] at hk;exact ⟨hk,hki⟩
 obtain ⟨bk,hbk,hok⟩:∃ bk:Nat -> Prop,(∀ b,bk b -> c.blk id b) /\ ∀ c':Ctx,c'.imm = c.imm -> c'.own id' = u -> c'.blk id' = bk -> ∀ o':b6,ep 0 c' o' w id' (.arr true sz el m f):=by
  rcases h5 with ⟨h6,xs,h2,h4⟩ | ⟨h6 | h6,h7,h8⟩
  · obtain ⟨hxl,hrow⟩:=h2
    rcases hrow with ⟨hv0,hz⟩ | ⟨g,cap',cur,hown,hbase,hheap,hnc,hcm,hcs,htake⟩
    · rw [hv0] at q1
      simp only [Value.slice.injEq] at q1;obtain ⟨rfl,_,rfl⟩:=q1;obtain rfl:n = 0:=by omega
      obtain rfl:m = 0:=by omega
      refine ⟨noB,fun b hb=>hb.elim,fun c' e1 e2 e3 o'=>⟨h0,bkl _, .inr ⟨.inr rfl,e3, ?_⟩⟩⟩;rw [e2,q2];exact ⟨ad',0,rfl,bko _,bkl _,fun _=>rfl,fun h=>absurd h (bo1 0)⟩
    rw [hown] at q1;simp only [Value.slice.injEq,true_and] at q1;obtain ⟨rfl,rfl⟩:=q1;by_cases hcap:cap' = 0
    · subst hcap
      obtain rfl:m = 0:=by omega
      refine ⟨noB,fun b hb=>hb.elim,fun c' e1 e2 e3 o'=>⟨h0,bkl _, .inr ⟨.inr rfl,e3, ?_⟩⟩⟩;rw [e2,q2];exact ⟨ad',0,rfl,bko _,bkl _,fun _=>rfl,fun h=>absurd h (bo1 0)⟩
    obtain rfl:=q6 bos;simp only [bl8,dj,Nat.zero_mul,bn4,bo8] at q2;have hmul:m * sz <= n * sz:=bl1 _ hm;refine ⟨j2 u,fun b hb=>by rw [h6,hown];rw [q2] at hb;exact hb,fun c' e1 e2 e3 o'=>⟨h0,bky hm h1, .inl ⟨by rw [e2,e3],xs.take (m * sz),⟨by rw [bku,hxl,bmn hmul], .inr ⟨g,cap',cur,by rw [e2,q2],hbase,hheap,by omega,hcm,hcs, ?_⟩⟩,fun i j hi hj=>?_⟩⟩⟩
    · rw [<- htake,List.take_take,bmn hmul]
    obtain ⟨x,hx,hr⟩:=h4 i j bos hj;refine ⟨x, ?_,by rw [e1];exact hr⟩;rw [blp,if_pos (a1q hi hj)];exact hx
  · cases h6
  subst h6;obtain rfl:m = 0:=by omega
  refine ⟨noB,fun b hb=>hb.elim,fun c' e1 e2 e3 o'=>⟨h0,bkl _, .inr ⟨.inr rfl,e3, ?_⟩⟩⟩;obtain ⟨ad2,cap2,r1,r2,r3,r4,_⟩:=h8;rw [q1] at r1;simp only [Value.slice.injEq,true_and] at r1;obtain ⟨rfl,rfl⟩:=r1;obtain rfl:cap = 0:=r4 rfl;rw [e2,q2];exact ⟨ad',0,rfl,bko _,bkl _,fun _=>rfl,fun h=>absurd h (bo1 0)⟩
 have hevo:∀ k,k ≠ id' -> Evo c s.o { c with own:=fun k=>if k = id' then u else c.own k,blk:=fun k=>if k = id' then bk else c.blk k } ((s.setO id none).setO id' (some (.arr true sz el m f))).o k:=fun k hk=>by
  by_cases hki:k = id
  · subst hki
    exact .inl (by simp [S.setO,hk])
  exact Evo.of_same (by simp [S.setO,hk,hki]) (by simp [hk])
 refine ⟨{ c with own:=fun k=>if k = id' then u else c.own k,blk:=fun k=>if k = id' then bk else c.blk k },rfl,⟨h.defers,h.size,h.below,fun d x hx=>?_,fun k ob hk=>?_,fun i i' obi obi' b hi hi' hb hb'=>?_,h.imm,fun k ob b hk hb=>?_,h.was,h.frm,fun k ob b hk hb=>?_,fun k hk=>?_⟩, ?_⟩
 · exact (h.tmps d x hx).evo (Imm.le.refl c.imm) fun k hkm=>hevo k (by rintro rfl;exact hnm.1 d x hx hkm)
 · by_cases hk':k = id'
   · subst hk'
     obtain rfl:ob = .arr true sz el m f:=by simpa [S.setO] using hk.symm
     refine hok _ ?_ ?_ ?_ _ <;> first | rfl | exact if_pos rfl
   obtain ⟨hk1,hk2⟩:=hold k ob hk hk';exact (h.objs k ob hk1).keep (Imm.le.refl c.imm) (by simp [hk']) (by simp [hk']) (fun j hj=>hevo j (by rintro rfl;exact hnm.2.1 k ob hk1 hj)) fun b _=>rfl
 · have hone:∀ k ob b,k ≠ id' -> ((s.setO id none).setO id' (some (.arr true sz el m f))).o k = some ob -> c.blk k b -> bk b -> False:=fun k ob b hk' hk hb hbb=>by
    obtain ⟨hk1,hk2⟩:=hold k ob hk hk';exact hk2 (h.inj k id ob _ b hk1 ho hb (hbk b hbb))
   by_cases e1:i = id'
   · by_cases e2:i' = id'
     · rw [e1,e2]
     exact (hone i' obi' b e2 hi' (by simpa [e2] using hb') (by simpa [e1] using hb)).elim
   by_cases e2:i' = id'
   · exact (hone i obi b e1 hi (by simpa [e1] using hb) (by simpa [e2] using hb')).elim
   exact h.inj i i' obi obi' b (hold i obi hi e1).1 (hold i' obi' hi' e2).1 (by simpa [e1] using hb) (by simpa [e2] using hb')
 · by_cases hk':k = id'
   · exact h.sep id _ b ho (hbk b (by simpa [hk'] using hb))
   exact h.sep k ob b (hold k ob hk hk').1 (by simpa [hk'] using hb)
 · by_cases hk':k = id'
   · exact h.fsep id _ b ho (hbk b (by simpa [hk'] using hb))
   exact h.fsep k ob b (hold k ob hk hk').1 (by simpa [hk'] using hb)
 · exact (h.fixed k hk).trans (hevo k (by have:=hnm.2.2;omega))
 refine ⟨hu.1,fun l=>by simp [S.setO],fun ob2 s2 e2 n2 ho2 hd2=>?_⟩;simp only [S.setO,if_true,bki] at ho2;subst ho2;simp only [af.dim,bki,bkr] at hd2;obtain ⟨rfl,rfl,rfl⟩:=hd2;exact ⟨bko _,fun _=>by simp⟩
end
section
variable {ro:Option Nat} {P:Program} {nt:Nat} {st:HSt} {Q:Exit -> HSt -> Prop}
theorem am5 {c:Code} (d id2:Nat) {id n n' i m s:Nat} {e:TypeId} {f:Nat -> Nat -> PV} (hd:bh st.t d = some (.v (.one (.win id n i m)))) (ho:bh st.o id = some (.arr true s e n' f)) (hn:n' = n) (hi:i = 0) (hm:m <= n) (hnew:sb id2 st = true)
 (h:HW (ro:=ro) P nt c ⟨(d,some (.v (.one (.ref id2 m)))) :: st.t,(id2,some (.arr true s e m f)) :: (id,none) :: st.o⟩ Q):HW (ro:=ro) P nt c st Q:=by
 subst hn hi;obtain ⟨hnm,hno⟩:=lv hnew;refine wq ⟨st.t,(id2,some (.arr true s e m f)) :: (id,none) :: st.o⟩ d (.v (.one (.ref id2 m))) (fun w0 m0 a w hr=>?_) h;obtain ⟨cc,hold,hrr⟩:=hr;obtain ⟨c',e1,e2,e3⟩:=hrr.short ho hm hnm hno (hrr.tmps d _ hd)
 have e4:(HSt.den ⟨st.t,(id2,some (.arr true s e m f)) :: (id,none) :: st.o⟩) = (st.den.setO id none).setO id2 (some (.arr true s e m f)):=by
  unfold HSt.den S.setO;simp [br]
 exact ⟨c',e1.trans hold,by rw [e4];exact e2,by rw [e4];exact e3⟩
theorem wv {c:Code} (d id2:Nat) {id n n' s:Nat} {e:TypeId} {f:Nat -> Nat -> PV} (hd:bh st.t d = some (.v (.one (.ref id n)))) (ho:bh st.o id = some (.arr true s e n' f)) (hn:n' = n) (hnew:sb id2 st = true)
 (h:HW (ro:=ro) P nt c ⟨(d,some (.v (.one (.ref id2 n)))) :: st.t,(id2,some (.arr true s e n f)) :: (id,none) :: st.o⟩ Q):HW (ro:=ro) P nt c st Q:=by
 subst hn;obtain ⟨hnm,hno⟩:=lv hnew;refine wq ⟨st.t,(id2,some (.arr true s e n' f)) :: (id,none) :: st.o⟩ d (.v (.one (.ref id2 n'))) (fun w0 m0 a w hr=>?_) h;obtain ⟨cc,hold,hrr⟩:=hr;have hu:bi cc st.den.o (.ref id n') (a.tmps.getD d undef):=hrr.tmps d _ hd
 have hw:bi cc st.den.o (.win id n' 0 n') (a.tmps.getD d undef):=by
  refine ⟨hu.1,hu.2.1,fun ob s2 e2 n2 ho2 hd2=>⟨(hu.2.2 _ _ _ _ ho2 hd2).1,fun hk=>?_⟩⟩;have he:=(hu.2.2 _ _ _ _ ho2 hd2).2 hk;obtain rfl:ob = .arr true s e n' f:=Option.some.inj (ho2.symm.trans ho);simp only [af.dim,bki,bkr] at hd2;obtain ⟨rfl,rfl,rfl⟩:=hd2;obtain ⟨ad,cap,hv,hc1,hc2⟩:=y6 (hrr.objs _ _ ho2);exact ⟨ad,ad,cap,hv,by rw [he,hv];rfl,by omega,hc1,hc2,fun _=>by cases ad <;> simp [nu]⟩
 obtain ⟨c',e1,e2,e3⟩:=hrr.short ho (bko _) hnm hno hw
 have e4:(HSt.den ⟨st.t,(id2,some (.arr true s e n' f)) :: (id,none) :: st.o⟩) = (st.den.setO id none).setO id2 (some (.arr true s e n' f)):=by
  unfold HSt.den S.setO;simp [br]
 exact ⟨c',e1.trans hold,by rw [e4];exact e2,by rw [e4];exact e3⟩
end
end
section
theorem aix {l:List AS} {k:Nat} (hk:l.length <= k) (h:∀ j,0 < j -> j < k -> ¬ l.getD j default = l.getD (j - 1) default):j3 l = l:=by
 have:=vo (bko l.length) fun j h1 h2=>h j h1 bos;rw [bks] at this;exact this
theorem afi {l m:List AS} {k p q:Nat} (hC:CpI l k p q m) (hq:¬ q < l.length):(j3 l).length = p /\ m.take p = j3 l:=by
 have e:=hC.pre;have h1:=hC.ql;have h2:=hC.len;have h3:=hC.pq;rw [show q = l.length by omega,bks] at e;exact ⟨by rw [<- e];simp;omega,e⟩
theorem b9c {l m:List AS} {k p q n a d:Nat} {z:List Value} {e:TypeId} (hC:CpI l k p q m) (hq:¬ q < l.length) (ha:p <= a) (hn:n = p):CoO (.arr true 1 e n (o6 (lf sC m) a d z)) (.arr true 1 e (j3 l).length (lf sC (j3 l))):=by
 obtain ⟨h1,h2⟩:=afi hC hq;subst hn;refine ⟨fun h=>h,rfl,rfl,h1,fun i j hi hj=>CoP.of_eq ?_⟩;show o6 (lf sC m) a d z i j = lf sC (j3 l) i j;unfold o6;rw [if_neg bos];simp only [lf,List.getD];have e:(j3 l)[i]? = m[i]?:=by rw [<- h2,blp,if_pos hi]
 rw [e]
theorem kn {id n m:Nat} (h:n = m):CoR (.v (.one (.ref id n))) (.v (.one (.ref id m))):=by rw [h];exact CoR.refl _
end
section
open Go.Proofs
theorem avb (l:List AS):da Tryz.prog 216 [.one (.ref 900 l.length)] [(900, .arr true 1 46 l.length (lf sC l))] (.v (.one (.ref 901 (j3 l).length))) [(901, .arr true 1 46 (j3 l).length (lf sC (j3 l)))] []:=by
 refine hfx (nt:=61) Tryz.func216 ?_;refine cq ?_;refine abc 900 rfl fun hlen=>?_;refine ce ?_;refine hcd (fun h0=>?_) (fun h0=>?_)
 · refine w_5 ?_;refine wv 2 901 rfl rfl rfl rfl ?_;refine jn ?_;refine ⟨.inr rfl, ?_⟩;have he:=aix (l:=l) (k:=l.length) (bko _) (fun j h1 h2=>by omega);exact ⟨_,_,rfl,bou,kn (by rw [he]),⟨⟨_,rfl,f5 he (by rw [he])⟩,trivial⟩⟩
 refine w_7 ?_;refine a6 (ι:=Nat) ⟨[(0,some _)],[(900,some _)]⟩ ⟨⟨c9,trivial⟩,⟨u9,trivial⟩⟩ (fun k=>⟨[(3,some (vI k))],[]⟩) (fun k=>1 <= k /\ k <= l.length /\ ∀ j,0 < j -> j < k -> ¬ l.getD j default = l.getD (j - 1) default) (fun k=>l.length - k) (1) (⟨bko _,by omega,fun j h1 h2=>by omega⟩) ⟨⟨zy,trivial⟩,trivial⟩ ?_;rintro k ⟨hk1,hk,hI⟩;refine w_8 ?_;refine hcd (fun h1=>?_) (fun h1=>?_)
 ·
  refine xa ?_;refine hcd (fun h2=>?_) (fun h2=>?_)
  ·
   refine ik ?_;refine a6 (ι:=Nat × Nat × List AS) ⟨[(0,some _),(4,some _)],[]⟩ ⟨⟨c9,c9,trivial⟩,trivial⟩ (fun x=>⟨[(3,some (vI x.1)),(5,some (vI ((x.2.1:Int) - k)))],[(900,some (.arr true 1 46 l.length (lf sC x.2.2)))]⟩) (fun x=>CpI l k x.1 x.2.1 x.2.2) (fun x=>l.length - x.2.1) ((k,k + 1,l)) (CpI.start hk1 bos hI (yd bot rfl bos)) ⟨⟨zy,⟨_,rfl,(coi bov)⟩,trivial⟩,⟨u9,trivial⟩⟩ ?_;rintro ⟨p,q,m⟩ hC;have hC0:=hC;obtain ⟨hml,hkq,hpq,hql,_,_⟩:=hC0;dsimp only at hC hml hkq hpq hql;refine w_8 ?_;refine hcd (fun h3=>?_) (fun h3=>?_)
   ·
    simp only [ek,be,bkw] at h3;refine xa ?_;refine hcn (fun h4=>?_) (fun h4=>?_)
    ·
     refine a69 ?_
     first | (refine ⟨(p + 1, q + 1, m.set p (m.getD q default)), ?_, ?_, ?_⟩
              · exact hC.keep bos (ya bot boy boy)
              · first | omega | (dsimp only;omega)
              exact ⟨⟨⟨_,rfl,(coi bov)⟩,⟨_,rfl,(coi bov)⟩,c9,c9,trivial⟩,⟨⟨_,rfl,(sm id hml.symm bos (by dsimp only;omega) boy)⟩,trivial⟩⟩)
           | (refine ⟨(p,q + 1,m), ?_, ?_, ?_⟩
              · exact hC.skip bos (yd bot boy boy)
              · first | omega | (dsimp only;omega)
              exact ⟨⟨⟨_,rfl,(coi bov)⟩,⟨_,rfl,(coi bov)⟩,c9,c9,trivial⟩,⟨u9,trivial⟩⟩)
    refine w_6 ?_
    first | (refine ⟨(p + 1, q + 1, m.set p (m.getD q default)), ?_, ?_, ?_⟩
             · exact hC.keep bos (ya bot boy boy)
             · first | omega | (dsimp only;omega)
             exact ⟨⟨⟨_,rfl,(coi bov)⟩,⟨_,rfl,(coi bov)⟩,c9,c9,trivial⟩,⟨⟨_,rfl,(sm id hml.symm bos (by dsimp only;omega) boy)⟩,trivial⟩⟩)
          | (refine ⟨(p,q + 1,m), ?_, ?_, ?_⟩
             · exact hC.skip bos (yd bot boy boy)
             · first | omega | (dsimp only;omega)
             exact ⟨⟨⟨_,rfl,(coi bov)⟩,⟨_,rfl,(coi bov)⟩,c9,c9,trivial⟩,⟨u9,trivial⟩⟩)
   simp only [ek,be,bkw] at h3;refine w_6 ?_;refine r9 0 true ?_;refine w_8 ?_;refine am5 2 901 rfl rfl rfl rfl (by simp only [ek,be,bkw];omega) rfl ?_;refine jn ?_;refine ⟨.inr rfl, ?_⟩;have he:=(afi hC bos).1;exact ⟨_,_,rfl,bou,kn (by rw [he];simp [ek,be]),⟨⟨_,rfl,b9c hC bos (by simp [be]) (by simp [ek,be])⟩,trivial⟩⟩
  refine w_6 ?_;refine lpz (k + 1) ⟨⟨zy,c9,trivial⟩,⟨u9,trivial⟩⟩ ?_;refine ⟨by omega,by show k + 1 <= _;omega,fun j h1 h2=>?_⟩
  rcases bn5 (bng h2) with h | h
  · exact hI j h1 h
  subst h;exact ya bot rfl bos
 refine w_6 ?_;refine wv 2 901 rfl rfl rfl rfl ?_;refine jn ?_;refine ⟨.inr rfl, ?_⟩;have he:=aix (l:=l) (k:=k) bos hI;exact ⟨_,_,rfl,bou,kn (by rw [he]),⟨⟨_,rfl,f5 he (by rw [he])⟩,trivial⟩⟩
theorem b79 (l:List AS) (hl:l.length <= 8589934592):da Tryz.prog 169 [.one (.p (asl l))] [] (.v (.one (.ref 901 (ord l).length))) [(901, .arr true 1 46 (ord l).length (lf sC (ord l)))] []:=by
 refine hfx (nt:=10) Tryz.func169 ?_;refine w_7 ?_;refine fc9 wn (a1e l.length false (lf sC l) bos) trivial ?_;refine w_5 ?_;refine fc9 ap5 (b3i 0 _ l hl) ⟨u9,trivial⟩ ?_;refine w_4 ?_;refine gi rfl rfl rfl rfl rfl rfl aoj ((avb (srt l)).swap 900 0) (⟨congrArg (HV.ref 0) (a79 l).symm,trivial⟩) ⟨⟨_,rfl,f5 rfl (a79 l).symm⟩,trivial⟩ rfl rfl ?_;refine w_3 ?_;refine ⟨.inr rfl, ?_⟩;exact ⟨_,_,rfl,bou,kn (by rw [a2v]),⟨⟨_,rfl,f5 (a2v _).symm (by rw [a2v])⟩,trivial⟩⟩
theorem atg (s:AS):da Tryz.prog 118 [.one (.p (asC s))] [] (.v (.one (.ref 901 (ax s).length))) [(901, .arr true 1 46 (ax s).length (lf sC (ax s)))] []:=by
 refine hfx (nt:=23) Tryz.func118 ?_;refine w_8 ?_;refine qcx ye (a74 s) ?_;refine w_2 ?_;refine hcd (fun h0=>?_) (fun h0=>?_)
 · refine w_4 ?_;refine cj 2 901 true 1 46 (lf sC []) boz rfl (CoP.sl rfl (.inr rfl) (fun h=>h) (fun i j hi _=>absurd hi (bkp i))) (.inr rfl) rfl ?_;refine jn ?_;refine ⟨.inr rfl, ?_⟩;exact ⟨_,_,rfl,bou,kn (by rw [a2f h0];rfl),⟨⟨_,rfl,f5 (a2f h0) (by rw [a2f h0];rfl)⟩,trivial⟩⟩
 refine w_4 ?_;refine m9 0 ?_;refine w_9 ?_;refine a6 (ι:=List AS × AS) ⟨[(0,some _)],[]⟩ ⟨⟨c9,trivial⟩,trivial⟩ (fun y=>⟨[(3,some (.v (.one (.ref 0 y.1.length)))),(4,some (vA y.2))],[(0,some (.arr true 1 46 y.1.length (lf sC y.1)))]⟩) (fun y=>a6u s y) (fun y=>y.2.toNat) (([s],s)) (afx s) ⟨⟨zy,zy,trivial⟩,⟨⟨_,rfl,(yp (CoP.refl _))⟩,trivial⟩⟩ ?_;rintro y hy;have hlen:=hy.2.1;have hsl:=s.isLt;refine w_6 ?_;refine hcn (fun h1=>?_) (fun h1=>?_)
 ·
  have hne:y.2 ≠ 0:=fun e=>h1 (by rw [e];rfl);refine w_5 ?_;refine rq rfl rfl rfl rfl rfl ?_ (hp:=(zc hne));refine w_7 ?_;refine m9 1 ?_;refine r9 2 true ?_;refine w_2 ?_;refine ⟨(y.1 ++ [(y.2 - 1) &&& s],(y.2 - 1) &&& s), ?_, ?_, ?_⟩
  · exact afq hy hne
  · exact py hne
  exact ⟨⟨⟨_,rfl,(c7 rfl)⟩,⟨_,rfl,(bw (yu hne))⟩,c9,trivial⟩,⟨⟨_,rfl,(bz rfl (CoP.of_eq (by rw [yu hne];rfl)))⟩,trivial⟩⟩
 have hz:y.2 = 0:=cg.1 h1;refine w_2 ?_;refine av 3 rfl rfl rfl ?_;refine w_2 ?_;refine fc9 xx (b79 y.1 bos) trivial ?_;refine w_3 ?_;refine ⟨.inr rfl, ?_⟩;have he:=(ajc hy hz).trans (ad1 h0).symm;exact ⟨_,_,rfl,bou,kn (by rw [he]),⟨⟨_,rfl,f5 he.symm (by rw [he])⟩,trivial⟩⟩
end
section
def oz (l:List Fd) (p:AS):Int:=if bj 16 l = 0 then (if 8 < bsz p then 3 else if p >>> 16 = 0 then 0 else 1) else bj 16 l
def a2z (l:List Fd) (p:AS):Fd:=if oz l p = 0 then ky l p else ⟨0,0⟩
def uc (l:List Fd) (p:AS):Bool:=decide (oz l p = 0) && dm l p
theorem ajl {f:Fd} (h:f = ⟨0,0⟩):CoC (.agg [kp (.int .u32 0),kp (.int .u32 0)]) f.pc:=CoC.of_eq (by rw [h];rfl)
theorem bfo {a b:Fd} (h:a = b):CoC a.pc b.pc:=CoC.of_eq (by rw [h])
section
variable {l:List Fd} {p:AS}
theorem bc7 (h:¬ bj 16 l = 0):oz l p = bj 16 l /\ a2z l p = ⟨0,0⟩ /\ uc l p = false:=by
 have e:oz l p = bj 16 l:=if_neg h;unfold a2z uc;rw [e];exact ⟨rfl,if_neg h,by rw [decide_eq_false h];rfl⟩
theorem bdw (h:bj 16 l = 0) (h2:(8:Int) < bsz p):oz l p = 3 /\ a2z l p = ⟨0,0⟩ /\ uc l p = false:=by
 have e:oz l p = 3:=by unfold oz;rw [if_pos h,if_pos bos]
 unfold a2z uc;rw [e];exact ⟨rfl,rfl,rfl⟩
theorem ahp {n:Nat}:(asI p).fdiv (2 ^ (min n 32)) = 0 <-> p >>> n = 0:=by
 rw [xe,show (0:Int) = asI 0 from rfl,cg]
theorem be6 (h:bj 16 l = 0) (h2:¬ (8:Int) < bsz p) (h3:¬ (asI p).fdiv (2 ^ (min 16 32)) = 0):oz l p = 1 /\ a2z l p = ⟨0,0⟩ /\ uc l p = false:=by
 rw [ahp] at h3;have e:oz l p = 1:=by unfold oz;rw [if_pos h,if_neg bos,if_neg h3]
 unfold a2z uc;rw [e];exact ⟨rfl,rfl,rfl⟩
theorem bcv (h:bj 16 l = 0) (h2:¬ (8:Int) < bsz p) (h3:(asI p).fdiv (2 ^ (min 16 32)) = 0):oz l p = 0 /\ a2z l p = ky l p /\ uc l p = dm l p:=by
 rw [ahp] at h3;have e:oz l p = 0:=by unfold oz;rw [if_pos h,if_neg bos,if_pos h3]
 unfold a2z uc;rw [e];exact ⟨rfl,rfl,rfl⟩
def bcP (n:Int) (l:List Fd) (f:Fd):Bool:=decide (f.rhs &&& ~~~f.lhs ≠ 0) && decide (clo l f.lhs ≠ aa n)
def bcS (n:Int) (l:List Fd):Bool:=decide (bj n l = 0) && !l.any (bcP n l)
def i9 (n:Int) (l:List Fd):List AS:=if gp n l 8 = 0 then (ax (aa n)).filter fun s=>!dm l s else []
theorem bcd {n:Int} (h:gp n l 8 = 0):i9 n l = (ax (aa n)).filter fun s=>!dm l s:=if_pos h
theorem bbd {n:Int} (h:¬ gp n l 8 = 0):i9 n l = []:=if_neg h
theorem a7l {n m:Int} (h:gp n l m = 0):bj n l = 0 /\ n <= m:=by
 unfold gp at h;split at h
 · rename_i hv
   split at h
   · cases h
   exact ⟨hv,by omega⟩
 rename_i hv;exact absurd h hv
theorem b02 (n:Int) (l:List Fd):(i9 n l).length <= 4294967296:=by
 unfold i9;have:=t7 (aa n);split
 · exact bky (bmk _ _) this
 simp
end
end
section
open Go.Proofs
theorem b9k:goodFn Tryz.prog 157:=wgx Tryz.func157
theorem bj5 (l:List Fd) (p:AS):a7 Tryz.prog 157 [pP (fdl l),pA p] (ae [(a2z l p).pc,pB (uc l p),pI (oz l p)]):=by
 refine hpx (nt:=32) Tryz.func157 ?_;refine sx7 ?_;refine m9 0 ?_;refine w_7 ?_;refine qcx uz (zr 16 l) ?_;refine w_7 ?_;refine hcn (fun h0=>?_) (fun h0=>?_)
 · refine w_9 ?_;refine ⟨.inr rfl, ?_⟩;have he:=bc7 (p:=p) h0;exact f9 rfl rfl (⟨ajl he.2.1,ccb he.2.2.symm,cci he.1.symm,trivial⟩)
 refine w_5 ?_;refine qcx ye (a74 p) ?_;refine w_2 ?_;refine hcd (fun h1=>?_) (fun h1=>?_)
 · refine w_8 ?_;refine ⟨.inr rfl, ?_⟩;have he:=bdw h0 h1;exact f9 rfl rfl (⟨ajl he.2.1,ccb he.2.2.symm,cci he.1.symm,trivial⟩)
 refine w_8 ?_;refine hcn (fun h2=>?_) (fun h2=>?_)
 · refine w_8 ?_;refine ⟨.inr rfl, ?_⟩;have he:=be6 h0 h1 h2;exact f9 rfl rfl (⟨ajl he.2.1,ccb he.2.2.symm,cci he.1.symm,trivial⟩)
 refine w_5 ?_;refine qcx aho (as6 l p) ?_;refine w_3 ?_;refine m9 1 ?_;refine ef ?_;refine ⟨.inr rfl, ?_⟩;have he:=bcv h0 h1 h2;exact f9 rfl rfl (⟨bfo he.2.1.symm,ccb he.2.2.symm,cci he.1.symm,trivial⟩)
theorem b3y:goodFn Tryz.prog 146:=wgx Tryz.func146
theorem b56 (s:AS) (l:List Fd):a7 Tryz.prog 146 [pA s,pP (bx (fdl l))] (ae [pB (dm l s)]):=by
 refine hpx (nt:=13) Tryz.func146 ?_;refine w_8 ?_;refine qcx aho (as6 l s) ?_;refine w_3 ?_;refine m9 0 ?_;refine w_8 ?_;exact hx8 rfl rfl rfl (CoL.refl _)
theorem bbe:goodFn Tryz.prog 89:=wgx Tryz.func89
theorem bae (n:Int) (l:List Fd):a7 Tryz.prog 89 [pI n,pP (fdl l)] (ae [pP (asl (i9 n l)),pI (gp n l 8)]):=by
 refine hpx (nt:=18) Tryz.func89 ?_;refine sx7 ?_;refine m9 2 ?_;refine w_8 ?_;refine qcx awl (bdm n l) ?_;refine w_7 ?_;refine hcn (fun h0=>?_) (fun h0=>?_)
 · refine w_6 ?_;exact hx8 rfl rfl rfl (⟨CoC.one (a3q (bbd h0)),CoC.refl _,trivial⟩)
 refine w_2 ?_;have hv:=gc (a7l h0).1;refine d4 3 rfl rfl rfl ?_;refine w_2 ?_;refine qcx ai0 (aql n hv.1 hv.2.1) ?_;refine fc9 a80 (atg (aa n)) trivial ?_;refine qy ?_;refine fc9 adv ((as2 (ax (aa n)) 146 1 (fun i=>[bx (fdl l)].getD i .any) (dm l) b3y (fun s=>b56 s l)).swap 900 901) ⟨u9,trivial⟩ ?_;refine w_3 ?_;exact hx8 rfl rfl rfl (⟨CoC.one (CoP.of_eq (by rw [bcd h0])),cci h0.symm,trivial⟩)
end
section
def pl (l:List Fd) (p z:AS):AS:=(p &&& clo l (z &&& p)) &&& ~~~z
def ez (l:List Fd) (z p:AS):Bool:=decide (pl l p z ≠ 0)
def ae5 (l:List Fd) (ps:List AS):Nat -> AS -> AS
 | 0,z=>z
 | n + 1,z=>match ps.find? (ez l z) with
  | none=>z
  | some p=>ae5 l ps n (z ||| pl l p z)
def a35 (l:List Fd) (ps:List AS) (z:AS):AS:=ae5 l ps 4294967297 z
def xk (l:List Fd) (ps:List AS) (f:Fd):Bool:=decide (sub f.rhs (a35 l ps f.lhs))
theorem bci (l:List Fd) (p z:AS):aw .andNot .u32 (aw .and .u32 (asI p) (asI (clo l (z &&& p)))) (asI z) = asI (pl l p z):=by rw [fj,go];rfl
section
variable {l:List Fd}
theorem b7j {p z:AS}:(!decide (asI (pl l p z) = 0)) = ez l z p:=by
 unfold ez;rw [show (0:Int) = asI 0 from rfl,abw];simp
theorem bf7 {z m:AS} (h:m &&& ~~~z = m) (h0:m ≠ 0):z.toNat < (z ||| m).toNat:=by
 have hs:sub z (z ||| m):=ai.2 fun i _ hi=>by rw [bm9,hi];rfl
 have hle:=a0k hs
 rcases bn5 hle with h1 | h1
 · exact h1
 exfalso;apply h0;have e:z = z ||| m:=bln h1
 apply bm6;intro i hi;have e1:=congrArg (fun s:AS=>s.getLsbD i) e;have e2:=congrArg (fun s:AS=>s.getLsbD i) h;simp only [bm9,bkz,bmq] at e1 e2;have e3:(0:AS).getLsbD i = false:=by simp
 rw [e3];rw [decide_eq_true hi] at e2;clear h h0 hs hle h1 e;revert e1 e2;cases z.getLsbD i <;> cases m.getLsbD i <;> simp
theorem b0u {p z:AS} (h:ez l z p = true):z.toNat < (z ||| pl l p z).toNat:=by
 refine bf7 ?_ (of_decide_eq_true h);unfold pl;rw [BitVec.and_assoc,BitVec.and_self]
def a9y (l:List Fd) (ps:List AS) (z0:AS) (x:Nat × List Nat × AS):Prop:=ae5 l ps x.1 x.2.2 = a35 l ps z0 /\ 4294967296 < x.1 + x.2.2.toNat /\ x.2.1.length + x.1 = 4294967297
theorem aj0 (l:List Fd) (ps:List AS) (z0:AS):a9y l ps z0 (4294967297,[],z0):=by
 refine ⟨rfl, ?_, ?_⟩
 · dsimp only;omega
 dsimp only;rw [bms]
variable {ps:List AS} {x:Nat × List Nat × AS}
theorem a6w {z0:AS} (h:a9y l ps z0 x):0 < x.1:=by
 have:=h.2.1;have:=x.2.2.isLt;omega
theorem aow {z0:AS} (h:a9y l ps z0 x) (hi:idx (ez l x.2.2) ps < 0):x.2.2 = a35 l ps z0:=by
 have hp:=a6w h;rw [<- h.1];obtain ⟨n,hn⟩:∃ n,x.1 = n + 1:=⟨x.1 - 1,by omega⟩;rw [hn];unfold ae5
 have:ps.find? (ez l x.2.2) = none:=by
  have hm:idx (ez l x.2.2) ps = -1:=by
   by_cases h:idx (ez l x.2.2) ps = -1
   · exact h
   obtain ⟨i,h1,_⟩:=zg h;omega
  exact ahx (aac hm)
 rw [this]
theorem al0 {z0:AS} {i:Nat} (h:a9y l ps z0 x) (hi:i < ps.length) (hv:ez l x.2.2 (ps.getD i default) = true) (hj:∀ j,j < i -> ez l x.2.2 (ps.getD j default) = false):
 a9y l ps z0 (x.1 - 1,x.2.1 ++ [i],x.2.2 ||| pl l (ps.getD i default) x.2.2):=by
 have hp:=a6w h;have hlt:=b0u hv;obtain ⟨h1,h2,h3⟩:=h;obtain ⟨n,hn⟩:∃ n,x.1 = n + 1:=⟨x.1 - 1,by omega⟩;refine ⟨?_,by dsimp only;omega, ?_⟩
 · rw [<- h1,hn]
   have:ps.find? (ez l x.2.2) = some (ps.getD i default):=abr hi hj hv;show ae5 l ps n _ = _
   conv=>rhs;unfold ae5
   rw [this]
 dsimp only;rw [bkq,bm7];omega
def c6 (l:List Fd) (ps:List AS) (i:Nat):List Nat:=(List.range i).filter fun j=>!xk l ps (l.getD j default)
def mo (l:List Fd) (ps:List AS):Bool:=(List.range l.length).all fun j=>xk l ps (l.getD j default)
theorem ss {i:Nat} (h:xk l ps (l.getD i default) = false):c6 l ps (i + 1) = c6 l ps i ++ [i]:=by
 unfold c6;rw [bmg,blz];simp only [blx,h,boo,bnt,if_true,bmi,blq,bm2,if_false]
theorem sk {i:Nat} (h:xk l ps (l.getD i default) = true):c6 l ps (i + 1) = c6 l ps i:=by
 unfold c6;rw [bmg,blz];simp only [blx,h,boo,bnt,if_true,bmi,blq,bm2,if_false]
theorem agb (l:List Fd) (ps:List AS) (i:Nat):(c6 l ps i).length <= i:=bky (bmk _ _) (by rw [bn2];exact bko _)
theorem a9i:decide (((c6 l ps l.length).length:Int) = 0) = mo l ps:=by
 unfold c6 mo;rw [bme,decide_eq_true_iff,blo];constructor
 · intro h x hx
   have h0:((List.range l.length).filter fun j=>!xk l ps (l.getD j default)) = []:=bm8 bos;rw [bom] at h0;have:=h0 x hx;simpa using this
 intro h;rw [bom.2 fun x hx=>(by rw [h x hx];decide)];rfl
theorem bd9 {f:Fd}:decide (aw .andNot .u32 (asI f.rhs) (asI (a35 l ps f.lhs)) = 0) = xk l ps f:=decide_eq_decide.2 jd
theorem b3z (l:List Fd):HV.clo 247 2 (fun i=>[HV.p (bx (fdl l)), .ptr 1 0].getD i (.p .any)) = HV.clo 247 2 (fun i=>([HV.p (bx (fdl l)), .ptr 1000 0].getD i (.p .any)).ren (swp 1000 1)) :=
 congrArg (HV.clo 247 2) (funext fun i=>match i with | 0=>rfl | 1=>rfl | n + 2=>rfl)
end
end
end Go.Hx

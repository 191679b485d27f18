/- A part of the proof: Cs15 V13 Cs16 V14 Hx24 Cs17 V15 Cs18 V16 Cs19. -/
import Derived.Test.YtkkenjdfbojdlaaGreatDoorJx18
set_option linter.all false
set_option maxRecDepth 100000
namespace Go.Hx
section
def a40 (a b:Nat):a &&& b = 2 * (a / 2 &&& b / 2) + (a % 2 &&& b % 2):=by
 have h1:=Nat.div_add_mod (a &&& b) 2
 have h2:(a &&& b) % 2 = a % 2 &&& b % 2:=by
  have:=Nat.and_mod_two_pow (a:=a) (b:=b) (n:=1);simpa using this
 rw [Nat.and_div_two,h2] at h1;exact h1.symm
def ael (a b:Nat):(a % 2 &&& b % 2) = if a % 2 = 1 /\ b % 2 = 1 then 1 else 0:=by
 rcases Nat.mod_two_eq_zero_or_one a with h | h <;> rcases Nat.mod_two_eq_zero_or_one b with k | k <;> rw [h,k] <;> rfl
section
variable {x:Nat}
def a58 {s:Nat} (h:x &&& s = x):(x / 2 &&& s / 2 = x / 2) /\ (x % 2 = 1 -> s % 2 = 1):=by
 have h1:=a40 x s;rw [h,ael] at h1;split at h1 <;> rename_i hc
 · exact ⟨by omega,fun _=>hc.2⟩
 exact ⟨by omega,fun hx=>by omega⟩
def aip:∀ (x s z:Nat),x &&& s = x -> z &&& s = z -> z < x -> z <= ((x - 1) &&& s):=by
 intro x
 induction x using Nat.strongRecOn with
 | _ x ih =>
  intro s z hx hz hlt;obtain ⟨x1,x2⟩:=a58 hx;obtain ⟨z1,z2⟩:=a58 hz;rw [a40 (x - 1) s,ael]
  rcases Nat.mod_two_eq_zero_or_one x with hb | hb
  · have e1:(x - 1) / 2 = x / 2 - 1:=by omega
    have e2:(x - 1) % 2 = 1:=by omega
    have:=ih (x / 2) bnl (s / 2) (z / 2) x1 z1 bnl;rw [e1,e2];by_cases hs:s % 2 = 1
    · rw [if_pos ⟨rfl,hs⟩];omega
    rw [if_neg (fun h=>hs h.2)];have:z % 2 = 0:=by omega
    omega
  have e1:(x - 1) / 2 = x / 2:=by omega
  have e2:(x - 1) % 2 = 0:=by omega
  rw [e1,e2,x1,if_neg bnl];omega
def aqm:∀ (w y s:Nat),y &&& s = y -> s < 2 ^ w -> ((2 ^ w - 1 - y) &&& s) = s - y:=by
 intro w
 induction w with
 | zero=>intro y s h hs;obtain rfl:s = 0:=(by simpa using hs);simp
 | succ w ih =>
  intro y s h hs;obtain ⟨y1,y2⟩:=a58 h;have hle:y <= s:=by rw [<- h];exact bmd
  rw [Nat.pow_succ] at hs ⊢;have hp:=bn7 w;have:=ih (y / 2) (s / 2) y1 bnl;have hle2:y / 2 <= s / 2:=by omega
  rw [a40,ael,show (2 ^ w * 2 - 1 - y) / 2 = 2 ^ w - 1 - y / 2 by omega,this];split <;> omega
def atz {y s:Nat} (h:y &&& s = y):(s - y) &&& s = s - y:=by
 rw [<- aqm s y s h Nat.lt_two_pow_self,Nat.and_assoc,Nat.and_self]
def b7p {w s:Nat} (hx:x &&& s = x) (hs:s < 2 ^ w) (hne:x < s):((2 ^ w + x - s) &&& s) = s - ((s - x - 1) &&& s):=by
 have h1:((s - x - 1) &&& s) &&& s = (s - x - 1) &&& s:=by rw [Nat.and_assoc,Nat.and_self]
 rw [<- aqm w _ s h1 hs];have hp:=bn7 w;apply Nat.eq_of_testBit_eq;intro i;have hlt:s - x - 1 < 2 ^ w:=by omega
 have hlt2:((s - x - 1) &&& s) < 2 ^ w:=bmr Nat.and_le_left hlt;rw [Nat.testBit_and,Nat.testBit_and,show 2 ^ w + x - s = 2 ^ w - (s - x - 1 + 1) by omega,Nat.testBit_two_pow_sub_succ hlt,show 2 ^ w - 1 - ((s - x - 1) &&& s) = 2 ^ w - (((s - x - 1) &&& s) + 1) by omega,Nat.testBit_two_pow_sub_succ hlt2,Nat.testBit_and];cases s.testBit i <;> simp
def aky {w s z:Nat} (hx:x &&& s = x) (hs:s < 2 ^ w) (hz:z &&& s = z) (hlt:x < z):((2 ^ w + x - s) &&& s) <= z /\ x < ((2 ^ w + x - s) &&& s):=by
 have hzs:z <= s:=by rw [<- hz];exact bmd
 rw [b7p hx hs bnl];have h1:=aip (s - x) s (s - z) (atz hx) (atz hz) bnl;have h2:((s - x - 1) &&& s) <= s - x - 1:=Nat.and_le_left;omega
variable {s z:AS}
def a5g:sub z s <-> z.toNat &&& s.toNat = z.toNat:=by
 rw [<- bmc,BitVec.toNat_inj,ar];constructor
 · intro h
   apply bkv;intro k hk;rw [bjv]
   cases hz:z.getLsbD k with
   | false=>rfl
   | true=>rw [h k hk hz];rfl
 intro h i _ hi;rw [<- h,bjv] at hi;simp at hi;exact hi.2
def af2 (h:sub z s):bsz z <= bsz s:=by
 unfold bsz;apply List.countP_mono_left;intro i hi hb;exact ar.1 h i (bjs.1 hi) hb
def a0j (s:AS):Nat -> AS -> List AS
 | 0,_=>[]
 | n + 1,x=>x :: if x = 0 then [] else a0j s n ((x - 1) &&& s)
def a3b {x:AS} (h:x ≠ 0):(x - 1).toNat = x.toNat - 1:=by
 have h0:x.toNat ≠ 0:=fun e=>h (bka e);have:=x.isLt;rw [BitVec.toNat_sub];show (2 ^ 32 - 1 + x.toNat) % 2 ^ 32 = _;omega
def a3s {x:AS}:sub ((x - 1) &&& s) s:=by
 rw [a5g,bmc,Nat.and_assoc,Nat.and_self]
def pn {x:AS} (h:x ≠ 0):((x - 1) &&& s).toNat < x.toNat:=by
 have h0:x.toNat ≠ 0:=fun e=>h (bka e);rw [bmc,a3b h];have:((x.toNat - 1) &&& s.toNat) <= x.toNat - 1:=Nat.and_le_left;omega
def a9v {x:AS} (hx:sub x s) (hz:sub z s) (h:z.toNat < x.toNat):z.toNat <= ((x - 1) &&& s).toNat:=by
 have h0:x ≠ 0:=fun e=>by subst e;exact absurd h (bjh _)
 rw [bmc,a3b h0];exact aip _ _ _ (a5g.1 hx) (a5g.1 hz) h
def ahz:∀ (n:Nat) (x:AS),sub x s -> x.toNat < n -> ∀ z,z ∈ a0j s n x <-> sub z s /\ z.toNat <= x.toNat
 | 0,x,_,h,z=>absurd h (bjh _)
 | n + 1,x,hx,h,z=>by
  unfold a0j;by_cases h0:x = 0
  · rw [if_pos h0,bjy]
    subst h0;constructor
    · rintro rfl;exact ⟨hx,bjg _⟩
    rintro ⟨_,h⟩;exact bka (Nat.le_antisymm h (bji _))
  rw [if_neg h0,bjq,ahz n _ a3s (by have:=pn (s:=s) h0;omega)];constructor
  · rintro (rfl | ⟨h1,h2⟩)
    · exact ⟨hx,bjg _⟩
    have:=pn (s:=s) h0;exact ⟨h1,by omega⟩
  rintro ⟨h1,h2⟩;by_cases he:z = x
  · exact .inl he
  have hne:z.toNat ≠ x.toNat:=fun e=>he (bka e);exact .inr ⟨h1,a9v hx h1 bnl⟩
def xo (s:AS):List AS:=ord (a0j s (s.toNat + 1) s)
def sub_self (s:AS):sub s s:=by rw [a5g,Nat.and_self]
def a07 (h:sub z s):z.toNat <= s.toNat:=by rw [<- a5g.1 h];exact bmd
def a08:z ∈ xo s <-> sub z s:=by
 unfold xo;rw [so,ahz _ _ (sub_self s) (Nat.lt_succ_self _)];exact ⟨fun h=>h.1,fun h=>⟨h,a07 h⟩⟩
def amv {l:List AS} (ho:qk l) (h:∀ z,z ∈ l <-> sub z s):l = xo s:=qu ho (j5 _) fun z=>by rw [h z];exact a08.symm
def aw (s:AS):List AS:=if 12 < bsz s then [] else xo s
def a23 (h:(12:Int) < bsz s):aw s = []:=if_pos bnl
def ae9 (h:¬ (12:Int) < bsz s):aw s = xo s:=if_neg bnl
def a7a (s:AS) (y:List AS × AS):Prop:=sub y.2 s /\ y.1.length + y.2.toNat <= s.toNat + 1 /\ ∀ z,z ∈ y.1 <-> sub z s /\ y.2.toNat <= z.toNat
def agu (s:AS):a7a s ([s],s):=⟨sub_self s,by simp only [bkw];omega,fun z=>by
 rw [bjy];constructor
 · rintro rfl;exact ⟨sub_self _,bjg _⟩
 rintro ⟨h1,h2⟩;exact bka (Nat.le_antisymm (a07 h1) h2)⟩
def ags {y:List AS × AS} (h:a7a s y) (h0:y.2 ≠ 0):a7a s (y.1 ++ [(y.2 - 1) &&& s],(y.2 - 1) &&& s):=by
 obtain ⟨h1,h2,h3⟩:=h;have hl:=pn (s:=s) h0;refine ⟨a3s,by simp only [bjj,bkw];omega,fun z=>?_⟩;rw [bjw,bjy,h3];constructor
 · rintro (⟨k1,k2⟩ | rfl)
   · exact ⟨k1,by dsimp only;omega⟩
   exact ⟨a3s,bjg _⟩
 rintro ⟨k1,k2⟩;dsimp only at k2;by_cases hz:y.2.toNat <= z.toNat
 · exact .inl ⟨k1,hz⟩
 have:=a9v h1 k1 bnl;exact .inr (bka bnl)
def akf {y:List AS × AS} (h:a7a s y) (h0:y.2 = 0):ord y.1 = xo s:=amv (j5 _) fun z=>by
 rw [so,h.2.2,h0];exact ⟨fun h=>h.1,fun h=>⟨h,bji _⟩⟩
def nxt (x s:Nat):Nat:=if x = s then s + 1 else ((2 ^ 64 + x - s) &&& s)
def UpI (s:AS) (k:Nat) (y:List AS × Nat):Prop :=
 (y.2 = s.toNat + 1 \/ y.2 &&& s.toNat = y.2) /\ y.1.length <= k * 4294967296 + y.2 /\ qk y.1 /\ ∀ z,z ∈ y.1 <-> sub z s /\ (bsz z < k \/ bsz z = k /\ z.toNat < y.2)
def vu {s:Nat} (hs:s < 2 ^ 32) (hx:x &&& s = x):x < nxt x s /\ (nxt x s = s + 1 \/ nxt x s &&& s = nxt x s) /\ ∀ z,z &&& s = z -> x < z -> nxt x s <= z:=by
 have hle:x <= s:=by rw [<- hx];exact bmd
 have hs':s < 2 ^ 64:=Nat.lt_trans hs bns;unfold nxt;by_cases he:x = s
 · rw [if_pos he]
   refine ⟨by omega, .inl rfl,fun z hz hlt=>?_⟩;have:z <= s:=by rw [<- hz];exact bmd
   omega
 rw [if_neg he];refine ⟨(aky hx hs' (Nat.and_self s) bnl).2, .inr (by rw [Nat.and_assoc,Nat.and_self]),fun z hz hlt=>(aky hx hs' hz hlt).1⟩
variable {k:Nat} {y:List AS × Nat}
def a2u (h:UpI s k y) (hy:y.2 <= s.toNat):y.2 &&& s.toNat = y.2:=by
 rcases h.1 with h | h
 · omega
 exact h
def b1b (h:UpI s k y):y.2 <= s.toNat + 1:=by
 rcases h.1 with h | h
 · omega
 have:y.2 <= s.toNat:=by rw [<- h];exact bmd
 omega
def aw9 (h:UpI s k y) (hy:y.2 <= s.toNat):(BitVec.ofNat 32 y.2).toNat = y.2:=by
 have:=s.isLt;rw [bn8,bma bnl]
def bd5 (h:UpI s k y) (hy:y.2 <= s.toNat) (hk:bsz (BitVec.ofNat 32 y.2) = k):UpI s k (y.1 ++ [BitVec.ofNat 32 y.2],nxt y.2 s.toNat):=by
 have hn:=aw9 h hy;obtain ⟨s1,s2,s3⟩:=vu s.isLt (a2u h hy);have hsub:sub (BitVec.ofNat 32 y.2) s:=a5g.2 (by rw [hn];exact a2u h hy);obtain ⟨h1,h2,h3,h4⟩:=h;refine ⟨s2,by simp only [bjj,bkw];omega, ?_,fun z=>?_⟩
 · refine bmk.2 ⟨h3,List.pairwise_singleton _ _,fun a ha b hb=>?_⟩
   rw [bjy] at hb;subst hb;rw [mr];have:=((h4 a).1 ha).2;omega
 rw [bjw,bjy,h4];dsimp only;constructor
 · rintro (⟨k1,k2⟩ | rfl)
   · exact ⟨k1,by omega⟩
   exact ⟨hsub, .inr ⟨hk,by omega⟩⟩
 rintro ⟨k1,k2 | ⟨k2,k3⟩⟩
 · exact .inl ⟨k1, .inl k2⟩
 by_cases hz:z.toNat < y.2
 · exact .inl ⟨k1, .inr ⟨k2,hz⟩⟩
 by_cases hz2:y.2 < z.toNat
 · have:=s3 z.toNat (a5g.1 k1) hz2
   omega
 exact .inr (bka bnl)
def ba2 (h:UpI s k y) (hy:y.2 <= s.toNat) (hk:bsz (BitVec.ofNat 32 y.2) ≠ k):UpI s k (y.1,nxt y.2 s.toNat):=by
 have hn:=aw9 h hy;obtain ⟨s1,s2,s3⟩:=vu s.isLt (a2u h hy);obtain ⟨h1,h2,h3,h4⟩:=h;refine ⟨s2,by dsimp only;omega,h3,fun z=>?_⟩;rw [h4];dsimp only;constructor
 · rintro ⟨k1,k2⟩
   exact ⟨k1,by omega⟩
 rintro ⟨k1,k2 | ⟨k2,k3⟩⟩
 · exact ⟨k1, .inl k2⟩
 by_cases hz:z.toNat < y.2
 · exact ⟨k1, .inr ⟨k2,hz⟩⟩
 by_cases hz2:y.2 < z.toNat
 · have:=s3 z.toNat (a5g.1 k1) hz2
   omega
 have e:z = BitVec.ofNat 32 y.2:=bka bnl;exact absurd (e ▸ k2) hk
def UpK (s:AS) (k:Nat) (l:List AS):Prop:=l.length <= k * 4294967296 /\ qk l /\ ∀ z,z ∈ l <-> sub z s /\ bsz z < k
def b0g (s:AS):UpK s 0 []:=by
 refine ⟨?_,List.Pairwise.nil,fun z=>?_⟩
 · show 0 <= _
   exact bji _
 constructor
 · intro h;cases h
 rintro ⟨_,h⟩;omega
def bbl {l:List AS} (h:UpK s k l):UpI s k (l,0):=by
 obtain ⟨h1,h2,h3⟩:=h;unfold UpI;dsimp only;refine ⟨.inr (Nat.zero_and _),bjr h1 (Nat.le_add_right _ _),h2,fun z=>?_⟩;rw [h3];constructor
 · rintro ⟨a,b⟩
   exact ⟨a, .inl b⟩
 rintro ⟨a,b | ⟨_,b⟩⟩
 · exact ⟨a,b⟩
 exact absurd b (bjh _)
def b2u (h:UpI s k y) (hy:¬ y.2 <= s.toNat):UpK s (k + 1) y.1:=by
 have h0:=b1b h;have:=s.isLt;obtain ⟨h1,h2,h3,h4⟩:=h;refine ⟨by rw [bkj];omega,h3,fun z=>?_⟩;rw [h4];constructor
 · rintro ⟨k1,k2⟩
   exact ⟨k1,by omega⟩
 rintro ⟨k1,k2⟩;have:=a07 k1;exact ⟨k1,by omega⟩
def b6r {l:List AS} (h:UpK s k l) (hk:bsz s < k):l = xo s:=amv h.2.1 fun z=>by
 rw [h.2.2];exact ⟨fun h=>h.1,fun h=>⟨h,by have:=af2 h;omega⟩⟩
abbrev pU (n:Nat):PC:=.one (.raw (.int .u64 (n:Int)))
abbrev vU (n:Nat):HR:=bi (.raw (.int .u64 (n:Int)))
def ali (n:Int):IntKind.wrap .u64 n = n % 18446744073709551616:=by
 simp [IntKind.wrap,IntKind.signed,IntKind.bits]
def b9a {s:Nat} (hs:s < 4294967296) (hx:x <= s) (h:¬ (x:Int) = s) {a:Int} (ha:a = IntKind.wrap .u64 ((x:Int) - s) \/ a = (x:Int) - s):al .and .u64 a s = (nxt x s:Nat):=by
 unfold nxt;rw [if_neg bnl];show IntKind.wrap .u64 ((BitVec.ofInt 64 a &&& BitVec.ofInt 64 s).toNat:Int) = _
 have e1:(BitVec.ofInt 64 a).toNat = 2 ^ 64 + x - s:=by
  rw [BitVec.toNat_ofInt]
  rcases ha with rfl | rfl
  · rw [ali]
    omega
  omega
 have e2:(BitVec.ofInt 64 (s:Int)).toNat = s:=by
  rw [BitVec.toNat_ofInt];omega
 have h2:((2 ^ 64 + x - s) &&& s) <= s:=bmd;rw [bmc,e1,e2,ali];omega
def bax {s:Nat} (hs:s < 4294967296) (h:(x:Int) = s):(s:Int) + 1 = (nxt x s:Nat):=by
 unfold nxt;rw [if_pos bnl];omega
def zg {x:AS} (h:x ≠ 0):al .and .u32 (asI x - 1) (asI s) = asI ((x - 1) &&& s):=by rw [amt h,fc]
def zn {α:Type} [Inhabited α] {wr wr':Bool} {e:TypeId} {c:α -> Nat -> PV} {x:α} {f:Nat -> Nat -> PV} (h:CoP (f 0 0) (c x 0)) (hw:wr' = true -> wr = true:=by exact fun h=>h):CoO (.arr wr 1 e 1 f) (.arr wr' 1 e [x].length (lf c [x])) :=
 ⟨hw,rfl,rfl,rfl,fun i j hi hj=>by
  have hi:i < 1:=hi;have hj:j < 1:=hj;obtain rfl:j = 0:=by omega
  obtain rfl:i = 0:=by omega
  exact h⟩
def ip {n:Nat} (h:n < 4294967296):(n:Int) = asI (BitVec.ofNat 32 n):=by
 unfold asI;rw [bn8];omega
end
end
section
open Go.Proofs
def b1v (x s:Nat) (hs:s < 4294967296) (hx:x <= s):a6 bo6 173 [pU x,pU s] (a7 [pU (nxt x s)]):=by
 refine hpx (nt:=15) Tryz.func173 ?_;refine ct ?_;refine hcd (fun h0=>?_) (fun h0=>?_)
 · refine v_6 ?_;exact ⟨cci (bax hs h0),trivial⟩
 refine w_5 ?_;refine rqw rfl rfl rfl rfl rfl ?_;refine v_4 ?_;exact ⟨cci (b9a hs hx h0 (by first | exact .inl rfl | exact .inr rfl)),trivial⟩
def a89:goodFn bo6 118:=wgx Tryz.func118
def b16 (s:AS):a6 bo6 118 [pA s] (a7 [pP (asl (aw s))]):=by
 refine hpx (nt:=23) Tryz.func118 ?_;refine w_8 ?_;refine qcx ye (a7h s) ?_;refine w_2 ?_;refine hcd (fun h0=>?_) (fun h0=>?_)
 · refine v_4 ?_;exact ⟨CoC.one (a38 (a23 h0)),trivial⟩
 refine w_4 ?_;refine m9 0 ?_;refine w_9 ?_;refine ae (ι:=List AS × AS) (ka 0 kn) km (fun y=>⟨[(3,some (.v (.one (.ref 0 y.1.length)))),(4,some (vA y.2))],[(0,some (.arr true 1 46 y.1.length (lf sC y.1)))]⟩) (fun y=>a7a s y) (fun y=>y.2.toNat) (([s],s)) (agu s) ⟨tt,⟨⟨_,rfl,(zn (CoP.refl _))⟩,trivial⟩⟩ ?_;rintro y hy;have hlen:=hy.2.1;have hsl:=s.isLt;refine w_6 ?_;refine hcn (fun h1=>?_) (fun h1=>?_)
 ·
  have hne:y.2 ≠ 0:=fun e=>h1 (by rw [e];rfl);refine w_5 ?_;refine rq rfl rfl rfl rfl rfl ?_ (hp:=(yz hne));refine w_7 ?_;refine m9 1 ?_;refine r9 2 true ?_;refine w_2 ?_;refine ⟨(y.1 ++ [(y.2 - 1) &&& s],(y.2 - 1) &&& s), ?_, ?_, ?_⟩
  · exact ags hy hne
  · exact pn hne
  exact ⟨⟨⟨_,rfl,(bv rfl)⟩,⟨_,rfl,(br (zg hne))⟩,tt⟩,⟨⟨_,rfl,(bt rfl (CoP.of_eq (by rw [zg hne];rfl)))⟩,trivial⟩⟩
 have hz:y.2 = 0:=c8.1 h1;refine w_2 ?_;refine aq 3 rfl rfl rfl ?_;refine w_2 ?_;refine qcx y4 (a5z y.1 bnl) ?_;refine v_2 ?_;exact ⟨CoC.one (CoP.of_eq (by rw [ae9 h0,akf hy hz])),trivial⟩
def avr (s:AS):a6 bo6 124 [pA s] (a7 [pP (asl (aw s))]):=by
 refine hpx (nt:=34) Tryz.func124 ?_;refine w_8 ?_;refine rc rfl rfl rfl rfl rfl rfl vn (yn _) (⟨cci (by first | rfl | exact ip bnl),trivial⟩) rfl rfl ?_;refine w_2 ?_;refine hcd (fun h0=>?_) (fun h0=>?_)
 · refine v_4 ?_;exact ⟨CoC.one (a38 (a23 h0)),trivial⟩
 refine ct ?_;refine cb 3 900 true 1 46 (lf sC []) bns rfl (CoP.sl rfl (.inr rfl) (fun h=>h) (fun i j hi _=>absurd hi (bjh i))) (.inr rfl) rfl ?_;refine ae (ι:=List AS × Nat) (ka 0 kn) km (fun x=>⟨[(3,some (.v (.one (.ref 900 x.1.length)))),(4,some (vI x.2))],[(900,some (.arr true 1 46 x.1.length (lf sC x.1)))]⟩) (fun x=>UpK s x.2 x.1 /\ x.2 <= bsz s + 1) (fun x=>bsz s + 1 - x.2) (([],0)) (⟨b0g s,bji _⟩) kk ?_;rintro x ⟨hx,hxb⟩;have hlen:=hx.1;have hsl:=s.isLt;have hbz:=ai1 s;refine w_5 ?_;refine rc rfl rfl rfl rfl rfl rfl vn (yn _) (⟨cci (by first | rfl | exact ip bnl),trivial⟩) rfl rfl ?_;refine w_2 ?_;refine hcd (fun h1=>?_) (fun h1=>?_)
 ·
  refine w_8 ?_;refine ae (ι:=List AS × Nat) (ka 0 (ka 4 kn)) km (fun y=>⟨[(3,some (.v (.one (.ref 900 y.1.length)))),(5,some (vU y.2))],[(900,some (.arr true 1 46 y.1.length (lf sC y.1)))]⟩) (fun y=>UpI s x.2 y) (fun y=>s.toNat + 1 - y.2) ((x.1,0)) (bbl hx) kk ?_;rintro y hy;have hlen2:=hy.2.1;have hyl:=b1b hy;have hsa:asI s = (s.toNat:Int):=rfl;refine w_5 ?_;refine qy ?_ (hp:=(by simp only [gn,inR,m8,n9];omega));refine w_2 ?_;refine hcd (fun h2=>?_) (fun h2=>?_)
  ·
   refine w_6 ?_;refine qy ?_ (hp:=(by simp only [gn,inR,m8,n9];omega));refine rc rfl rfl rfl rfl rfl rfl vn (yn _) (⟨cci (by first | rfl | exact ip bnl),trivial⟩) rfl rfl ?_;refine w_3 ?_;refine hcd (fun h3=>?_) (fun h3=>?_)
   ·
    refine w_3 ?_;refine qy ?_ (hp:=(by simp only [gn,inR,m8,n9];omega));refine m9 0 ?_;refine r9 1 true ?_;refine w_5 ?_;refine qy ?_ (hp:=(by simp only [gn,inR,m8,n9];omega));refine rc rfl rfl rfl rfl rfl rfl (wgx Tryz.func173) (b1v y.2 s.toNat s.isLt bnl) (⟨CoC.refl _,cci rfl,trivial⟩) rfl rfl ?_;refine w_2 ?_
    first | (refine ⟨(y.1 ++ [BitVec.ofNat 32 y.2], nxt y.2 s.toNat), ?_, ?_, ?_⟩
             · exact bd5 hy bnl bnl
             · have:=(vu s.isLt (a2u hy bnl)).1
               dsimp only;omega
             exact ⟨⟨⟨_,rfl,(bv rfl)⟩,tt⟩,⟨⟨_,rfl,(bt rfl (CoP.of_eq (congrArg (fun z=>PV.raw (.int .u32 z)) (ip bnl))))⟩,trivial⟩⟩)
          | (refine ⟨(y.1,nxt y.2 s.toNat), ?_, ?_, ?_⟩
             · exact ba2 hy bnl bnl
             · have:=(vu s.isLt (a2u hy bnl)).1
               dsimp only;omega
             exact kk)
   refine w_4 ?_;refine qy ?_ (hp:=(by simp only [gn,inR,m8,n9];omega));refine rc rfl rfl rfl rfl rfl rfl (wgx Tryz.func173) (b1v y.2 s.toNat s.isLt bnl) (⟨CoC.refl _,cci rfl,trivial⟩) rfl rfl ?_;refine w_2 ?_
   first | (refine ⟨(y.1 ++ [BitVec.ofNat 32 y.2], nxt y.2 s.toNat), ?_, ?_, ?_⟩
            · exact bd5 hy bnl bnl
            · have:=(vu s.isLt (a2u hy bnl)).1
              dsimp only;omega
            exact ⟨⟨⟨_,rfl,(bv rfl)⟩,tt⟩,⟨⟨_,rfl,(bt rfl (CoP.of_eq (congrArg (fun z=>PV.raw (.int .u32 z)) (ip bnl))))⟩,trivial⟩⟩)
         | (refine ⟨(y.1,nxt y.2 s.toNat), ?_, ?_, ?_⟩
            · exact ba2 hy bnl bnl
            · have:=(vu s.isLt (a2u hy bnl)).1
              dsimp only;omega
            exact kk)
  refine w_6 ?_;refine ⟨(y.1,x.2 + 1), ?_, ?_, ?_⟩
  · show UpK s (x.2 + 1) y.1 /\ x.2 + 1 <= _
    exact ⟨b2u (y:=y) hy bnl,by omega⟩
  · dsimp only
    omega
  exact kk
 refine w_6 ?_;refine aq 2 rfl rfl rfl ?_;exact hx8 rfl rfl rfl (⟨CoC.one (CoP.of_eq (by rw [ae9 h0,b6r hx bnl];rfl)),trivial⟩)
end
section
def ot (l:List Fd) (p x:AS):Bool:=decide (clo l x &&& p ≠ x) && decide (clo l x &&& p ≠ p)
def ad3 (l:List Fd) (p:AS):Option AS:=(aw p).find? (ot l p)
def as8 (l:List Fd) (p x:AS):Fd:=⟨x,(clo l x &&& p) &&& ~~~x⟩
def kz (l:List Fd) (p:AS):Fd:=match ad3 l p with
 | some x=>as8 l p x
 | none=>⟨0,0⟩
def dy (l:List Fd) (p:AS):Bool:=(ad3 l p).isSome
def ab7 {α:Type} [Inhabited α] {q:α -> Bool} {l:List α} {i:Nat} (hi:i < l.length) (hI:∀ j,j < i -> q (l.getD j default) = false) (h:q (l.getD i default) = true):l.find? q = some (l.getD i default):=by
 rw [List.find?_eq_some_iff_getElem];refine ⟨h,i,hi,by simp [List.getD,hi],fun j hj=>?_⟩;have:=hI j hj;rw [bjd,bjc bnl,bk8] at this;simp [this]
def ak9 {α:Type} [Inhabited α] {q:α -> Bool} {l:List α} (hI:∀ j,j < l.length -> q (l.getD j default) = false):l.find? q = none:=by
 rw [bmq];intro x hx;obtain ⟨j,hj,rfl⟩:=bk4 hx;have:=hI j hj;rw [bjd,bjc hj,bk8] at this;simp [this]
section
variable {l:List Fd} {p:AS}
def aju {i:Nat} (hi:i < (aw p).length) (hI:∀ j,j < i -> ot l p ((aw p).getD j default) = false) (h:ot l p ((aw p).getD i default) = true):kz l p = as8 l p ((aw p).getD i default) /\ dy l p = true:=by
 have e:ad3 l p = some ((aw p).getD i default):=ab7 hi hI h;unfold kz dy;rw [e];exact ⟨rfl,rfl⟩
def ak7 (hI:∀ j,j < (aw p).length -> ot l p ((aw p).getD j default) = false):kz l p = ⟨0,0⟩ /\ dy l p = false:=by
 have e:ad3 l p = none:=ak9 hI;unfold kz dy;rw [e];exact ⟨rfl,rfl⟩
def abk {x:AS} (h:al .and .u32 (asI (clo l x)) (asI p) = asI x):ot l p x = false:=by
 rw [fc,c8] at h;unfold ot;simp [h]
def acm {x:AS} (h:al .and .u32 (asI (clo l x)) (asI p) = asI p):ot l p x = false:=by
 rw [fc,c8] at h;unfold ot;simp [h]
def ab5 {x:AS} (h:¬ al .and .u32 (asI (clo l x)) (asI p) = asI x) (k:¬ al .and .u32 (asI (clo l x)) (asI p) = asI p):ot l p x = true:=by
 rw [fc,c8] at h k;unfold ot;simp [h,k]
def aql {i:Nat} {a b:PV} (hi:i < (aw p).length) (hI:∀ j,j < i -> ot l p ((aw p).getD j default) = false) (h:ot l p ((aw p).getD i default) = true) (ha:a = asC ((aw p).getD i default)) (hb:b = .raw (.int .u32 (al .andNot .u32 (al .and .u32 (asI (clo l ((aw p).getD i default))) (asI p)) (asI ((aw p).getD i default))))):CoC (.agg [a,b]) (kz l p).pc :=
 CoC.of_eq (by rw [(aju hi hI h).1,ha,hb,fc,gk];rfl)
def ald (hI:∀ j,j < (aw p).length -> ot l p ((aw p).getD j default) = false):CoC (.agg [kr (.int .u32 0),kr (.int .u32 0)]) (kz l p).pc:=CoC.of_eq (by rw [(ak7 hI).1];rfl)
def a5r {s:AS}:∀ (n:Nat) (x:AS),(a0j s n x).length <= x.toNat + 1
 | 0,x=>bji _
 | n + 1,x=>by
  unfold a0j;by_cases h0:x = 0
  · rw [if_pos h0];simp
  rw [if_neg h0,bk5];have h1:=a5r (s:=s) n ((x - 1) &&& s);have h2:=pn (s:=s) h0;omega
def ta (s:AS):(aw s).length <= 4294967296:=by
 unfold aw xo;have h1:=a5r (s:=s) (s.toNat + 1) s;have h2:=lj (a0j s (s.toNat + 1) s);have h3:=s.isLt;split
 · simp
 omega
end
end
section
open Go.Proofs
def aib:goodFn bo6 78:=wgx Tryz.func78
def arf (l:List Fd) (p:AS):a6 bo6 78 [pP (fdl l),pA p] (a7 [(kz l p).pc,pB (dy l p)]):=by
 refine hpx (nt:=36) Tryz.func78 ?_;refine sx7 ?_;refine m9 0 ?_;refine w_6 ?_;refine qcx a89 (b16 p) ?_;refine w_4 ?_;refine ae (ι:=Nat) (ka 0 (ka 1 (ka 4 (ka 10 (ka 11 kn))))) (kb 0 km) (fun i=>⟨[(12,some (vI i))],[]⟩) (fun i=>i <= (aw p).length /\ (∀ j,j < i -> ot l p ((aw p).getD j default) = false)) (fun i=>(aw p).length - i) (0) (⟨bji _,bm⟩) kk ?_;rintro i ⟨hi,hI⟩;have hlen:=ta p;refine w_5 ?_;refine hcd (fun h0=>?_) (fun h0=>?_)
 ·
  refine j9 ?_;refine qcx t8 (x7 l ((aw p).getD i default)) ?_;refine c7 ?_;refine ah rfl rfl (fun r1=>?_) (fun r1=>?_)
  ·
   have h1:=tz2 (cj r1);(iterate 3 refine qy ?_ (hg:=(gtt r1)));refine w_2 ?_;refine ak _ rfl (fun r2=>?_) (fun r2=>?_)
   · have h2:=tz2 (cj (bn r1 r2));refine c7 ?_;exact hx8 rfl rfl rfl (⟨aql (i:=i) bnl hI (ab5 h1 h2) rfl rfl,ccb (aju (i:=i) bnl hI (ab5 h1 h2)).2.symm,trivial⟩)
   have h2:=tz1 (ck (bn r1 r2));refine w_5 ?_;refine lpz (i + 1) kk ?_;exact ⟨by show i + 1 <= _;omega,ax hI (by first | exact abk h1 | exact acm h2)⟩
  have h1:=tz1 (ck r1);(iterate 3 refine k9 (gft r1) ?_);refine rq rfl rfl rfl rfl rfl ?_ (hp:=r1);refine w_7 ?_;refine lpz (i + 1) kk ?_
  exact ⟨by show i + 1 <= _;omega,ax hI (by first | exact abk h1 | exact acm h2)⟩
 refine v_7 ?_;exact ⟨ald (fun j hj=>hI j bnl),ccb (ak7 (fun j hj=>hI j bnl)).2.symm,trivial⟩
def bbt (l:List Fd) (p:AS):a6 bo6 145 [pP (fdl l),pA p] (a7 [(kz l p).pc,pB (dy l p)]):=by
 refine hpx (nt:=48) Tryz.func145 ?_;refine sx7 ?_;refine m9 0 ?_;refine w_5 ?_;refine qcx (wgx Tryz.func124) (avr p) ?_;refine w_8 ?_;refine ae (ι:=Nat) (ka 0 (ka 1 (ka 4 (ka 6 kn)))) (kb 0 km) (fun i=>⟨[(7,some (vI i))],[]⟩) (fun i=>i <= (aw p).length /\ (∀ j,j < i -> ot l p ((aw p).getD j default) = false)) (fun i=>(aw p).length - i) (0) (⟨bji _,bm⟩) kk ?_;rintro i ⟨hi,hI⟩;have hlen:=ta p;refine w_8 ?_;refine hcd (fun h0=>?_) (fun h0=>?_)
 ·
  refine c7 ?_;refine qcx a7c (a7d l ((aw p).getD i default)) ?_;refine j9 ?_;refine ah rfl rfl (fun r1=>?_) (fun r1=>?_)
  ·
   have h1:=tz2 (cj r1);(iterate 3 refine qy ?_ (hg:=(gtt r1)));refine w_2 ?_;refine ak _ rfl (fun r2=>?_) (fun r2=>?_)
   · have h2:=tz2 (cj (bn r1 r2));refine zc ?_;exact hx8 rfl rfl rfl (⟨aql (i:=i) bnl hI (ab5 h1 h2) rfl rfl,ccb (aju (i:=i) bnl hI (ab5 h1 h2)).2.symm,trivial⟩)
   have h2:=tz1 (ck (bn r1 r2));refine w_6 ?_;refine lpz (i + 1) kk ?_;exact ⟨by show i + 1 <= _;omega,ax hI (by first | exact abk h1 | exact acm h2)⟩
  have h1:=tz1 (ck r1);(iterate 3 refine k9 (gft r1) ?_);refine rq rfl rfl rfl rfl rfl ?_ (hp:=r1);refine w_8 ?_;refine lpz (i + 1) kk ?_
  exact ⟨by show i + 1 <= _;omega,ax hI (by first | exact abk h1 | exact acm h2)⟩
 refine v_7 ?_;exact ⟨ald (fun j hj=>hI j bnl),ccb (ak7 (fun j hj=>hI j bnl)).2.symm,trivial⟩
def bb8 (l:List Fd) (p:AS):a6 bo6 108 [pP (fdl l),pA p] (a7 [pB (!dy l p)]):=by
 refine hpx (nt:=15) Tryz.func108 ?_;refine w_8 ?_;refine qcx (wgx Tryz.func145) (bbt l p) ?_;refine w_3 ?_;refine m9 0 ?_;refine v_9 ?_;exact CoL.refl _
end
section
open Go.RowKit
section
variable {w0:World} {nt:Nat} {c:Ctx} {s:S} {a:Act} {w:World}
def ai.short (h:ai w0 nt c s a w) {id id' sz n m:Nat} {el:TypeId} {f:Nat -> Nat -> PV} (ho:s.o id = some (.arr true sz el n f)) (hm:m <= n) (hnm:NM s id') (hno:s.o id' = none) {u:Value} (hu:bf c s.o (.win id n 0 m) u) :
 ∃ c',c'.old = c.old /\ ai w0 nt c' ((s.setO id none).setO id' (some (.arr true sz el m f))) a w /\ ap c' ((s.setO id none).setO id' (some (.arr true sz el m f))).o (.v (.one (.ref id' m))) u:=by
 have hne:id ≠ id':=fun e=>by rw [<- e,ho] at hno;cases hno
 obtain ⟨ad,ad',cap,q1,q2,q3,q4,q5,q6⟩:=yd hu ho rfl;obtain ⟨h0,h1,h5⟩:=h.objs id _ ho
 have hold:∀ k ob,((s.setO id none).setO id' (some (.arr true sz el m f))).o k = some ob -> k ≠ id' -> s.o k = some ob /\ k ≠ id:=fun k ob hk hk'=>by
  simp only [S.setO,if_neg hk'] at hk;by_cases hki:k = id
  · subst hki;simp at hk
  rw [if_neg hki] at hk;exact ⟨hk,hki⟩
 obtain ⟨bk,hbk,hok⟩:∃ bk:Nat -> Prop,(∀ b,bk b -> c.blk id b) /\ ∀ c':Ctx,c'.imm = c.imm -> c'.own id' = u -> c'.blk id' = bk -> ∀ o':b4,ef 0 c' o' w id' (.arr true sz el m f):=by
  rcases h5 with ⟨h6,xs,h2,h4⟩ | ⟨h6 | h6,h7,h8⟩
  · obtain ⟨hxl,hrow⟩:=h2
    rcases hrow with ⟨hv0,hz⟩ | ⟨g,cap',cur,hown,hbase,hheap,hnc,hcm,hcs,htake⟩
    · rw [hv0] at q1
      simp only [Value.slice.injEq] at q1;obtain ⟨rfl,_,rfl⟩:=q1;obtain rfl:n = 0:=by omega
      obtain rfl:m = 0:=by omega
      refine ⟨noB,fun b hb=>hb.elim,fun c' e1 e2 e3 o'=>⟨h0,bji _, .inr ⟨.inr rfl,e3, ?_⟩⟩⟩;rw [e2,q2];exact ⟨ad',0,rfl,bjg _,bji _,fun _=>rfl,fun h=>absurd h (bmt 0)⟩
    rw [hown] at q1;simp only [Value.slice.injEq,true_and] at q1;obtain ⟨rfl,rfl⟩:=q1;by_cases hcap:cap' = 0
    · subst hcap
      obtain rfl:m = 0:=by omega
      refine ⟨noB,fun b hb=>hb.elim,fun c' e1 e2 e3 o'=>⟨h0,bji _, .inr ⟨.inr rfl,e3, ?_⟩⟩⟩;rw [e2,q2];exact ⟨ad',0,rfl,bjg _,bji _,fun _=>rfl,fun h=>absurd h (bmt 0)⟩
    obtain rfl:=q6 bnl;simp only [bk1,d9,Nat.zero_mul,blw,bn0] at q2;have hmul:m * sz <= n * sz:=bjt _ hm;refine ⟨iu u,fun b hb=>by rw [h6,hown];rw [q2] at hb;exact hb,fun c' e1 e2 e3 o'=>⟨h0,bjr hm h1, .inl ⟨by rw [e2,e3],xs.take (m * sz),⟨by rw [bjn,hxl,blc hmul], .inr ⟨g,cap',cur,by rw [e2,q2],hbase,hheap,by omega,hcm,hcs, ?_⟩⟩,fun i j hi hj=>?_⟩⟩⟩
    · rw [<- htake,List.take_take,blc hmul]
    obtain ⟨x,hx,hr⟩:=h4 i j bnl hj;refine ⟨x, ?_,by rw [e1];exact hr⟩;rw [bkb,if_pos (a2p hi hj)];exact hx
  · cases h6
  subst h6;obtain rfl:m = 0:=by omega
  refine ⟨noB,fun b hb=>hb.elim,fun c' e1 e2 e3 o'=>⟨h0,bji _, .inr ⟨.inr rfl,e3, ?_⟩⟩⟩;obtain ⟨ad2,cap2,r1,r2,r3,r4,_⟩:=h8;rw [q1] at r1;simp only [Value.slice.injEq,true_and] at r1;obtain ⟨rfl,rfl⟩:=r1;obtain rfl:cap = 0:=r4 rfl;rw [e2,q2];exact ⟨ad',0,rfl,bjg _,bji _,fun _=>rfl,fun h=>absurd h (bmt 0)⟩
 have hevo:∀ k,k ≠ id' -> Evo c s.o { c with own:=fun k=>if k = id' then u else c.own k,blk:=fun k=>if k = id' then bk else c.blk k } ((s.setO id none).setO id' (some (.arr true sz el m f))).o k:=fun k hk=>by
  by_cases hki:k = id
  · subst hki
    exact .inl (by simp [S.setO,hk])
  exact Evo.of_same (by simp [S.setO,hk,hki]) (by simp [hk])
 refine ⟨{ c with own:=fun k=>if k = id' then u else c.own k,blk:=fun k=>if k = id' then bk else c.blk k },rfl,⟨h.defers,h.size,h.below,fun d x hx=>?_,fun k ob hk=>?_,fun i i' obi obi' b hi hi' hb hb'=>?_,h.imm,fun k ob b hk hb=>?_,h.was,h.frm,fun k ob b hk hb=>?_,fun k hk=>?_⟩, ?_⟩
 · exact (h.tmps d x hx).evo (Imm.le.refl c.imm) fun k hkm=>hevo k (by rintro rfl;exact hnm.1 d x hx hkm)
 · by_cases hk':k = id'
   · subst hk'
     obtain rfl:ob = .arr true sz el m f:=by simpa [S.setO] using hk.symm
     refine hok _ ?_ ?_ ?_ _ <;> first | rfl | exact if_pos rfl
   obtain ⟨hk1,hk2⟩:=hold k ob hk hk';exact (h.objs k ob hk1).keep (Imm.le.refl c.imm) (by simp [hk']) (by simp [hk']) (fun j hj=>hevo j (by rintro rfl;exact hnm.2.1 k ob hk1 hj)) fun b _=>rfl
 · have hone:∀ k ob b,k ≠ id' -> ((s.setO id none).setO id' (some (.arr true sz el m f))).o k = some ob -> c.blk k b -> bk b -> False:=fun k ob b hk' hk hb hbb=>by
    obtain ⟨hk1,hk2⟩:=hold k ob hk hk';exact hk2 (h.inj k id ob _ b hk1 ho hb (hbk b hbb))
   by_cases e1:i = id'
   · by_cases e2:i' = id'
     · rw [e1,e2]
     exact (hone i' obi' b e2 hi' (by simpa [e2] using hb') (by simpa [e1] using hb)).elim
   by_cases e2:i' = id'
   · exact (hone i obi b e1 hi (by simpa [e1] using hb) (by simpa [e2] using hb')).elim
   exact h.inj i i' obi obi' b (hold i obi hi e1).1 (hold i' obi' hi' e2).1 (by simpa [e1] using hb) (by simpa [e2] using hb')
 · by_cases hk':k = id'
   · exact h.sep id _ b ho (hbk b (by simpa [hk'] using hb))
   exact h.sep k ob b (hold k ob hk hk').1 (by simpa [hk'] using hb)
 · by_cases hk':k = id'
   · exact h.fsep id _ b ho (hbk b (by simpa [hk'] using hb))
   exact h.fsep k ob b (hold k ob hk hk').1 (by simpa [hk'] using hb)
 · exact (h.fixed k hk).trans (hevo k (by have:=hnm.2.2;omega))
 refine ⟨hu.1,fun l=>by simp [S.setO],fun ob2 s2 e2 n2 ho2 hd2=>?_⟩;simp only [S.setO,if_true,bjb] at ho2;subst ho2;simp only [aa.dim,bjb,bjl] at hd2;obtain ⟨rfl,rfl,rfl⟩:=hd2;exact ⟨bjg _,fun _=>by simp⟩
end
section
variable {ro:Option Nat} {P:Program} {nt:Nat} {st:HSt} {Q:Exit -> HSt -> Prop}
def amj {c:Code} (d id2:Nat) {id n n' i m s:Nat} {e:TypeId} {f:Nat -> Nat -> PV} (hd:bc st.t d = some (.v (.one (.win id n i m)))) (ho:bc st.o id = some (.arr true s e n' f)) (hn:n' = n) (hi:i = 0) (hm:m <= n) (hnew:sb id2 st = true)
 (h:HW (ro:=ro) P nt c ⟨(d,some (.v (.one (.ref id2 m)))) :: st.t,(id2,some (.arr true s e m f)) :: (id,none) :: st.o⟩ Q):HW (ro:=ro) P nt c st Q:=by
 subst hn hi;obtain ⟨hnm,hno⟩:=lu hnew;refine wz ⟨st.t,(id2,some (.arr true s e m f)) :: (id,none) :: st.o⟩ d (.v (.one (.ref id2 m))) (fun w0 m0 a w hr=>?_) h;obtain ⟨cc,hold,hrr⟩:=hr;obtain ⟨c',e1,e2,e3⟩:=hrr.short ho hm hnm hno (hrr.tmps d _ hd)
 have e4:(HSt.den ⟨st.t,(id2,some (.arr true s e m f)) :: (id,none) :: st.o⟩) = (st.den.setO id none).setO id2 (some (.arr true s e m f)):=by
  unfold HSt.den S.setO;simp [bo]
 exact ⟨c',e1.trans hold,by rw [e4];exact e2,by rw [e4];exact e3⟩
def wq {c:Code} (d id2:Nat) {id n n' s:Nat} {e:TypeId} {f:Nat -> Nat -> PV} (hd:bc st.t d = some (.v (.one (.ref id n)))) (ho:bc st.o id = some (.arr true s e n' f)) (hn:n' = n) (hnew:sb id2 st = true)
 (h:HW (ro:=ro) P nt c ⟨(d,some (.v (.one (.ref id2 n)))) :: st.t,(id2,some (.arr true s e n f)) :: (id,none) :: st.o⟩ Q):HW (ro:=ro) P nt c st Q:=by
 subst hn;obtain ⟨hnm,hno⟩:=lu hnew;refine wz ⟨st.t,(id2,some (.arr true s e n' f)) :: (id,none) :: st.o⟩ d (.v (.one (.ref id2 n'))) (fun w0 m0 a w hr=>?_) h;obtain ⟨cc,hold,hrr⟩:=hr;have hu:bf cc st.den.o (.ref id n') (a.tmps.getD d undef):=hrr.tmps d _ hd
 have hw:bf cc st.den.o (.win id n' 0 n') (a.tmps.getD d undef):=by
  refine ⟨hu.1,hu.2.1,fun ob s2 e2 n2 ho2 hd2=>⟨(hu.2.2 _ _ _ _ ho2 hd2).1,fun hk=>?_⟩⟩;have he:=(hu.2.2 _ _ _ _ ho2 hd2).2 hk;obtain rfl:ob = .arr true s e n' f:=Option.some.inj (ho2.symm.trans ho);simp only [aa.dim,bjb,bjl] at hd2;obtain ⟨rfl,rfl,rfl⟩:=hd2;obtain ⟨ad,cap,hv,hc1,hc2⟩:=y5 (hrr.objs _ _ ho2);exact ⟨ad,ad,cap,hv,by rw [he,hv];rfl,by omega,hc1,hc2,fun _=>by cases ad <;> simp [nf]⟩
 obtain ⟨c',e1,e2,e3⟩:=hrr.short ho (bjg _) hnm hno hw
 have e4:(HSt.den ⟨st.t,(id2,some (.arr true s e n' f)) :: (id,none) :: st.o⟩) = (st.den.setO id none).setO id2 (some (.arr true s e n' f)):=by
  unfold HSt.den S.setO;simp [bo]
 exact ⟨c',e1.trans hold,by rw [e4];exact e2,by rw [e4];exact e3⟩
end
end
section
def amk {l:List AS} {k:Nat} (hk:l.length <= k) (h:∀ j,0 < j -> j < k -> ¬ l.getD j default = l.getD (j - 1) default):ir l = l:=by
 have:=uz (bjg l.length) fun j h1 h2=>h j h1 bnl;rw [bjk] at this;exact this
def agx {l m:List AS} {k p q:Nat} (hC:CpI l k p q m) (hq:¬ q < l.length):(ir l).length = p /\ m.take p = ir l:=by
 have e:=hC.pre;have h1:=hC.ql;have h2:=hC.len;have h3:=hC.pq;rw [show q = l.length by omega,bjk] at e;exact ⟨by rw [<- e];simp;omega,e⟩
def b5u {l m:List AS} {k p q n a d:Nat} {z:List Value} {e:TypeId} (hC:CpI l k p q m) (hq:¬ q < l.length) (ha:p <= a) (hn:n = p):CoO (.arr true 1 e n (o6 (lf sC m) a d z)) (.arr true 1 e (ir l).length (lf sC (ir l))):=by
 obtain ⟨h1,h2⟩:=agx hC hq;subst hn;refine ⟨fun h=>h,rfl,rfl,h1,fun i j hi hj=>CoP.of_eq ?_⟩;show o6 (lf sC m) a d z i j = lf sC (ir l) i j;unfold o6;rw [if_neg bnl];simp only [lf,List.getD];have e:(ir l)[i]? = m[i]?:=by rw [<- h2,bkb,if_pos hi]
 rw [e]
def kj {id n m:Nat} (h:n = m):CoR (.v (.one (.ref id n))) (.v (.one (.ref id m))):=by rw [h];exact CoR.refl _
end
section
open Go.Proofs
def aw6 (l:List AS):d4 bo6 216 [.one (.ref 900 l.length)] [(900, .arr true 1 46 l.length (lf sC l))] (.v (.one (.ref 901 (ir l).length))) [(901, .arr true 1 46 (ir l).length (lf sC (ir l)))] []:=by
 refine hfx (nt:=61) Tryz.func216 ?_;refine ce ?_;refine ab9 900 rfl fun hlen=>?_;refine c7 ?_;refine hcd (fun h0=>?_) (fun h0=>?_)
 · refine w_5 ?_;refine wq 2 901 rfl rfl rfl rfl ?_;refine hrr ?_;have he:=amk (l:=l) (k:=l.length) (bjg _) (fun j h1 h2=>by omega);exact ⟨_,_,rfl,bnn,kj (by rw [he]),⟨⟨_,rfl,ew he (by rw [he])⟩,trivial⟩⟩
 refine w_7 ?_;refine ae (ι:=Nat) (ka 0 kn) (kb 900 km) (fun k=>⟨[(3,some (vI k))],[]⟩) (fun k=>1 <= k /\ k <= l.length /\ ∀ j,0 < j -> j < k -> ¬ l.getD j default = l.getD (j - 1) default) (fun k=>l.length - k) (1) (⟨bjg _,by omega,fun j h1 h2=>by omega⟩) kk ?_;rintro k ⟨hk1,hk,hI⟩;refine w_8 ?_;refine hcd (fun h1=>?_) (fun h1=>?_)
 ·
  refine zc ?_;refine hcd (fun h2=>?_) (fun h2=>?_)
  ·
   refine j9 ?_;refine ae (ι:=Nat × Nat × List AS) (ka 0 (ka 4 kn)) km (fun x=>⟨[(3,some (vI x.1)),(5,some (vI ((x.2.1:Int) - k)))],[(900,some (.arr true 1 46 l.length (lf sC x.2.2)))]⟩) (fun x=>CpI l k x.1 x.2.1 x.2.2) (fun x=>l.length - x.2.1) ((k,k + 1,l)) (CpI.start hk1 bnl hI (ya bnm rfl bnl)) ⟨⟨zy,⟨_,rfl,(coi bno)⟩,trivial⟩,uu⟩ ?_;rintro ⟨p,q,m⟩ hC;have hC0:=hC;obtain ⟨hml,hkq,hpq,hql,_,_⟩:=hC0;dsimp only at hC hml hkq hpq hql;refine w_8 ?_;refine hcd (fun h3=>?_) (fun h3=>?_)
   ·
    simp only [dx,b8,bjo] at h3;refine zc ?_;refine hcn (fun h4=>?_) (fun h4=>?_)
    ·
     refine aei ?_
     first | (refine ⟨(p + 1, q + 1, m.set p (m.getD q default)), ?_, ?_, ?_⟩
              · exact hC.keep bnl (xy bnm bnq bnq)
              · first | omega | (dsimp only;omega)
              exact ⟨⟨⟨_,rfl,(coi bno)⟩,⟨_,rfl,(coi bno)⟩,tt⟩,⟨⟨_,rfl,(sy id hml.symm bnl (by dsimp only;omega) bnq)⟩,trivial⟩⟩)
           | (refine ⟨(p,q + 1,m), ?_, ?_, ?_⟩
              · exact hC.skip bnl (ya bnm bnq bnq)
              · first | omega | (dsimp only;omega)
              exact ⟨⟨⟨_,rfl,(coi bno)⟩,⟨_,rfl,(coi bno)⟩,tt⟩,uu⟩)
    refine w_6 ?_
    first | (refine ⟨(p + 1, q + 1, m.set p (m.getD q default)), ?_, ?_, ?_⟩
             · exact hC.keep bnl (xy bnm bnq bnq)
             · first | omega | (dsimp only;omega)
             exact ⟨⟨⟨_,rfl,(coi bno)⟩,⟨_,rfl,(coi bno)⟩,tt⟩,⟨⟨_,rfl,(sy id hml.symm bnl (by dsimp only;omega) bnq)⟩,trivial⟩⟩)
          | (refine ⟨(p,q + 1,m), ?_, ?_, ?_⟩
             · exact hC.skip bnl (ya bnm bnq bnq)
             · first | omega | (dsimp only;omega)
             exact ⟨⟨⟨_,rfl,(coi bno)⟩,⟨_,rfl,(coi bno)⟩,tt⟩,uu⟩)
   simp only [dx,b8,bjo] at h3;refine w_6 ?_;refine r9 0 true ?_;refine w_8 ?_;refine amj 2 901 rfl rfl rfl rfl (by simp only [dx,b8,bjo];omega) rfl ?_;refine hrr ?_;have he:=(agx hC bnl).1;exact ⟨_,_,rfl,bnn,kj (by rw [he];simp [dx,b8]),⟨⟨_,rfl,b5u hC bnl (by simp [b8]) (by simp [dx,b8])⟩,trivial⟩⟩
  refine w_6 ?_;refine lpz (k + 1) kk ?_;refine ⟨by omega,by show k + 1 <= _;omega,fun j h1 h2=>?_⟩
  rcases blx (bm8 h2) with h | h
  · exact hI j h1 h
  subst h;exact xy bnm rfl bnl
 refine w_6 ?_;refine wq 2 901 rfl rfl rfl rfl ?_;refine hrr ?_;have he:=amk (l:=l) (k:=k) bnl hI;exact ⟨_,_,rfl,bnn,kj (by rw [he]),⟨⟨_,rfl,ew he (by rw [he])⟩,trivial⟩⟩
def b8t (l:List AS) (hl:l.length <= 8589934592):d4 bo6 169 [.one (.p (asl l))] [] (.v (.one (.ref 901 (ord l).length))) [(901, .arr true 1 46 (ord l).length (lf sC (ord l)))] []:=by
 refine hfx (nt:=10) Tryz.func169 ?_;refine w_7 ?_;refine fc9 a54 (a26 l.length false (lf sC l) bnl) trivial ?_;refine w_5 ?_;refine fc9 aoz (b2f 0 _ l hl) uu ?_;refine w_4 ?_;refine gh rfl rfl rfl rfl rfl rfl (wgx Tryz.func216) ((aw6 (srt l)).swap 900 0) (⟨congrArg (HV.ref 0) (a7r l).symm,trivial⟩) ⟨⟨_,rfl,ew rfl (a7r l).symm⟩,trivial⟩ rfl rfl ?_;refine w_2 ?_;refine hrr ?_;exact ⟨_,_,rfl,bnn,kj (by rw [a3g]),⟨⟨_,rfl,ew (a3g _).symm (by rw [a3g])⟩,trivial⟩⟩
def atm (s:AS):d4 bo6 118 [.one (.p (asC s))] [] (.v (.one (.ref 901 (aw s).length))) [(901, .arr true 1 46 (aw s).length (lf sC (aw s)))] []:=by
 refine hfx (nt:=23) Tryz.func118 ?_;refine w_8 ?_;refine qcx ye (a7h s) ?_;refine w_2 ?_;refine hcd (fun h0=>?_) (fun h0=>?_)
 · refine w_4 ?_;refine cb 2 901 true 1 46 (lf sC []) bns rfl (CoP.sl rfl (.inr rfl) (fun h=>h) (fun i j hi _=>absurd hi (bjh i))) (.inr rfl) rfl ?_;refine hrr ?_;exact ⟨_,_,rfl,bnn,kj (by rw [a23 h0];rfl),⟨⟨_,rfl,ew (a23 h0) (by rw [a23 h0];rfl)⟩,trivial⟩⟩
 refine w_4 ?_;refine m9 0 ?_;refine w_9 ?_;refine ae (ι:=List AS × AS) (ka 0 kn) km (fun y=>⟨[(3,some (.v (.one (.ref 0 y.1.length)))),(4,some (vA y.2))],[(0,some (.arr true 1 46 y.1.length (lf sC y.1)))]⟩) (fun y=>a7a s y) (fun y=>y.2.toNat) (([s],s)) (agu s) ⟨tt,⟨⟨_,rfl,(zn (CoP.refl _))⟩,trivial⟩⟩ ?_;rintro y hy;have hlen:=hy.2.1;have hsl:=s.isLt;refine w_6 ?_;refine hcn (fun h1=>?_) (fun h1=>?_)
 ·
  have hne:y.2 ≠ 0:=fun e=>h1 (by rw [e];rfl);refine w_5 ?_;refine rq rfl rfl rfl rfl rfl ?_ (hp:=(yz hne));refine w_7 ?_;refine m9 1 ?_;refine r9 2 true ?_;refine w_2 ?_;refine ⟨(y.1 ++ [(y.2 - 1) &&& s],(y.2 - 1) &&& s), ?_, ?_, ?_⟩
  · exact ags hy hne
  · exact pn hne
  exact ⟨⟨⟨_,rfl,(bv rfl)⟩,⟨_,rfl,(br (zg hne))⟩,tt⟩,⟨⟨_,rfl,(bt rfl (CoP.of_eq (by rw [zg hne];rfl)))⟩,trivial⟩⟩
 have hz:y.2 = 0:=c8.1 h1;refine w_2 ?_;refine aq 3 rfl rfl rfl ?_;refine w_2 ?_;refine fc9 y4 (b8t y.1 bnl) trivial ?_;refine w_2 ?_;refine hrr ?_;have he:=(akf hy hz).trans (ae9 h0).symm;exact ⟨_,_,rfl,bnn,kj (by rw [he]),⟨⟨_,rfl,ew he.symm (by rw [he])⟩,trivial⟩⟩
end
section
def ol (l:List Fd) (p:AS):Int:=if bh 16 l = 0 then (if 8 < bsz p then 3 else if p >>> 16 = 0 then 0 else 1) else bh 16 l
def a47 (l:List Fd) (p:AS):Fd:=if ol l p = 0 then kz l p else ⟨0,0⟩
def tv (l:List Fd) (p:AS):Bool:=decide (ol l p = 0) && dy l p
def ahx {f:Fd} (h:f = ⟨0,0⟩):CoC (.agg [kr (.int .u32 0),kr (.int .u32 0)]) f.pc:=CoC.of_eq (by rw [h];rfl)
def bfo {a b:Fd} (h:a = b):CoC a.pc b.pc:=CoC.of_eq (by rw [h])
section
variable {l:List Fd} {p:AS}
def bdh (h:¬ bh 16 l = 0):ol l p = bh 16 l /\ a47 l p = ⟨0,0⟩ /\ tv l p = false:=by
 have e:ol l p = bh 16 l:=if_neg h;unfold a47 tv;rw [e];exact ⟨rfl,if_neg h,by rw [decide_eq_false h];rfl⟩
def bcr (h:bh 16 l = 0) (h2:(8:Int) < bsz p):ol l p = 3 /\ a47 l p = ⟨0,0⟩ /\ tv l p = false:=by
 have e:ol l p = 3:=by unfold ol;rw [if_pos h,if_pos bnl]
 unfold a47 tv;rw [e];exact ⟨rfl,rfl,rfl⟩
def ajy {n:Nat}:(asI p).fdiv (2 ^ (min n 32)) = 0 <-> p >>> n = 0:=by
 rw [xc,show (0:Int) = asI 0 from rfl,c8]
def bc1 (h:bh 16 l = 0) (h2:¬ (8:Int) < bsz p) (h3:¬ (asI p).fdiv (2 ^ (min 16 32)) = 0):ol l p = 1 /\ a47 l p = ⟨0,0⟩ /\ tv l p = false:=by
 rw [ajy] at h3;have e:ol l p = 1:=by unfold ol;rw [if_pos h,if_neg bnl,if_neg h3]
 unfold a47 tv;rw [e];exact ⟨rfl,rfl,rfl⟩
def bb2 (h:bh 16 l = 0) (h2:¬ (8:Int) < bsz p) (h3:(asI p).fdiv (2 ^ (min 16 32)) = 0):ol l p = 0 /\ a47 l p = kz l p /\ tv l p = dy l p:=by
 rw [ajy] at h3;have e:ol l p = 0:=by unfold ol;rw [if_pos h,if_neg bnl,if_pos h3]
 unfold a47 tv;rw [e];exact ⟨rfl,rfl,rfl⟩
def bcP (n:Int) (l:List Fd) (f:Fd):Bool:=decide (f.rhs &&& ~~~f.lhs ≠ 0) && decide (clo l f.lhs ≠ a8 n)
def bcS (n:Int) (l:List Fd):Bool:=decide (bh n l = 0) && !l.any (bcP n l)
def gw (n:Int) (l:List Fd):List AS:=if gm n l 8 = 0 then (aw (a8 n)).filter fun s=>!dy l s else []
def bdf {n:Int} (h:gm n l 8 = 0):gw n l = (aw (a8 n)).filter fun s=>!dy l s:=if_pos h
def ban {n:Int} (h:¬ gm n l 8 = 0):gw n l = []:=if_neg h
def a6n {n m:Int} (h:gm n l m = 0):bh n l = 0 /\ n <= m:=by
 unfold gm at h;split at h
 · rename_i hv
   split at h
   · cases h
   exact ⟨hv,by omega⟩
 rename_i hv;exact absurd h hv
def ayi (n:Int) (l:List Fd):(gw n l).length <= 4294967296:=by
 unfold gw;have:=ta (a8 n);split
 · exact bjr (bl8 _ _) this
 simp
end
end
section
open Go.Proofs
def bgc (l:List Fd) (p:AS):a6 bo6 157 [pP (fdl l),pA p] (a7 [(a47 l p).pc,pB (tv l p),pI (ol l p)]):=by
 refine hpx (nt:=32) Tryz.func157 ?_;refine sx7 ?_;refine m9 0 ?_;refine w_7 ?_;refine qcx uy (z8 16 l) ?_;refine w_7 ?_;refine hcn (fun h0=>?_) (fun h0=>?_)
 · refine w_8 ?_;refine hrr ?_;have he:=bdh (p:=p) h0;exact f9 rfl rfl (⟨ahx he.2.1,ccb he.2.2.symm,cci he.1.symm,trivial⟩)
 refine w_5 ?_;refine qcx ye (a7h p) ?_;refine w_2 ?_;refine hcd (fun h1=>?_) (fun h1=>?_)
 · refine w_7 ?_;refine hrr ?_;have he:=bcr h0 h1;exact f9 rfl rfl (⟨ahx he.2.1,ccb he.2.2.symm,cci he.1.symm,trivial⟩)
 refine w_8 ?_;refine hcn (fun h2=>?_) (fun h2=>?_)
 · refine w_7 ?_;refine hrr ?_;have he:=bc1 h0 h1 h2;exact f9 rfl rfl (⟨ahx he.2.1,ccb he.2.2.symm,cci he.1.symm,trivial⟩)
 refine w_5 ?_;refine qcx aib (arf l p) ?_;refine w_3 ?_;refine m9 1 ?_;refine ct ?_;refine hrr ?_;have he:=bb2 h0 h1 h2;exact f9 rfl rfl (⟨bfo he.2.1.symm,ccb he.2.2.symm,cci he.1.symm,trivial⟩)
def b7j (s:AS) (l:List Fd):a6 bo6 146 [pA s,pP (bx (fdl l))] (a7 [pB (dy l s)]):=by
 refine hpx (nt:=13) Tryz.func146 ?_;refine w_8 ?_;refine qcx aib (arf l s) ?_;refine w_3 ?_;refine m9 0 ?_;refine v_8 ?_;exact CoL.refl _
def bc7 (n:Int) (l:List Fd):a6 bo6 89 [pI n,pP (fdl l)] (a7 [pP (asl (gw n l)),pI (gm n l 8)]):=by
 refine hpx (nt:=18) Tryz.func89 ?_;refine sx7 ?_;refine m9 2 ?_;refine w_8 ?_;refine qcx (wgx Tryz.func76) (bcx n l) ?_;refine w_7 ?_;refine hcn (fun h0=>?_) (fun h0=>?_)
 · refine v_6 ?_;exact ⟨CoC.one (a38 (ban h0)),CoC.refl _,trivial⟩
 refine w_2 ?_;have hv:=fv (a6n h0).1;refine cw 3 rfl rfl rfl ?_;refine w_2 ?_;refine qcx aio (arp n hv.1 hv.2.1) ?_;refine fc9 a89 (atm (a8 n)) trivial ?_;refine qy ?_;refine fc9 adb ((as1 (aw (a8 n)) 146 1 (fun i=>[bx (fdl l)].getD i .any) (dy l) (wgx Tryz.func146) (fun s=>b7j s l)).swap 900 901) uu ?_;refine v_3 ?_;exact ⟨CoC.one (CoP.of_eq (by rw [bdf h0])),cci h0.symm,trivial⟩
end
section
def pg (l:List Fd) (p z:AS):AS:=(p &&& clo l (z &&& p)) &&& ~~~z
def er (l:List Fd) (z p:AS):Bool:=decide (pg l p z ≠ 0)
def af1 (l:List Fd) (ps:List AS):Nat -> AS -> AS
 | 0,z=>z
 | n + 1,z=>match ps.find? (er l z) with
  | none=>z
  | some p=>af1 l ps n (z ||| pg l p z)
def a2t (l:List Fd) (ps:List AS) (z:AS):AS:=af1 l ps 4294967297 z
def xv (l:List Fd) (ps:List AS) (f:Fd):Bool:=decide (sub f.rhs (a2t l ps f.lhs))
def b9u (l:List Fd) (p z:AS):al .andNot .u32 (al .and .u32 (asI p) (asI (clo l (z &&& p)))) (asI z) = asI (pg l p z):=by rw [fc,gk];rfl
section
variable {l:List Fd}
def b8r {p z:AS}:(!decide (asI (pg l p z) = 0)) = er l z p:=by
 unfold er;rw [show (0:Int) = asI 0 from rfl,aat];simp
def bdj {z m:AS} (h:m &&& ~~~z = m) (h0:m ≠ 0):z.toNat < (z ||| m).toNat:=by
 have hs:sub z (z ||| m):=ar.2 fun i _ hi=>by rw [bky,hi];rfl
 have hle:=a07 hs
 rcases blx hle with h1 | h1
 · exact h1
 exfalso;apply h0;have e:z = z ||| m:=bka h1
 apply bkv;intro i hi;have e1:=congrArg (fun s:AS=>s.getLsbD i) e;have e2:=congrArg (fun s:AS=>s.getLsbD i) h;simp only [bky,bjv,blg] at e1 e2;have e3:(0:AS).getLsbD i = false:=by simp
 rw [e3];rw [decide_eq_true hi] at e2;clear h h0 hs hle h1 e;revert e1 e2;cases z.getLsbD i <;> cases m.getLsbD i <;> simp
def azr {p z:AS} (h:er l z p = true):z.toNat < (z ||| pg l p z).toNat:=by
 refine bdj ?_ (of_decide_eq_true h);unfold pg;rw [BitVec.and_assoc,BitVec.and_self]
def a97 (l:List Fd) (ps:List AS) (z0:AS) (x:Nat × List Nat × AS):Prop:=af1 l ps x.1 x.2.2 = a2t l ps z0 /\ 4294967296 < x.1 + x.2.2.toNat /\ x.2.1.length + x.1 = 4294967297
def ais (l:List Fd) (ps:List AS) (z0:AS):a97 l ps z0 (4294967297,[],z0):=by
 refine ⟨rfl, ?_, ?_⟩
 · dsimp only;omega
 dsimp only;rw [bli]
variable {ps:List AS} {x:Nat × List Nat × AS}
def a7z {z0:AS} (h:a97 l ps z0 x):0 < x.1:=by
 have:=h.2.1;have:=x.2.2.isLt;omega
def ap2 {z0:AS} (h:a97 l ps z0 x) (hi:idx (er l x.2.2) ps < 0):x.2.2 = a2t l ps z0:=by
 have hp:=a7z h;rw [<- h.1];obtain ⟨n,hn⟩:∃ n,x.1 = n + 1:=⟨x.1 - 1,by omega⟩;rw [hn];unfold af1
 have:ps.find? (er l x.2.2) = none:=by
  have hm:idx (er l x.2.2) ps = -1:=by
   by_cases h:idx (er l x.2.2) ps = -1
   · exact h
   obtain ⟨i,h1,_⟩:=yk h;omega
  exact ak9 (a9t hm)
 rw [this]
def ajv {z0:AS} {i:Nat} (h:a97 l ps z0 x) (hi:i < ps.length) (hv:er l x.2.2 (ps.getD i default) = true) (hj:∀ j,j < i -> er l x.2.2 (ps.getD j default) = false):
 a97 l ps z0 (x.1 - 1,x.2.1 ++ [i],x.2.2 ||| pg l (ps.getD i default) x.2.2):=by
 have hp:=a7z h;have hlt:=azr hv;obtain ⟨h1,h2,h3⟩:=h;obtain ⟨n,hn⟩:∃ n,x.1 = n + 1:=⟨x.1 - 1,by omega⟩;refine ⟨?_,by dsimp only;omega, ?_⟩
 · rw [<- h1,hn]
   have:ps.find? (er l x.2.2) = some (ps.getD i default):=ab7 hi hj hv;show af1 l ps n _ = _
   conv=>rhs;unfold af1
   rw [this]
 dsimp only;rw [bjj,bkw];omega
def bw (l:List Fd) (ps:List AS) (i:Nat):List Nat:=(List.range i).filter fun j=>!xv l ps (l.getD j default)
def o3 (l:List Fd) (ps:List AS):Bool:=(List.range l.length).all fun j=>xv l ps (l.getD j default)
def sw {i:Nat} (h:xv l ps (l.getD i default) = false):bw l ps (i + 1) = bw l ps i ++ [i]:=by
 unfold bw;rw [bl4,bkq];simp only [bko,h,bnh,bmm,if_true,bl6,bkd,bkr,if_false]
def sx {i:Nat} (h:xv l ps (l.getD i default) = true):bw l ps (i + 1) = bw l ps i:=by
 unfold bw;rw [bl4,bkq];simp only [bko,h,bnh,bmm,if_true,bl6,bkd,bkr,if_false]
def afj (l:List Fd) (ps:List AS) (i:Nat):(bw l ps i).length <= i:=bjr (bl8 _ _) (by rw [blu];exact bjg _)
def a9i:decide (((bw l ps l.length).length:Int) = 0) = o3 l ps:=by
 unfold bw o3;rw [blh,decide_eq_true_iff,bkk];constructor
 · intro h x hx
   have h0:((List.range l.length).filter fun j=>!xv l ps (l.getD j default)) = []:=bkx bnl;rw [bnf] at h0;have:=h0 x hx;simpa using this
 intro h;rw [bnf.2 fun x hx=>(by rw [h x hx];decide)];rfl
def bbu {f:Fd}:decide (al .andNot .u32 (asI f.rhs) (asI (a2t l ps f.lhs)) = 0) = xv l ps f:=decide_eq_decide.2 j6
def b5v (l:List Fd):HV.clo 247 2 (fun i=>[HV.p (bx (fdl l)), .ptr 1 0].getD i (.p .any)) = HV.clo 247 2 (fun i=>([HV.p (bx (fdl l)), .ptr 1000 0].getD i (.p .any)).ren (swp 1000 1)) :=
 congrArg (HV.clo 247 2) (funext fun i=>match i with | 0=>rfl | 1=>rfl | n + 2=>rfl)
end
end
end Go.Hx

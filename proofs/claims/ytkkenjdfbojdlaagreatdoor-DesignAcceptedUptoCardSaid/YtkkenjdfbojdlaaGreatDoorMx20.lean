/- A part of the proof: Cs15 V13 Cs16 V14 Hx24 Cs17 V15 Cs18 V16 Cs19. -/
import Derived.Test.YtkkenjdfbojdlaaGreatDoorMx19
set_option linter.all false
set_option maxRecDepth 100000
namespace Go.Hx
section
def a4w (a b:Nat):a &&& b = 2 * (a / 2 &&& b / 2) + (a % 2 &&& b % 2):=by
 have h1:=Nat.div_add_mod (a &&& b) 2
 have h2:(a &&& b) % 2 = a % 2 &&& b % 2:=by
  have:=Nat.and_mod_two_pow (a:=a) (b:=b) (n:=1);simpa using this
 rw [Nat.and_div_two,h2] at h1;exact h1.symm
def agy (a b:Nat):(a % 2 &&& b % 2) = if a % 2 = 1 /\ b % 2 = 1 then 1 else 0:=by
 rcases Nat.mod_two_eq_zero_or_one a with h | h <;> rcases Nat.mod_two_eq_zero_or_one b with k | k <;> rw [h,k] <;> rfl
section
variable {x:Nat}
def a8o {s:Nat} (h:x &&& s = x):(x / 2 &&& s / 2 = x / 2) /\ (x % 2 = 1 -> s % 2 = 1):=by
 have h1:=a4w x s;rw [h,agy] at h1;split at h1 <;> rename_i hc
 · exact ⟨by omega,fun _=>hc.2⟩
 exact ⟨by omega,fun hx=>by omega⟩
def anc:∀ (x s z:Nat),x &&& s = x -> z &&& s = z -> z < x -> z <= ((x - 1) &&& s):=by
 intro x
 induction x using Nat.strongRecOn with
 | _ x ih =>
  intro s z hx hz hlt;obtain ⟨x1,x2⟩:=a8o hx;obtain ⟨z1,z2⟩:=a8o hz;rw [a4w (x - 1) s,agy]
  rcases Nat.mod_two_eq_zero_or_one x with hb | hb
  · have e1:(x - 1) / 2 = x / 2 - 1:=by omega
    have e2:(x - 1) % 2 = 1:=by omega
    have:=ih (x / 2) bsq (s / 2) (z / 2) x1 z1 bsq;rw [e1,e2];by_cases hs:s % 2 = 1
    · rw [if_pos ⟨rfl,hs⟩];omega
    rw [if_neg (fun h=>hs h.2)];have:z % 2 = 0:=by omega
    omega
  have e1:(x - 1) / 2 = x / 2:=by omega
  have e2:(x - 1) % 2 = 0:=by omega
  rw [e1,e2,x1,if_neg bsq];omega
def asy:∀ (w y s:Nat),y &&& s = y -> s < 2 ^ w -> ((2 ^ w - 1 - y) &&& s) = s - y:=by
 intro w
 induction w with
 | zero=>intro y s h hs;obtain rfl:s = 0:=(by simpa using hs);simp
 | succ w ih =>
  intro y s h hs;obtain ⟨y1,y2⟩:=a8o h;have hle:y <= s:=by rw [<- h];exact brb
  rw [bs6] at hs ⊢;have hp:=bsb w;have:=ih (y / 2) (s / 2) y1 bsq;have hle2:y / 2 <= s / 2:=by omega
  rw [a4w,agy,show (2 ^ w * 2 - 1 - y) / 2 = 2 ^ w - 1 - y / 2 by omega,this];split <;> omega
def axa {y s:Nat} (h:y &&& s = y):(s - y) &&& s = s - y:=by
 rw [<- asy s y s h Nat.lt_two_pow_self,Nat.and_assoc,Nat.and_self]
def b9j {w s:Nat} (hx:x &&& s = x) (hs:s < 2 ^ w) (hne:x < s):((2 ^ w + x - s) &&& s) = s - ((s - x - 1) &&& s):=by
 have h1:((s - x - 1) &&& s) &&& s = (s - x - 1) &&& s:=by rw [Nat.and_assoc,Nat.and_self]
 rw [<- asy w _ s h1 hs];have hp:=bsb w;apply Nat.eq_of_testBit_eq;intro i;have hlt:s - x - 1 < 2 ^ w:=by omega
 have hlt2:((s - x - 1) &&& s) < 2 ^ w:=brp Nat.and_le_left hlt;rw [Nat.testBit_and,Nat.testBit_and,show 2 ^ w + x - s = 2 ^ w - (s - x - 1 + 1) by omega,Nat.testBit_two_pow_sub_succ hlt,show 2 ^ w - 1 - ((s - x - 1) &&& s) = 2 ^ w - (((s - x - 1) &&& s) + 1) by omega,Nat.testBit_two_pow_sub_succ hlt2,Nat.testBit_and];cases s.testBit i <;> simp
def alz {w s z:Nat} (hx:x &&& s = x) (hs:s < 2 ^ w) (hz:z &&& s = z) (hlt:x < z):((2 ^ w + x - s) &&& s) <= z /\ x < ((2 ^ w + x - s) &&& s):=by
 have hzs:z <= s:=by rw [<- hz];exact brb
 rw [b9j hx hs bsq];have h1:=anc (s - x) s (s - z) (axa hx) (axa hz) bsq;have h2:((s - x - 1) &&& s) <= s - x - 1:=Nat.and_le_left;omega
variable {s z:AS}
def a8z:sub z s <-> z.toNat &&& s.toNat = z.toNat:=by
 rw [<- bra,BitVec.toNat_inj,ae];constructor
 · intro h
   apply bpx;intro k hk;rw [boh]
   cases hz:z.getLsbD k with
   | false=>rfl
   | true=>rw [h k hk hz];rfl
 intro h i _ hi;rw [<- h,boh] at hi;simp at hi;exact hi.2
def ah5 (h:sub z s):bsz z <= bsz s:=by
 unfold bsz;apply List.countP_mono_left;intro i hi hb;exact ae.1 h i (bor.1 hi) hb
def a2o (s:AS):Nat -> AS -> List AS
 | 0,_=>[]
 | n + 1,x=>x :: if x = 0 then [] else a2o s n ((x - 1) &&& s)
def a5x {x:AS} (h:x ≠ 0):(x - 1).toNat = x.toNat - 1:=by
 have h0:x.toNat ≠ 0:=fun e=>h (bp8 e);have:=x.isLt;rw [BitVec.toNat_sub];show (2 ^ 32 - 1 + x.toNat) % 2 ^ 32 = _;omega
def a5u {x:AS}:sub ((x - 1) &&& s) s:=by
 rw [a8z,bra,Nat.and_assoc,Nat.and_self]
def so {x:AS} (h:x ≠ 0):((x - 1) &&& s).toNat < x.toNat:=by
 have h0:x.toNat ≠ 0:=fun e=>h (bp8 e);rw [bra,a5x h];have:((x.toNat - 1) &&& s.toNat) <= x.toNat - 1:=Nat.and_le_left;omega
def acv {x:AS} (hx:sub x s) (hz:sub z s) (h:z.toNat < x.toNat):z.toNat <= ((x - 1) &&& s).toNat:=by
 have h0:x ≠ 0:=fun e=>by subst e;exact absurd h (bod _)
 rw [bra,a5x h0];exact anc _ _ _ (a8z.1 hx) (a8z.1 hz) h
def anr:∀ (n:Nat) (x:AS),sub x s -> x.toNat < n -> ∀ z,z ∈ a2o s n x <-> sub z s /\ z.toNat <= x.toNat
 | 0,x,_,h,z=>absurd h (bod _)
 | n + 1,x,hx,h,z=>by
  unfold a2o;by_cases h0:x = 0
  · rw [if_pos h0,bom]
    subst h0;constructor
    · rintro rfl;exact ⟨hx,bo9 _⟩
    rintro ⟨_,h⟩;exact bp8 (Nat.le_antisymm h (boe _))
  rw [if_neg h0,bok,anr n _ a5u (by have:=so (s:=s) h0;omega)];constructor
  · rintro (rfl | ⟨h1,h2⟩)
    · exact ⟨hx,bo9 _⟩
    have:=so (s:=s) h0;exact ⟨h1,by omega⟩
  rintro ⟨h1,h2⟩;by_cases he:z = x
  · exact .inl he
  have hne:z.toNat ≠ x.toNat:=fun e=>he (bp8 e);exact .inr ⟨h1,acv hx h1 bsq⟩
def a03 (s:AS):List AS:=ord (a2o s (s.toNat + 1) s)
def sub_self (s:AS):sub s s:=by rw [a8z,Nat.and_self]
def a2g (h:sub z s):z.toNat <= s.toNat:=by rw [<- a8z.1 h];exact brb
def rt:z ∈ a03 s <-> sub z s:=by
 unfold a03;rw [gn,anr _ _ (sub_self s) (Nat.lt_succ_self _)];exact ⟨fun h=>h.1,fun h=>⟨h,a2g h⟩⟩
def ape {l:List AS} (ho:t8 l) (h:∀ z,z ∈ l <-> sub z s):l = a03 s:=tw ho (ja _) fun z=>by rw [h z];exact rt.symm
def av (s:AS):List AS:=if 12 < bsz s then [] else a03 s
def a3w (h:(12:Int) < bsz s):av s = []:=if_pos bsq
def a9v (h:¬ (12:Int) < bsz s):av s = a03 s:=if_neg bsq
def aa6 (s:AS) (y:List AS × AS):Prop:=sub y.2 s /\ y.1.length + y.2.toNat <= s.toNat + 1 /\ ∀ z,z ∈ y.1 <-> sub z s /\ y.2.toNat <= z.toNat
def ajt (s:AS):aa6 s ([s],s):=⟨sub_self s,by simp only [bpz];omega,fun z=>by
 rw [bom];constructor
 · rintro rfl;exact ⟨sub_self _,bo9 _⟩
 rintro ⟨h1,h2⟩;exact bp8 (Nat.le_antisymm (a2g h1) h2)⟩
def ajf {y:List AS × AS} (h:aa6 s y) (h0:y.2 ≠ 0):aa6 s (y.1 ++ [(y.2 - 1) &&& s],(y.2 - 1) &&& s):=by
 obtain ⟨h1,h2,h3⟩:=h;have hl:=so (s:=s) h0;refine ⟨a5u,by simp only [bob,bpz];omega,fun z=>?_⟩;rw [boj,bom,h3];constructor
 · rintro (⟨k1,k2⟩ | rfl)
   · exact ⟨k1,by dsimp only;omega⟩
   exact ⟨a5u,bo9 _⟩
 rintro ⟨k1,k2⟩;dsimp only at k2;by_cases hz:y.2.toNat <= z.toNat
 · exact .inl ⟨k1,hz⟩
 have:=acv h1 k1 bsq;exact .inr (bp8 bsq)
def ala {y:List AS × AS} (h:aa6 s y) (h0:y.2 = 0):ord y.1 = a03 s:=ape (ja _) fun z=>by
 rw [gn,h.2.2,h0];exact ⟨fun h=>h.1,fun h=>⟨h,boe _⟩⟩
def nxt (x s:Nat):Nat:=if x = s then s + 1 else ((2 ^ 64 + x - s) &&& s)
def UpI (s:AS) (k:Nat) (y:List AS × Nat):Prop :=
 (y.2 = s.toNat + 1 \/ y.2 &&& s.toNat = y.2) /\ y.1.length <= k * 4294967296 + y.2 /\ t8 y.1 /\ ∀ z,z ∈ y.1 <-> sub z s /\ (bsz z < k \/ bsz z = k /\ z.toNat < y.2)
def xg {s:Nat} (hs:s < 2 ^ 32) (hx:x &&& s = x):x < nxt x s /\ (nxt x s = s + 1 \/ nxt x s &&& s = nxt x s) /\ ∀ z,z &&& s = z -> x < z -> nxt x s <= z:=by
 have hle:x <= s:=by rw [<- hx];exact brb
 have hs':s < 2 ^ 64:=Nat.lt_trans hs bsu;unfold nxt;by_cases he:x = s
 · rw [if_pos he]
   refine ⟨by omega, .inl rfl,fun z hz hlt=>?_⟩;have:z <= s:=by rw [<- hz];exact brb
   omega
 rw [if_neg he];refine ⟨(alz hx hs' (Nat.and_self s) bsq).2, .inr (by rw [Nat.and_assoc,Nat.and_self]),fun z hz hlt=>(alz hx hs' hz hlt).1⟩
variable {k:Nat} {y:List AS × Nat}
def a5k (h:UpI s k y) (hy:y.2 <= s.toNat):y.2 &&& s.toNat = y.2:=by
 rcases h.1 with h | h
 · omega
 exact h
def b7e (h:UpI s k y):y.2 <= s.toNat + 1:=by
 rcases h.1 with h | h
 · omega
 have:y.2 <= s.toNat:=by rw [<- h];exact brb
 omega
def axi (h:UpI s k y) (hy:y.2 <= s.toNat):(BitVec.ofNat 32 y.2).toNat = y.2:=by
 have:=s.isLt;rw [bsc,br8 bsq]
def bh3 (h:UpI s k y) (hy:y.2 <= s.toNat) (hk:bsz (BitVec.ofNat 32 y.2) = k):UpI s k (y.1 ++ [BitVec.ofNat 32 y.2],nxt y.2 s.toNat):=by
 have hn:=axi h hy;obtain ⟨s1,s2,s3⟩:=xg s.isLt (a5k h hy);have hsub:sub (BitVec.ofNat 32 y.2) s:=a8z.2 (by rw [hn];exact a5k h hy);obtain ⟨h1,h2,h3,h4⟩:=h;refine ⟨s2,by simp only [bob,bpz];omega, ?_,fun z=>?_⟩
 · refine brj.2 ⟨h3,List.pairwise_singleton _ _,fun a ha b hb=>?_⟩
   rw [bom] at hb;subst hb;rw [p8];have:=((h4 a).1 ha).2;omega
 rw [boj,bom,h4];dsimp only;constructor
 · rintro (⟨k1,k2⟩ | rfl)
   · exact ⟨k1,by omega⟩
   exact ⟨hsub, .inr ⟨hk,by omega⟩⟩
 rintro ⟨k1,k2 | ⟨k2,k3⟩⟩
 · exact .inl ⟨k1, .inl k2⟩
 by_cases hz:z.toNat < y.2
 · exact .inl ⟨k1, .inr ⟨k2,hz⟩⟩
 by_cases hz2:y.2 < z.toNat
 · have:=s3 z.toNat (a8z.1 k1) hz2
   omega
 exact .inr (bp8 bsq)
def bgo (h:UpI s k y) (hy:y.2 <= s.toNat) (hk:bsz (BitVec.ofNat 32 y.2) ≠ k):UpI s k (y.1,nxt y.2 s.toNat):=by
 have hn:=axi h hy;obtain ⟨s1,s2,s3⟩:=xg s.isLt (a5k h hy);obtain ⟨h1,h2,h3,h4⟩:=h;refine ⟨s2,by dsimp only;omega,h3,fun z=>?_⟩;rw [h4];dsimp only;constructor
 · rintro ⟨k1,k2⟩
   exact ⟨k1,by omega⟩
 rintro ⟨k1,k2 | ⟨k2,k3⟩⟩
 · exact ⟨k1, .inl k2⟩
 by_cases hz:z.toNat < y.2
 · exact ⟨k1, .inr ⟨k2,hz⟩⟩
 by_cases hz2:y.2 < z.toNat
 · have:=s3 z.toNat (a8z.1 k1) hz2
   omega
 have e:z = BitVec.ofNat 32 y.2:=bp8 bsq;exact absurd (e ▸ k2) hk
def UpK (s:AS) (k:Nat) (l:List AS):Prop:=l.length <= k * 4294967296 /\ t8 l /\ ∀ z,z ∈ l <-> sub z s /\ bsz z < k
def b36 (s:AS):UpK s 0 []:=by
 refine ⟨?_,List.Pairwise.nil,fun z=>?_⟩
 · show 0 <= _
   exact boe _
 constructor
 · intro h;cases h
 rintro ⟨_,h⟩;omega
def bgh {l:List AS} (h:UpK s k l):UpI s k (l,0):=by
 obtain ⟨h1,h2,h3⟩:=h;unfold UpI;dsimp only;refine ⟨.inr (Nat.zero_and _),bon h1 (Nat.le_add_right _ _),h2,fun z=>?_⟩;rw [h3];constructor
 · rintro ⟨a,b⟩
   exact ⟨a, .inl b⟩
 rintro ⟨a,b | ⟨_,b⟩⟩
 · exact ⟨a,b⟩
 exact absurd b (bod _)
def b9g (h:UpI s k y) (hy:¬ y.2 <= s.toNat):UpK s (k + 1) y.1:=by
 have h0:=b7e h;have:=s.isLt;obtain ⟨h1,h2,h3,h4⟩:=h;refine ⟨by rw [bpl];omega,h3,fun z=>?_⟩;rw [h4];constructor
 · rintro ⟨k1,k2⟩
   exact ⟨k1,by omega⟩
 rintro ⟨k1,k2⟩;have:=a2g k1;exact ⟨k1,by omega⟩
def b9e {l:List AS} (h:UpK s k l) (hk:bsz s < k):l = a03 s:=ape h.2.1 fun z=>by
 rw [h.2.2];exact ⟨fun h=>h.1,fun h=>⟨h,by have:=ah5 h;omega⟩⟩
abbrev pU (n:Nat):PC:=.one (.raw (.int .u64 (n:Int)))
abbrev vU (n:Nat):HR:=bn (.raw (.int .u64 (n:Int)))
def alk (n:Int):IntKind.wrap .u64 n = n % 18446744073709551616:=by
 simp [IntKind.wrap,IntKind.signed,IntKind.bits]
def bh8 {s:Nat} (hs:s < 4294967296) (hx:x <= s) (h:¬ (x:Int) = s) {a:Int} (ha:a = IntKind.wrap .u64 ((x:Int) - s) \/ a = (x:Int) - s):ap .and .u64 a s = (nxt x s:Nat):=by
 unfold nxt;rw [if_neg bsq];show IntKind.wrap .u64 ((BitVec.ofInt 64 a &&& BitVec.ofInt 64 s).toNat:Int) = _
 have e1:(BitVec.ofInt 64 a).toNat = 2 ^ 64 + x - s:=by
  rw [BitVec.toNat_ofInt]
  rcases ha with rfl | rfl
  · rw [alk]
    omega
  omega
 have e2:(BitVec.ofInt 64 (s:Int)).toNat = s:=by
  rw [BitVec.toNat_ofInt];omega
 have h2:((2 ^ 64 + x - s) &&& s) <= s:=brb;rw [bra,e1,e2,alk];omega
def bhs {s:Nat} (hs:s < 4294967296) (h:(x:Int) = s):(s:Int) + 1 = (nxt x s:Nat):=by
 unfold nxt;rw [if_pos bsq];omega
def a13 {x:AS} (h:x ≠ 0):ap .and .u32 (asI x - 1) (asI s) = asI ((x - 1) &&& s):=by rw [aoh h,gk]
def y4 {α:Type} [Inhabited α] {wr wr':Bool} {e:TypeId} {c:α -> Nat -> PV} {x:α} {f:Nat -> Nat -> PV} (h:CoP (f 0 0) (c x 0)) (hw:wr' = true -> wr = true:=by exact fun h=>h):CoO (.arr wr 1 e 1 f) (.arr wr' 1 e [x].length (lf c [x])) :=
 ⟨hw,rfl,rfl,rfl,fun i j hi hj=>by
  have hi:i < 1:=hi;have hj:j < 1:=hj;obtain rfl:j = 0:=by omega
  obtain rfl:i = 0:=by omega
  exact h⟩
def jn {n:Nat} (h:n < 4294967296):(n:Int) = asI (BitVec.ofNat 32 n):=by
 unfold asI;rw [bsc];omega
end
end
section
open Go.Proofs
def b6u (x s:Nat) (hs:s < 4294967296) (hx:x <= s):a7 btb 173 [pU x,pU s] (aa [pU (nxt x s)]):=by
 refine hpx (nt:=15) Tryz.func173 ?_;refine dl ?_;refine hcd (fun h0=>?_) (fun h0=>?_)
 · refine v_6 ?_;exact ⟨cci (bhs hs h0),trivial⟩
 refine w_5 ?_;refine rqw rfl rfl rfl rfl rfl ?_;refine v_4 ?_;exact ⟨cci (bh8 hs hx h0 (by first | exact .inl rfl | exact .inr rfl)),trivial⟩
def a9x:goodFn btb 118:=wgx Tryz.func118
def b7o (s:AS):a7 btb 118 [pA s] (aa [pP (asl (av s))]):=by
 refine hpx (nt:=23) Tryz.func118 ?_;refine w_8 ?_;refine qcx a0o (aag s) ?_;refine w_2 ?_;refine hcd (fun h0=>?_) (fun h0=>?_)
 · refine v_4 ?_;exact ⟨CoC.one (a2s (a3w h0)),trivial⟩
 refine w_4 ?_;refine m9 0 ?_;refine w_9 ?_;refine ah (ι:=List AS × AS) (ka 0 kn) km (fun y=>⟨[(3,some (.v (.one (.ref 0 y.1.length)))),(4,some (vA y.2))],[(0,some (.arr true 1 46 y.1.length (lf sC y.1)))]⟩) (fun y=>aa6 s y) (fun y=>y.2.toNat) (([s],s)) (ajt s) ⟨tt,⟨⟨_,rfl,(y4 (CoP.refl _))⟩,trivial⟩⟩ ?_;rintro y hy;have hlen:=hy.2.1;have hsl:=s.isLt;refine w_6 ?_;refine hcn (fun h1=>?_) (fun h1=>?_)
 ·
  have hne:y.2 ≠ 0:=fun e=>h1 (by rw [e];rfl);refine w_5 ?_;refine rq rfl rfl rfl rfl rfl ?_ (hp:=(a15 hne));refine w_7 ?_;refine m9 1 ?_;refine r9 2 true ?_;refine w_2 ?_;refine ⟨(y.1 ++ [(y.2 - 1) &&& s],(y.2 - 1) &&& s), ?_, ?_, ?_⟩
  · exact ajf hy hne
  · exact so hne
  exact ⟨⟨⟨_,rfl,(c8 rfl)⟩,⟨_,rfl,(bz (a13 hne))⟩,tt⟩,⟨⟨_,rfl,(bu rfl (CoP.of_eq (by rw [a13 hne];rfl)))⟩,trivial⟩⟩
 have hz:y.2 = 0:=ck.1 h1;refine w_2 ?_;refine b6 3 rfl rfl rfl ?_;refine w_2 ?_;refine qcx a0l (a94 y.1 bsq) ?_;refine v_2 ?_;exact ⟨CoC.one (CoP.of_eq (by rw [a9v h0,ala hy hz])),trivial⟩
def axu (s:AS):a7 btb 124 [pA s] (aa [pP (asl (av s))]):=by
 refine hpx (nt:=34) Tryz.func124 ?_;refine w_8 ?_;refine rc rfl rfl rfl rfl rfl rfl xi (a0x _) (⟨cci (by first | rfl | exact jn bsq),trivial⟩) rfl rfl ?_;refine w_2 ?_;refine hcd (fun h0=>?_) (fun h0=>?_)
 · refine v_4 ?_;exact ⟨CoC.one (a2s (a3w h0)),trivial⟩
 refine dl ?_;refine ct 3 900 true 1 46 (lf sC []) bsu rfl (CoP.sl rfl (.inr rfl) (fun h=>h) (fun i j hi _=>absurd hi (bod i))) (.inr rfl) rfl ?_;refine ah (ι:=List AS × Nat) (ka 0 kn) km (fun x=>⟨[(3,some (.v (.one (.ref 900 x.1.length)))),(4,some (vI x.2))],[(900,some (.arr true 1 46 x.1.length (lf sC x.1)))]⟩) (fun x=>UpK s x.2 x.1 /\ x.2 <= bsz s + 1) (fun x=>bsz s + 1 - x.2) (([],0)) (⟨b36 s,boe _⟩) kk ?_;rintro x ⟨hx,hxb⟩;have hlen:=hx.1;have hsl:=s.isLt;have hbz:=aer s;refine w_5 ?_;refine rc rfl rfl rfl rfl rfl rfl xi (a0x _) (⟨cci (by first | rfl | exact jn bsq),trivial⟩) rfl rfl ?_;refine w_2 ?_;refine hcd (fun h1=>?_) (fun h1=>?_)
 ·
  refine w_8 ?_;refine ah (ι:=List AS × Nat) (ka 0 (ka 4 kn)) km (fun y=>⟨[(3,some (.v (.one (.ref 900 y.1.length)))),(5,some (vU y.2))],[(900,some (.arr true 1 46 y.1.length (lf sC y.1)))]⟩) (fun y=>UpI s x.2 y) (fun y=>s.toNat + 1 - y.2) ((x.1,0)) (bgh hx) kk ?_;rintro y hy;have hlen2:=hy.2.1;have hyl:=b7e hy;have hsa:asI s = (s.toNat:Int):=rfl;refine w_5 ?_;refine qy ?_ (hp:=(by simp only [iw,inR,o4,qa];omega));refine w_2 ?_;refine hcd (fun h2=>?_) (fun h2=>?_)
  ·
   refine w_6 ?_;refine qy ?_ (hp:=(by simp only [iw,inR,o4,qa];omega));refine rc rfl rfl rfl rfl rfl rfl xi (a0x _) (⟨cci (by first | rfl | exact jn bsq),trivial⟩) rfl rfl ?_;refine w_3 ?_;refine hcd (fun h3=>?_) (fun h3=>?_)
   ·
    refine w_3 ?_;refine qy ?_ (hp:=(by simp only [iw,inR,o4,qa];omega));refine m9 0 ?_;refine r9 1 true ?_;refine w_5 ?_;refine qy ?_ (hp:=(by simp only [iw,inR,o4,qa];omega));refine rc rfl rfl rfl rfl rfl rfl (wgx Tryz.func173) (b6u y.2 s.toNat s.isLt bsq) (⟨CoC.refl _,cci rfl,trivial⟩) rfl rfl ?_;refine w_2 ?_
    first | (refine ⟨(y.1 ++ [BitVec.ofNat 32 y.2], nxt y.2 s.toNat), ?_, ?_, ?_⟩
             · exact bh3 hy bsq bsq
             · have:=(xg s.isLt (a5k hy bsq)).1
               dsimp only;omega
             exact ⟨⟨⟨_,rfl,(c8 rfl)⟩,tt⟩,⟨⟨_,rfl,(bu rfl (CoP.of_eq (congrArg (fun z=>PV.raw (.int .u32 z)) (jn bsq))))⟩,trivial⟩⟩)
          | (refine ⟨(y.1,nxt y.2 s.toNat), ?_, ?_, ?_⟩
             · exact bgo hy bsq bsq
             · have:=(xg s.isLt (a5k hy bsq)).1
               dsimp only;omega
             exact kk)
   refine w_4 ?_;refine qy ?_ (hp:=(by simp only [iw,inR,o4,qa];omega));refine rc rfl rfl rfl rfl rfl rfl (wgx Tryz.func173) (b6u y.2 s.toNat s.isLt bsq) (⟨CoC.refl _,cci rfl,trivial⟩) rfl rfl ?_;refine w_2 ?_
   first | (refine ⟨(y.1 ++ [BitVec.ofNat 32 y.2], nxt y.2 s.toNat), ?_, ?_, ?_⟩
            · exact bh3 hy bsq bsq
            · have:=(xg s.isLt (a5k hy bsq)).1
              dsimp only;omega
            exact ⟨⟨⟨_,rfl,(c8 rfl)⟩,tt⟩,⟨⟨_,rfl,(bu rfl (CoP.of_eq (congrArg (fun z=>PV.raw (.int .u32 z)) (jn bsq))))⟩,trivial⟩⟩)
         | (refine ⟨(y.1,nxt y.2 s.toNat), ?_, ?_, ?_⟩
            · exact bgo hy bsq bsq
            · have:=(xg s.isLt (a5k hy bsq)).1
              dsimp only;omega
            exact kk)
  refine w_6 ?_;refine ⟨(y.1,x.2 + 1), ?_, ?_, ?_⟩
  · show UpK s (x.2 + 1) y.1 /\ x.2 + 1 <= _
    exact ⟨b9g (y:=y) hy bsq,by omega⟩
  · dsimp only
    omega
  exact kk
 refine w_6 ?_;refine b6 2 rfl rfl rfl ?_;exact hx8 rfl rfl rfl (⟨CoC.one (CoP.of_eq (by rw [a9v h0,b9e hx bsq];rfl)),trivial⟩)
end
section
def ll (l:List Fd) (p x:AS):Bool:=decide (clo l x &&& p ≠ x) && decide (clo l x &&& p ≠ p)
def a1x (l:List Fd) (p:AS):Option AS:=(av p).find? (ll l p)
def apn (l:List Fd) (p x:AS):Fd:=⟨x,(clo l x &&& p) &&& ~~~x⟩
def jy (l:List Fd) (p:AS):Fd:=match a1x l p with
 | some x=>apn l p x
 | none=>⟨0,0⟩
def cr (l:List Fd) (p:AS):Bool:=(a1x l p).isSome
def ae8 {α:Type} [Inhabited α] {q:α -> Bool} {l:List α} {i:Nat} (hi:i < l.length) (hI:∀ j,j < i -> q (l.getD j default) = false) (h:q (l.getD i default) = true):l.find? q = some (l.getD i default):=by
 rw [List.find?_eq_some_iff_getElem];refine ⟨h,i,hi,by simp [List.getD,hi],fun j hj=>?_⟩;have:=hI j hj;rw [bo7,bo6 bsq,bp0] at this;simp [this]
def apb {α:Type} [Inhabited α] {q:α -> Bool} {l:List α} (hI:∀ j,j < l.length -> q (l.getD j default) = false):l.find? q = none:=by
 rw [br2];intro x hx;obtain ⟨j,hj,rfl⟩:=bou hx;have:=hI j hj;rw [bo7,bo6 hj,bp0] at this;simp [this]
section
variable {l:List Fd} {p:AS}
def apd {i:Nat} (hi:i < (av p).length) (hI:∀ j,j < i -> ll l p ((av p).getD j default) = false) (h:ll l p ((av p).getD i default) = true):jy l p = apn l p ((av p).getD i default) /\ cr l p = true:=by
 have e:a1x l p = some ((av p).getD i default):=ae8 hi hI h;unfold jy cr;rw [e];exact ⟨rfl,rfl⟩
def am5 (hI:∀ j,j < (av p).length -> ll l p ((av p).getD j default) = false):jy l p = ⟨0,0⟩ /\ cr l p = false:=by
 have e:a1x l p = none:=apb hI;unfold jy cr;rw [e];exact ⟨rfl,rfl⟩
def adu {x:AS} (h:ap .and .u32 (asI (clo l x)) (asI p) = asI x):ll l p x = false:=by
 rw [gk,ck] at h;unfold ll;simp [h]
def aei {x:AS} (h:ap .and .u32 (asI (clo l x)) (asI p) = asI p):ll l p x = false:=by
 rw [gk,ck] at h;unfold ll;simp [h]
def aej {x:AS} (h:¬ ap .and .u32 (asI (clo l x)) (asI p) = asI x) (k:¬ ap .and .u32 (asI (clo l x)) (asI p) = asI p):ll l p x = true:=by
 rw [gk,ck] at h k;unfold ll;simp [h,k]
def aud {i:Nat} {a b:PV} (hi:i < (av p).length) (hI:∀ j,j < i -> ll l p ((av p).getD j default) = false) (h:ll l p ((av p).getD i default) = true) (ha:a = asC ((av p).getD i default)) (hb:b = .raw (.int .u32 (ap .andNot .u32 (ap .and .u32 (asI (clo l ((av p).getD i default))) (asI p)) (asI ((av p).getD i default))))):CoC (.agg [a,b]) (jy l p).pc :=
 CoC.of_eq (by rw [(apd hi hI h).1,ha,hb,gk,it];rfl)
def aot (hI:∀ j,j < (av p).length -> ll l p ((av p).getD j default) = false):CoC (.agg [me (.int .u32 0),me (.int .u32 0)]) (jy l p).pc:=CoC.of_eq (by rw [(am5 hI).1];rfl)
def a7b {s:AS}:∀ (n:Nat) (x:AS),(a2o s n x).length <= x.toNat + 1
 | 0,x=>boe _
 | n + 1,x=>by
  unfold a2o;by_cases h0:x = 0
  · rw [if_pos h0];simp
  rw [if_neg h0,bov];have h1:=a7b (s:=s) n ((x - 1) &&& s);have h2:=so (s:=s) h0;omega
def vd (s:AS):(av s).length <= 4294967296:=by
 unfold av a03;have h1:=a7b (s:=s) (s.toNat + 1) s;have h2:=n3 (a2o s (s.toNat + 1) s);have h3:=s.isLt;split
 · simp
 omega
end
end
section
open Go.Proofs
def alq:goodFn btb 78:=wgx Tryz.func78
def auj (l:List Fd) (p:AS):a7 btb 78 [pP (fdl l),pA p] (aa [(jy l p).pc,pB (cr l p)]):=by
 refine hpx (nt:=36) Tryz.func78 ?_;refine sx7 ?_;refine m9 0 ?_;refine w_6 ?_;refine qcx a9x (b7o p) ?_;refine w_4 ?_;refine ah (ι:=Nat) (ka 0 (ka 1 (ka 4 (ka 10 (ka 11 kn))))) (kb 0 km) (fun i=>⟨[(12,some (vI i))],[]⟩) (fun i=>i <= (av p).length /\ (∀ j,j < i -> ll l p ((av p).getD j default) = false)) (fun i=>(av p).length - i) (0) (⟨boe _,c5⟩) kk ?_;rintro i ⟨hi,hI⟩;have hlen:=vd p;refine w_5 ?_;refine hcd (fun h0=>?_) (fun h0=>?_)
 ·
  refine kw ?_;refine qcx vr (yr l ((av p).getD i default)) ?_;refine d5 ?_;refine ai rfl rfl (fun r1=>?_) (fun r1=>?_)
  ·
   have h1:=tz2 (ci r1);(iterate 3 refine qy ?_ (hg:=(gtt r1)));refine w_2 ?_;refine am _ rfl (fun r2=>?_) (fun r2=>?_)
   · have h2:=tz2 (ci (bq r1 r2));refine d5 ?_;exact hx8 rfl rfl rfl (⟨aud (i:=i) bsq hI (aej h1 h2) rfl rfl,ccb (apd (i:=i) bsq hI (aej h1 h2)).2.symm,trivial⟩)
   have h2:=tz1 (cj (bq r1 r2));refine w_5 ?_;refine lpz (i + 1) kk ?_;exact ⟨by show i + 1 <= _;omega,b7 hI (by first | exact adu h1 | exact aei h2)⟩
  have h1:=tz1 (cj r1);(iterate 3 refine k9 (gft r1) ?_);refine w_8 ?_;refine lpz (i + 1) kk ?_
  exact ⟨by show i + 1 <= _;omega,b7 hI (by first | exact adu h1 | exact aei h2)⟩
 refine v_7 ?_;exact ⟨aot (fun j hj=>hI j bsq),ccb (am5 (fun j hj=>hI j bsq)).2.symm,trivial⟩
def bgp (l:List Fd) (p:AS):a7 btb 145 [pP (fdl l),pA p] (aa [(jy l p).pc,pB (cr l p)]):=by
 refine hpx (nt:=48) Tryz.func145 ?_;refine sx7 ?_;refine m9 0 ?_;refine w_5 ?_;refine qcx (wgx Tryz.func124) (axu p) ?_;refine w_8 ?_;refine ah (ι:=Nat) (ka 0 (ka 1 (ka 4 (ka 6 kn)))) (kb 0 km) (fun i=>⟨[(7,some (vI i))],[]⟩) (fun i=>i <= (av p).length /\ (∀ j,j < i -> ll l p ((av p).getD j default) = false)) (fun i=>(av p).length - i) (0) (⟨boe _,c5⟩) kk ?_;rintro i ⟨hi,hI⟩;have hlen:=vd p;refine w_8 ?_;refine hcd (fun h0=>?_) (fun h0=>?_)
 ·
  refine d5 ?_;refine qcx aa1 (a97 l ((av p).getD i default)) ?_;refine kw ?_;refine ai rfl rfl (fun r1=>?_) (fun r1=>?_)
  ·
   have h1:=tz2 (ci r1);(iterate 3 refine qy ?_ (hg:=(gtt r1)));refine w_2 ?_;refine am _ rfl (fun r2=>?_) (fun r2=>?_)
   · have h2:=tz2 (ci (bq r1 r2));refine a3c ?_;exact hx8 rfl rfl rfl (⟨aud (i:=i) bsq hI (aej h1 h2) rfl rfl,ccb (apd (i:=i) bsq hI (aej h1 h2)).2.symm,trivial⟩)
   have h2:=tz1 (cj (bq r1 r2));refine w_6 ?_;refine lpz (i + 1) kk ?_;exact ⟨by show i + 1 <= _;omega,b7 hI (by first | exact adu h1 | exact aei h2)⟩
  have h1:=tz1 (cj r1);(iterate 3 refine k9 (gft r1) ?_);refine w_9 ?_;refine lpz (i + 1) kk ?_
  exact ⟨by show i + 1 <= _;omega,b7 hI (by first | exact adu h1 | exact aei h2)⟩
 refine v_7 ?_;exact ⟨aot (fun j hj=>hI j bsq),ccb (am5 (fun j hj=>hI j bsq)).2.symm,trivial⟩
def bi3 (l:List Fd) (p:AS):a7 btb 108 [pP (fdl l),pA p] (aa [pB (!cr l p)]):=by
 refine hpx (nt:=15) Tryz.func108 ?_;refine w_8 ?_;refine qcx (wgx Tryz.func145) (bgp l p) ?_;refine w_3 ?_;refine m9 0 ?_;refine v_9 ?_;exact CoL.refl _
end
section
open Go.RowKit
section
variable {w0:World} {nt:Nat} {c:Ctx} {s:S} {a:Act} {w:World}
def aj.short (h:aj w0 nt c s a w) {id id' sz n m:Nat} {el:TypeId} {f:Nat -> Nat -> PV} (ho:s.o id = some (.arr true sz el n f)) (hm:m <= n) (hnm:NM s id') (hno:s.o id' = none) {u:Value} (hu:bh c s.o (.win id n 0 m) u) :
 ∃ c',c'.old = c.old /\ aj w0 nt c' ((s.setO id none).setO id' (some (.arr true sz el m f))) a w /\ ar c' ((s.setO id none).setO id' (some (.arr true sz el m f))).o (.v (.one (.ref id' m))) u:=by
 have hne:id ≠ id':=fun e=>by rw [<- e,ho] at hno;cases hno
 obtain ⟨ad,ad',cap,q1,q2,q3,q4,q5,q6⟩:=a0g hu ho rfl;obtain ⟨h0,h1,h5⟩:=h.objs id _ ho
 have hold:∀ k ob,((s.setO id none).setO id' (some (.arr true sz el m f))).o k = some ob -> k ≠ id' -> s.o k = some ob /\ k ≠ id:=fun k ob hk hk'=>by
  simp only [S.setO,if_neg hk'] at hk;by_cases hki:k = id
  · subst hki;simp at hk
  rw [if_neg hki] at hk;exact ⟨hk,hki⟩
 obtain ⟨bk,hbk,hok⟩:∃ bk:Nat -> Prop,(∀ b,bk b -> c.blk id b) /\ ∀ c':Ctx,c'.imm = c.imm -> c'.own id' = u -> c'.blk id' = bk -> ∀ o':b4,fe 0 c' o' w id' (.arr true sz el m f):=by
  rcases h5 with ⟨h6,xs,h2,h4⟩ | ⟨h6 | h6,h7,h8⟩
  · obtain ⟨hxl,hrow⟩:=h2
    rcases hrow with ⟨hv0,hz⟩ | ⟨g,cap',cur,hown,hbase,hheap,hnc,hcm,hcs,htake⟩
    · rw [hv0] at q1
      simp only [Value.slice.injEq] at q1;obtain ⟨rfl,_,rfl⟩:=q1;obtain rfl:n = 0:=by omega
      obtain rfl:m = 0:=by omega
      refine ⟨noB,fun b hb=>hb.elim,fun c' e1 e2 e3 o'=>⟨h0,boe _, .inr ⟨.inr rfl,e3, ?_⟩⟩⟩;rw [e2,q2];exact ⟨ad',0,rfl,bo9 _,boe _,fun _=>rfl,fun h=>absurd h (brr 0)⟩
    rw [hown] at q1;simp only [Value.slice.injEq,true_and] at q1;obtain ⟨rfl,rfl⟩:=q1;by_cases hcap:cap' = 0
    · subst hcap
      obtain rfl:m = 0:=by omega
      refine ⟨noB,fun b hb=>hb.elim,fun c' e1 e2 e3 o'=>⟨h0,boe _, .inr ⟨.inr rfl,e3, ?_⟩⟩⟩;rw [e2,q2];exact ⟨ad',0,rfl,bo9 _,boe _,fun _=>rfl,fun h=>absurd h (brr 0)⟩
    obtain rfl:=q6 bsq;simp only [bp5,dz,Nat.zero_mul,bqo,bs3] at q2;have hmul:m * sz <= n * sz:=bot _ hm;refine ⟨jp u,fun b hb=>by rw [h6,hown];rw [q2] at hb;exact hb,fun c' e1 e2 e3 o'=>⟨h0,bon hm h1, .inl ⟨by rw [e2,e3],xs.take (m * sz),⟨by rw [boi,hxl,bq4 hmul], .inr ⟨g,cap',cur,by rw [e2,q2],hbase,hheap,by omega,hcm,hcs, ?_⟩⟩,fun i j hi hj=>?_⟩⟩⟩
    · rw [<- htake,List.take_take,bq4 hmul]
    obtain ⟨x,hx,hr⟩:=h4 i j bsq hj;refine ⟨x, ?_,by rw [e1];exact hr⟩;rw [bpf,if_pos (a44 hi hj)];exact hx
  · cases h6
  subst h6;obtain rfl:m = 0:=by omega
  refine ⟨noB,fun b hb=>hb.elim,fun c' e1 e2 e3 o'=>⟨h0,boe _, .inr ⟨.inr rfl,e3, ?_⟩⟩⟩;obtain ⟨ad2,cap2,r1,r2,r3,r4,_⟩:=h8;rw [q1] at r1;simp only [Value.slice.injEq,true_and] at r1;obtain ⟨rfl,rfl⟩:=r1;obtain rfl:cap = 0:=r4 rfl;rw [e2,q2];exact ⟨ad',0,rfl,bo9 _,boe _,fun _=>rfl,fun h=>absurd h (brr 0)⟩
 have hevo:∀ k,k ≠ id' -> Evo c s.o { c with own:=fun k=>if k = id' then u else c.own k,blk:=fun k=>if k = id' then bk else c.blk k } ((s.setO id none).setO id' (some (.arr true sz el m f))).o k:=fun k hk=>by
  by_cases hki:k = id
  · subst hki
    exact .inl (by simp [S.setO,hk])
  exact Evo.of_same (by simp [S.setO,hk,hki]) (by simp [hk])
 refine ⟨{ c with own:=fun k=>if k = id' then u else c.own k,blk:=fun k=>if k = id' then bk else c.blk k },rfl,⟨h.defers,h.size,h.below,fun d x hx=>?_,fun k ob hk=>?_,fun i i' obi obi' b hi hi' hb hb'=>?_,h.imm,fun k ob b hk hb=>?_,h.was,h.frm,fun k ob b hk hb=>?_,fun k hk=>?_⟩, ?_⟩
 · exact (h.tmps d x hx).evo (Imm.le.refl c.imm) fun k hkm=>hevo k (by rintro rfl;exact hnm.1 d x hx hkm)
 · by_cases hk':k = id'
   · subst hk'
     obtain rfl:ob = .arr true sz el m f:=by simpa [S.setO] using hk.symm
     refine hok _ ?_ ?_ ?_ _ <;> first | rfl | exact if_pos rfl
   obtain ⟨hk1,hk2⟩:=hold k ob hk hk';exact (h.objs k ob hk1).keep (Imm.le.refl c.imm) (by simp [hk']) (by simp [hk']) (fun j hj=>hevo j (by rintro rfl;exact hnm.2.1 k ob hk1 hj)) fun b _=>rfl
 · have hone:∀ k ob b,k ≠ id' -> ((s.setO id none).setO id' (some (.arr true sz el m f))).o k = some ob -> c.blk k b -> bk b -> False:=fun k ob b hk' hk hb hbb=>by
    obtain ⟨hk1,hk2⟩:=hold k ob hk hk';exact hk2 (h.inj k id ob _ b hk1 ho hb (hbk b hbb))
   by_cases e1:i = id'
   · by_cases e2:i' = id'
     · rw [e1,e2]
     exact (hone i' obi' b e2 hi' (by simpa [e2] using hb') (by simpa [e1] using hb)).elim
   by_cases e2:i' = id'
   · exact (hone i obi b e1 hi (by simpa [e1] using hb) (by simpa [e2] using hb')).elim
   exact h.inj i i' obi obi' b (hold i obi hi e1).1 (hold i' obi' hi' e2).1 (by simpa [e1] using hb) (by simpa [e2] using hb')
 · by_cases hk':k = id'
   · exact h.sep id _ b ho (hbk b (by simpa [hk'] using hb))
   exact h.sep k ob b (hold k ob hk hk').1 (by simpa [hk'] using hb)
 · by_cases hk':k = id'
   · exact h.fsep id _ b ho (hbk b (by simpa [hk'] using hb))
   exact h.fsep k ob b (hold k ob hk hk').1 (by simpa [hk'] using hb)
 · exact (h.fixed k hk).trans (hevo k (by have:=hnm.2.2;omega))
 refine ⟨hu.1,fun l=>by simp [S.setO],fun ob2 s2 e2 n2 ho2 hd2=>?_⟩;simp only [S.setO,if_true,bo5] at ho2;subst ho2;simp only [a8.dim,bo5,bof] at hd2;obtain ⟨rfl,rfl,rfl⟩:=hd2;exact ⟨bo9 _,fun _=>by simp⟩
end
section
variable {ro:Option Nat} {P:Program} {nt:Nat} {st:HSt} {Q:Exit -> HSt -> Prop}
def acf {c:Code} (d id2:Nat) {id n n' i m s:Nat} {e:TypeId} {f:Nat -> Nat -> PV} (hd:bf st.t d = some (.v (.one (.win id n i m)))) (ho:bf st.o id = some (.arr true s e n' f)) (hn:n' = n) (hi:i = 0) (hm:m <= n) (hnew:th id2 st = true)
 (h:HW (ro:=ro) P nt c ⟨(d,some (.v (.one (.ref id2 m)))) :: st.t,(id2,some (.arr true s e m f)) :: (id,none) :: st.o⟩ Q):HW (ro:=ro) P nt c st Q:=by
 subst hn hi;obtain ⟨hnm,hno⟩:=lx hnew;refine yj ⟨st.t,(id2,some (.arr true s e m f)) :: (id,none) :: st.o⟩ d (.v (.one (.ref id2 m))) (fun w0 m0 a w hr=>?_) h;obtain ⟨cc,hold,hrr⟩:=hr;obtain ⟨c',e1,e2,e3⟩:=hrr.short ho hm hnm hno (hrr.tmps d _ hd)
 have e4:(HSt.den ⟨st.t,(id2,some (.arr true s e m f)) :: (id,none) :: st.o⟩) = (st.den.setO id none).setO id2 (some (.arr true s e m f)):=by
  unfold HSt.den S.setO;simp [bo]
 exact ⟨c',e1.trans hold,by rw [e4];exact e2,by rw [e4];exact e3⟩
def sa {c:Code} (d id2:Nat) {id n n' s:Nat} {e:TypeId} {f:Nat -> Nat -> PV} (hd:bf st.t d = some (.v (.one (.ref id n)))) (ho:bf st.o id = some (.arr true s e n' f)) (hn:n' = n) (hnew:th id2 st = true)
 (h:HW (ro:=ro) P nt c ⟨(d,some (.v (.one (.ref id2 n)))) :: st.t,(id2,some (.arr true s e n f)) :: (id,none) :: st.o⟩ Q):HW (ro:=ro) P nt c st Q:=by
 subst hn;obtain ⟨hnm,hno⟩:=lx hnew;refine yj ⟨st.t,(id2,some (.arr true s e n' f)) :: (id,none) :: st.o⟩ d (.v (.one (.ref id2 n'))) (fun w0 m0 a w hr=>?_) h;obtain ⟨cc,hold,hrr⟩:=hr;have hu:bh cc st.den.o (.ref id n') (a.tmps.getD d undef):=hrr.tmps d _ hd
 have hw:bh cc st.den.o (.win id n' 0 n') (a.tmps.getD d undef):=by
  refine ⟨hu.1,hu.2.1,fun ob s2 e2 n2 ho2 hd2=>⟨(hu.2.2 _ _ _ _ ho2 hd2).1,fun hk=>?_⟩⟩;have he:=(hu.2.2 _ _ _ _ ho2 hd2).2 hk;obtain rfl:ob = .arr true s e n' f:=Option.some.inj (ho2.symm.trans ho);simp only [a8.dim,bo5,bof] at hd2;obtain ⟨rfl,rfl,rfl⟩:=hd2;obtain ⟨ad,cap,hv,hc1,hc2⟩:=a0b (hrr.objs _ _ ho2);exact ⟨ad,ad,cap,hv,by rw [he,hv];rfl,by omega,hc1,hc2,fun _=>by cases ad <;> simp [qg]⟩
 obtain ⟨c',e1,e2,e3⟩:=hrr.short ho (bo9 _) hnm hno hw
 have e4:(HSt.den ⟨st.t,(id2,some (.arr true s e n' f)) :: (id,none) :: st.o⟩) = (st.den.setO id none).setO id2 (some (.arr true s e n' f)):=by
  unfold HSt.den S.setO;simp [bo]
 exact ⟨c',e1.trans hold,by rw [e4];exact e2,by rw [e4];exact e3⟩
end
end
section
def apz {l:List AS} {k:Nat} (hk:l.length <= k) (h:∀ j,0 < j -> j < k -> ¬ l.getD j default = l.getD (j - 1) default):jo l = l:=by
 have:=x6 (bo9 l.length) fun j h1 h2=>h j h1 bsq;rw [bog] at this;exact this
def ais {l m:List AS} {k p q:Nat} (hC:CpI l k p q m) (hq:¬ q < l.length):(jo l).length = p /\ m.take p = jo l:=by
 have e:=hC.pre;have h1:=hC.ql;have h2:=hC.len;have h3:=hC.pq;rw [show q = l.length by omega,bog] at e;exact ⟨by rw [<- e];simp;omega,e⟩
def b9a {l m:List AS} {k p q n a d:Nat} {z:List Value} {e:TypeId} (hC:CpI l k p q m) (hq:¬ q < l.length) (ha:p <= a) (hn:n = p):CoO (.arr true 1 e n (qv (lf sC m) a d z)) (.arr true 1 e (jo l).length (lf sC (jo l))):=by
 obtain ⟨h1,h2⟩:=ais hC hq;subst hn;refine ⟨fun h=>h,rfl,rfl,h1,fun i j hi hj=>CoP.of_eq ?_⟩;show qv (lf sC m) a d z i j = lf sC (jo l) i j;unfold qv;rw [if_neg bsq];simp only [lf,List.getD];have e:(jo l)[i]? = m[i]?:=by rw [<- h2,bpf,if_pos hi]
 rw [e]
def jq {id n m:Nat} (h:n = m):CoR (.v (.one (.ref id n))) (.v (.one (.ref id m))):=by rw [h];exact CoR.refl _
end
section
open Go.Proofs
def b1n (l:List AS):dq btb 216 [.one (.ref 900 l.length)] [(900, .arr true 1 46 l.length (lf sC l))] (.v (.one (.ref 901 (jo l).length))) [(901, .arr true 1 46 (jo l).length (lf sC (jo l)))] []:=by
 refine hfx (nt:=61) Tryz.func216 ?_;refine cw ?_;refine adr 900 rfl fun hlen=>?_;refine d5 ?_;refine hcd (fun h0=>?_) (fun h0=>?_)
 · refine w_5 ?_;refine sa 2 901 rfl rfl rfl rfl ?_;refine hrr ?_;have he:=apz (l:=l) (k:=l.length) (bo9 _) (fun j h1 h2=>by omega);exact ⟨_,_,rfl,bss,jq (by rw [he]),⟨⟨_,rfl,fw he (by rw [he])⟩,trivial⟩⟩
 refine w_7 ?_;refine ah (ι:=Nat) (ka 0 kn) (kb 900 km) (fun k=>⟨[(3,some (vI k))],[]⟩) (fun k=>1 <= k /\ k <= l.length /\ ∀ j,0 < j -> j < k -> ¬ l.getD j default = l.getD (j - 1) default) (fun k=>l.length - k) (1) (⟨bo9 _,by omega,fun j h1 h2=>by omega⟩) kk ?_;rintro k ⟨hk1,hk,hI⟩;refine w_8 ?_;refine hcd (fun h1=>?_) (fun h1=>?_)
 ·
  refine a3c ?_;refine hcd (fun h2=>?_) (fun h2=>?_)
  ·
   refine kw ?_;refine ah (ι:=Nat × Nat × List AS) (ka 0 (ka 4 kn)) km (fun x=>⟨[(3,some (vI x.1)),(5,some (vI ((x.2.1:Int) - k)))],[(900,some (.arr true 1 46 l.length (lf sC x.2.2)))]⟩) (fun x=>CpI l k x.1 x.2.1 x.2.2) (fun x=>l.length - x.2.1) ((k,k + 1,l)) (CpI.start hk1 bsq hI (a0p bsr rfl bsq)) ⟨⟨zy,⟨_,rfl,(coi bsv)⟩,trivial⟩,uu⟩ ?_;rintro ⟨p,q,m⟩ hC;have hC0:=hC;obtain ⟨hml,hkq,hpq,hql,_,_⟩:=hC0;dsimp only at hC hml hkq hpq hql;refine w_8 ?_;refine hcd (fun h3=>?_) (fun h3=>?_)
   ·
    simp only [ek,az,bop] at h3;refine a3c ?_;refine hcn (fun h4=>?_) (fun h4=>?_)
    ·
     refine ad6 ?_
     first | (refine lpz (p + 1, q + 1, m.set p (m.getD q default)) ⟨⟨⟨_, rfl, (coi bsx)⟩, ⟨_, rfl, (coi bsx)⟩, tt⟩, ⟨⟨_, rfl, (vo id hml.symm bsq (by dsimp only; omega) bsy)⟩, trivial⟩⟩ ?_; exact hC.keep bsq (a0f bsr bsy bsy))
           | (refine lpz (p,q + 1,m) ⟨⟨⟨_,rfl,(coi bsv)⟩,⟨_,rfl,(coi bsv)⟩,tt⟩,uu⟩ ?_;exact hC.skip bsq (a0p bsr bt2 bt2))
    refine w_6 ?_
    first | (refine lpz (p + 1, q + 1, m.set p (m.getD q default)) ⟨⟨⟨_, rfl, (coi bsx)⟩, ⟨_, rfl, (coi bsx)⟩, tt⟩, ⟨⟨_, rfl, (vo id hml.symm bsq (by dsimp only; omega) bsy)⟩, trivial⟩⟩ ?_; exact hC.keep bsq (a0f bsr bsy bsy))
          | (refine lpz (p,q + 1,m) ⟨⟨⟨_,rfl,(coi bsv)⟩,⟨_,rfl,(coi bsv)⟩,tt⟩,uu⟩ ?_;exact hC.skip bsq (a0p bsr bt2 bt2))
   simp only [ek,az,bop] at h3;refine w_6 ?_;refine r9 0 true ?_;refine w_8 ?_;refine acf 2 901 rfl rfl rfl rfl (by simp only [ek,az,bop];omega) rfl ?_;refine hrr ?_;have he:=(ais hC bsq).1;exact ⟨_,_,rfl,bss,jq (by rw [he];simp [ek,az]),⟨⟨_,rfl,b9a hC bsq (by simp [az]) (by simp [ek,az])⟩,trivial⟩⟩
  refine w_6 ?_;refine lpz (k + 1) kk ?_;refine ⟨by omega,by show k + 1 <= _;omega,fun j h1 h2=>?_⟩
  rcases bqp (br4 h2) with h | h
  · exact hI j h1 h
  subst h;exact a0f bsr rfl bsq
 refine w_6 ?_;refine sa 2 901 rfl rfl rfl rfl ?_;refine hrr ?_;have he:=apz (l:=l) (k:=k) bsq hI;exact ⟨_,_,rfl,bss,jq (by rw [he]),⟨⟨_,rfl,fw he (by rw [he])⟩,trivial⟩⟩
def b8x (l:List AS) (hl:l.length <= 8589934592):dq btb 169 [.one (.p (asl l))] [] (.v (.one (.ref 901 (ord l).length))) [(901, .arr true 1 46 (ord l).length (lf sC (ord l)))] []:=by
 refine hfx (nt:=10) Tryz.func169 ?_;refine w_7 ?_;refine fc9 a78 (a42 l.length false (lf sC l) bsq) trivial ?_;refine w_5 ?_;refine fc9 arh (b7n 0 _ l hl) uu ?_;refine w_4 ?_;refine ik rfl rfl rfl rfl rfl rfl (wgx Tryz.func216) ((b1n (srt l)).swap 900 0) (⟨congrArg (HV.ref 0) (a9h l).symm,trivial⟩) ⟨⟨_,rfl,fw rfl (a9h l).symm⟩,trivial⟩ rfl rfl ?_;refine w_2 ?_;refine hrr ?_;exact ⟨_,_,rfl,bss,jq (by rw [a5f]),⟨⟨_,rfl,fw (a5f _).symm (by rw [a5f])⟩,trivial⟩⟩
def ayf (s:AS):dq btb 118 [.one (.p (asC s))] [] (.v (.one (.ref 901 (av s).length))) [(901, .arr true 1 46 (av s).length (lf sC (av s)))] []:=by
 refine hfx (nt:=23) Tryz.func118 ?_;refine w_8 ?_;refine qcx a0o (aag s) ?_;refine w_2 ?_;refine hcd (fun h0=>?_) (fun h0=>?_)
 · refine w_4 ?_;refine ct 2 901 true 1 46 (lf sC []) bsu rfl (CoP.sl rfl (.inr rfl) (fun h=>h) (fun i j hi _=>absurd hi (bod i))) (.inr rfl) rfl ?_;refine hrr ?_;exact ⟨_,_,rfl,bss,jq (by rw [a3w h0];rfl),⟨⟨_,rfl,fw (a3w h0) (by rw [a3w h0];rfl)⟩,trivial⟩⟩
 refine w_4 ?_;refine m9 0 ?_;refine w_9 ?_;refine ah (ι:=List AS × AS) (ka 0 kn) km (fun y=>⟨[(3,some (.v (.one (.ref 0 y.1.length)))),(4,some (vA y.2))],[(0,some (.arr true 1 46 y.1.length (lf sC y.1)))]⟩) (fun y=>aa6 s y) (fun y=>y.2.toNat) (([s],s)) (ajt s) ⟨tt,⟨⟨_,rfl,(y4 (CoP.refl _))⟩,trivial⟩⟩ ?_;rintro y hy;have hlen:=hy.2.1;have hsl:=s.isLt;refine w_6 ?_;refine hcn (fun h1=>?_) (fun h1=>?_)
 ·
  have hne:y.2 ≠ 0:=fun e=>h1 (by rw [e];rfl);refine w_5 ?_;refine rq rfl rfl rfl rfl rfl ?_ (hp:=(a15 hne));refine w_7 ?_;refine m9 1 ?_;refine r9 2 true ?_;refine w_2 ?_;refine ⟨(y.1 ++ [(y.2 - 1) &&& s],(y.2 - 1) &&& s), ?_, ?_, ?_⟩
  · exact ajf hy hne
  · exact so hne
  exact ⟨⟨⟨_,rfl,(c8 rfl)⟩,⟨_,rfl,(bz (a13 hne))⟩,tt⟩,⟨⟨_,rfl,(bu rfl (CoP.of_eq (by rw [a13 hne];rfl)))⟩,trivial⟩⟩
 have hz:y.2 = 0:=ck.1 h1;refine w_2 ?_;refine b6 3 rfl rfl rfl ?_;refine w_2 ?_;refine fc9 a0l (b8x y.1 bsq) trivial ?_;refine w_2 ?_;refine hrr ?_;have he:=(ala hy hz).trans (a9v h0).symm;exact ⟨_,_,rfl,bss,jq (by rw [he]),⟨⟨_,rfl,fw he.symm (by rw [he])⟩,trivial⟩⟩
end
section
def sd (l:List Fd) (p:AS):Int:=if au 16 l = 0 then (if 8 < bsz p then 3 else if p >>> 16 = 0 then 0 else 1) else au 16 l
def a6j (l:List Fd) (p:AS):Fd:=if sd l p = 0 then jy l p else ⟨0,0⟩
def wg (l:List Fd) (p:AS):Bool:=decide (sd l p = 0) && cr l p
def alc {f:Fd} (h:f = ⟨0,0⟩):CoC (.agg [me (.int .u32 0),me (.int .u32 0)]) f.pc:=CoC.of_eq (by rw [h];rfl)
def bka {a b:Fd} (h:a = b):CoC a.pc b.pc:=CoC.of_eq (by rw [h])
section
variable {l:List Fd} {p:AS}
def bfs (h:¬ au 16 l = 0):sd l p = au 16 l /\ a6j l p = ⟨0,0⟩ /\ wg l p = false:=by
 have e:sd l p = au 16 l:=if_neg h;unfold a6j wg;rw [e];exact ⟨rfl,if_neg h,by rw [decide_eq_false h];rfl⟩
def bis (h:au 16 l = 0) (h2:(8:Int) < bsz p):sd l p = 3 /\ a6j l p = ⟨0,0⟩ /\ wg l p = false:=by
 have e:sd l p = 3:=by unfold sd;rw [if_pos h,if_pos bsq]
 unfold a6j wg;rw [e];exact ⟨rfl,rfl,rfl⟩
def aqc {n:Nat}:(asI p).fdiv (2 ^ (min n 32)) = 0 <-> p >>> n = 0:=by
 rw [zq,show (0:Int) = asI 0 from rfl,ck]
def bfk (h:au 16 l = 0) (h2:¬ (8:Int) < bsz p) (h3:¬ (asI p).fdiv (2 ^ (min 16 32)) = 0):sd l p = 1 /\ a6j l p = ⟨0,0⟩ /\ wg l p = false:=by
 rw [aqc] at h3;have e:sd l p = 1:=by unfold sd;rw [if_pos h,if_neg bsq,if_neg h3]
 unfold a6j wg;rw [e];exact ⟨rfl,rfl,rfl⟩
def bfh (h:au 16 l = 0) (h2:¬ (8:Int) < bsz p) (h3:(asI p).fdiv (2 ^ (min 16 32)) = 0):sd l p = 0 /\ a6j l p = jy l p /\ wg l p = cr l p:=by
 rw [aqc] at h3;have e:sd l p = 0:=by unfold sd;rw [if_pos h,if_neg bsq,if_pos h3]
 unfold a6j wg;rw [e];exact ⟨rfl,rfl,rfl⟩
def bcP (n:Int) (l:List Fd) (f:Fd):Bool:=decide (f.rhs &&& ~~~f.lhs ≠ 0) && decide (clo l f.lhs ≠ a6 n)
def bcS (n:Int) (l:List Fd):Bool:=decide (au n l = 0) && !l.any (bcP n l)
def gj (n:Int) (l:List Fd):List AS:=if fc n l 8 = 0 then (av (a6 n)).filter fun s=>!cr l s else []
def anv {n:Int} (h:fc n l 8 = 0):gj n l = (av (a6 n)).filter fun s=>!cr l s:=if_pos h
def bg6 {n:Int} (h:¬ fc n l 8 = 0):gj n l = []:=if_neg h
def sy {n m:Int} (h:fc n l m = 0):au n l = 0 /\ n <= m:=by
 unfold fc at h;split at h
 · rename_i hv
   split at h
   · cases h
   exact ⟨hv,by omega⟩
 rename_i hv;exact absurd h hv
def b5g (n:Int) (l:List Fd):(gj n l).length <= 4294967296:=by
 unfold gj;have:=vd (a6 n);split
 · exact bon (bqb _ _) this
 simp
end
end
section
open Go.Proofs
def bmd (l:List Fd) (p:AS):a7 btb 157 [pP (fdl l),pA p] (aa [(a6j l p).pc,pB (wg l p),pI (sd l p)]):=by
 refine hpx (nt:=32) Tryz.func157 ?_;refine sx7 ?_;refine m9 0 ?_;refine w_7 ?_;refine qcx xn (a1e 16 l) ?_;refine w_7 ?_;refine hcn (fun h0=>?_) (fun h0=>?_)
 · refine w_8 ?_;refine hrr ?_;have he:=bfs (p:=p) h0;exact f9 rfl rfl (⟨alc he.2.1,ccb he.2.2.symm,cci he.1.symm,trivial⟩)
 refine w_5 ?_;refine qcx a0o (aag p) ?_;refine w_2 ?_;refine hcd (fun h1=>?_) (fun h1=>?_)
 · refine w_7 ?_;refine hrr ?_;have he:=bis h0 h1;exact f9 rfl rfl (⟨alc he.2.1,ccb he.2.2.symm,cci he.1.symm,trivial⟩)
 refine w_8 ?_;refine hcn (fun h2=>?_) (fun h2=>?_)
 · refine w_7 ?_;refine hrr ?_;have he:=bfk h0 h1 h2;exact f9 rfl rfl (⟨alc he.2.1,ccb he.2.2.symm,cci he.1.symm,trivial⟩)
 refine w_5 ?_;refine qcx alq (auj l p) ?_;refine w_3 ?_;refine m9 1 ?_;refine dl ?_;refine hrr ?_;have he:=bfh h0 h1 h2;exact f9 rfl rfl (⟨bka he.2.1.symm,ccb he.2.2.symm,cci he.1.symm,trivial⟩)
def bau (s:AS) (l:List Fd):a7 btb 146 [pA s,pP (bx (fdl l))] (aa [pB (cr l s)]):=by
 refine hpx (nt:=13) Tryz.func146 ?_;refine w_8 ?_;refine qcx alq (auj l s) ?_;refine w_3 ?_;refine m9 0 ?_;refine v_8 ?_;exact CoL.refl _
def bew (n:Int) (l:List Fd):a7 btb 89 [pI n,pP (fdl l)] (aa [pP (asl (gj n l)),pI (fc n l 8)]):=by
 refine hpx (nt:=18) Tryz.func89 ?_;refine sx7 ?_;refine m9 2 ?_;refine w_8 ?_;refine qcx (wgx Tryz.func76) (bel n l) ?_;refine w_7 ?_;refine hcn (fun h0=>?_) (fun h0=>?_)
 · refine v_6 ?_;exact ⟨CoC.one (a2s (bg6 h0)),CoC.refl _,trivial⟩
 refine w_2 ?_;have hv:=f8 (sy h0).1;refine dc 3 rfl rfl rfl ?_;refine w_2 ?_;refine qcx amz (aug n hv.1 hv.2.1) ?_;refine fc9 a9x (ayf (a6 n)) trivial ?_;refine qy ?_;refine fc9 ah1 ((av0 (av (a6 n)) 146 1 (fun i=>[bx (fdl l)].getD i .any) (cr l) (wgx Tryz.func146) (fun s=>bau s l)).swap 900 901) uu ?_;refine v_3 ?_;exact ⟨CoC.one (CoP.of_eq (by rw [anv h0])),cci h0.symm,trivial⟩
end
section
def oj (l:List Fd) (p z:AS):AS:=(p &&& clo l (z &&& p)) &&& ~~~z
def eu (l:List Fd) (z p:AS):Bool:=decide (oj l p z ≠ 0)
def w5 (l:List Fd) (ps:List AS):Nat -> AS -> AS
 | 0,z=>z
 | n + 1,z=>match ps.find? (eu l z) with
  | none=>z
  | some p=>w5 l ps n (z ||| oj l p z)
def o0 (l:List Fd) (ps:List AS) (z:AS):AS:=w5 l ps 4294967297 z
def py (l:List Fd) (ps:List AS) (f:Fd):Bool:=decide (sub f.rhs (o0 l ps f.lhs))
def bha (l:List Fd) (p z:AS):ap .andNot .u32 (ap .and .u32 (asI p) (asI (clo l (z &&& p)))) (asI z) = asI (oj l p z):=by rw [gk,it];rfl
section
variable {l:List Fd}
def b91 {p z:AS}:(!decide (asI (oj l p z) = 0)) = eu l z p:=by
 unfold eu;rw [show (0:Int) = asI 0 from rfl,afb];simp
def bk0 {z m:AS} (h:m &&& ~~~z = m) (h0:m ≠ 0):z.toNat < (z ||| m).toNat:=by
 have hs:sub z (z ||| m):=ae.2 fun i _ hi=>by rw [bpj,hi];rfl
 have hle:=a2g hs
 rcases bqp hle with h1 | h1
 · exact h1
 exfalso;apply h0;have e:z = z ||| m:=bp8 h1
 apply bpx;intro i hi;have e1:=congrArg (fun s:AS=>s.getLsbD i) e;have e2:=congrArg (fun s:AS=>s.getLsbD i) h;simp only [bpj,boh,bp7] at e1 e2;have e3:(0:AS).getLsbD i = false:=by simp
 rw [e3];rw [decide_eq_true hi] at e2;clear h h0 hs hle h1 e;revert e1 e2;cases z.getLsbD i <;> cases m.getLsbD i <;> simp
def ao3 {p z:AS} (h:eu l z p = true):z.toNat < (z ||| oj l p z).toNat:=by
 refine bk0 ?_ (of_decide_eq_true h);unfold oj;rw [BitVec.and_assoc,BitVec.and_self]
def ac1 (l:List Fd) (ps:List AS) (z0:AS) (x:Nat × List Nat × AS):Prop:=w5 l ps x.1 x.2.2 = o0 l ps z0 /\ 4294967296 < x.1 + x.2.2.toNat /\ x.2.1.length + x.1 = 4294967297
def anz (l:List Fd) (ps:List AS) (z0:AS):ac1 l ps z0 (4294967297,[],z0):=by
 refine ⟨rfl, ?_, ?_⟩
 · dsimp only;omega
 dsimp only;rw [bps]
variable {ps:List AS} {x:Nat × List Nat × AS}
def aa3 {z0:AS} (h:ac1 l ps z0 x):0 < x.1:=by
 have:=h.2.1;have:=x.2.2.isLt;omega
def au8 {z0:AS} (h:ac1 l ps z0 x) (hi:idx (eu l x.2.2) ps < 0):x.2.2 = o0 l ps z0:=by
 have hp:=aa3 h;rw [<- h.1];obtain ⟨n,hn⟩:∃ n,x.1 = n + 1:=⟨x.1 - 1,by omega⟩;rw [hn];unfold w5
 have:ps.find? (eu l x.2.2) = none:=by
  have hm:idx (eu l x.2.2) ps = -1:=by
   by_cases h:idx (eu l x.2.2) ps = -1
   · exact h
   obtain ⟨i,h1,_⟩:=xa h;omega
  exact apb (acg hm)
 rw [this]
def alt {z0:AS} {i:Nat} (h:ac1 l ps z0 x) (hi:i < ps.length) (hv:eu l x.2.2 (ps.getD i default) = true) (hj:∀ j,j < i -> eu l x.2.2 (ps.getD j default) = false):
 ac1 l ps z0 (x.1 - 1,x.2.1 ++ [i],x.2.2 ||| oj l (ps.getD i default) x.2.2):=by
 have hp:=aa3 h;have hlt:=ao3 hv;obtain ⟨h1,h2,h3⟩:=h;obtain ⟨n,hn⟩:∃ n,x.1 = n + 1:=⟨x.1 - 1,by omega⟩;refine ⟨?_,by dsimp only;omega, ?_⟩
 · rw [<- h1,hn]
   have:ps.find? (eu l x.2.2) = some (ps.getD i default):=ae8 hi hj hv;show w5 l ps n _ = _
   conv=>rhs;unfold w5
   rw [this]
 dsimp only;rw [bob,bpz];omega
def ca (l:List Fd) (ps:List AS) (i:Nat):List Nat:=(List.range i).filter fun j=>!py l ps (l.getD j default)
def ij (l:List Fd) (ps:List AS):Bool:=(List.range l.length).all fun j=>py l ps (l.getD j default)
def vv {i:Nat} (h:py l ps (l.getD i default) = false):ca l ps (i + 1) = ca l ps i ++ [i]:=by
 unfold ca;rw [bq7,bpr];simp only [bpp,h,bs1,br6,if_true,bq9,bpd,bpe,if_false]
def vi {i:Nat} (h:py l ps (l.getD i default) = true):ca l ps (i + 1) = ca l ps i:=by
 unfold ca;rw [bq7,bpr];simp only [bpp,h,bs1,br6,if_true,bq9,bpd,bpe,if_false]
def aj2 (l:List Fd) (ps:List AS) (i:Nat):(ca l ps i).length <= i:=bon (bqb _ _) (by rw [bqm];exact bo9 _)
def ad1:decide (((ca l ps l.length).length:Int) = 0) = ij l ps:=by
 unfold ca ij;rw [bqf,decide_eq_true_iff,bp1];constructor
 · intro h x hx
   have h0:((List.range l.length).filter fun j=>!py l ps (l.getD j default)) = []:=bq2 bsq;rw [bsj] at h0;have:=h0 x hx;simpa using this
 intro h;rw [bsj.2 fun x hx=>(by rw [h x hx];decide)];rfl
def bh0 {f:Fd}:decide (ap .andNot .u32 (asI f.rhs) (asI (o0 l ps f.lhs)) = 0) = py l ps f:=decide_eq_decide.2 k6
def bdl (l:List Fd):HV.clo 247 2 (fun i=>[HV.p (bx (fdl l)), .ptr 1 0].getD i (.p .any)) = HV.clo 247 2 (fun i=>([HV.p (bx (fdl l)), .ptr 1000 0].getD i (.p .any)).ren (swp 1000 1)) :=
 congrArg (HV.clo 247 2) (funext fun i=>match i with | 0=>rfl | 1=>rfl | n + 2=>rfl)
end
end
end Go.Hx

/- A part of the proof: V5 Cs2 Cs6. -/
import Derived.Lib.TrailingZeros
import Derived.Test.YtnlcekpflogjkaaGreatDoorTx15
set_option linter.all false
set_option maxRecDepth 100000
namespace Go.Hx
section
open Go.Proofs
def bn2 (s:AS) (i:Int):a6 bw0 167 [pA s,pI i] (af [pB (c8 s i)]):=by
 refine hpx (nt:=18) Tryz.func167 ?_;refine w_9 ?_;refine aw rfl rfl (fun r0=>?_) (fun r0=>?_)
 ·
  have h0:=tz1 r0;(iterate 2 refine qy ?_ (hg:=(gtt r0)));refine w_2 ?_;refine aw rfl rfl (fun r1=>?_) (fun r1=>?_)
  ·
   have h1:=tz1 (ck r0 r1);(iterate 5 refine qy ?_ (hg:=(gtt r1)));refine w_3 ?_
   exact hx8 rfl rfl rfl (⟨ccb (by first | exact ut bva (akv bv9 bv9) | exact (xl bv9).symm),trivial⟩)
  have h1:=tz2 (ck r0 r1);(iterate 5 refine k9 (gft r1) ?_);refine w_3 ?_
  exact hx8 rfl rfl rfl (⟨ccb (by first | exact ut bva (akv bv9 bv9) | exact (xl bv9).symm),trivial⟩)
 have h0:=tz2 r0;(iterate 2 refine k9 (gft r0) ?_);refine w_2 ?_;(iterate 5 refine k9 rfl ?_);refine w_3 ?_
 exact hx8 rfl rfl rfl (⟨ccb (by first | exact ut bva (akv bv9 bv9) | exact (xl bv9).symm),trivial⟩)
def bh9 (n:Int) (h0:0 <= n) (h1:n <= 16):a6 bw0 90 [pI n] (af [pA (aa n)]):=by
 refine hpx (nt:=6) Tryz.func90 ?_;refine w_8 ?_;refine rq rfl rfl rfl rfl rfl ?_ (hp:=⟨ua h0 h1,qq h0 h1⟩);refine v_2 ?_;exact ⟨cci (qw h0 h1),trivial⟩
def bf7 (n:Int) (h0:0 <= n) (h1:n <= 16):a6 bw0 40 [pI n] (af [pA (aa n)]):=by
 refine hpx (nt:=6) Tryz.func40 ?_;refine w_8 ?_;refine rq rfl rfl rfl rfl rfl ?_ (hp:=⟨ua h0 h1,qq h0 h1⟩);refine v_2 ?_;exact ⟨cci (qw h0 h1),trivial⟩
def bkz (n:Int) (h0:0 <= n) (h1:n <= 16):a6 bw0 43 [pI n] (af [pA (aa n)]):=by
 refine hpx (nt:=6) Tryz.func43 ?_;refine w_8 ?_;refine rq rfl rfl rfl rfl rfl ?_ (hp:=⟨ua h0 h1,qq h0 h1⟩);refine v_2 ?_;exact ⟨cci (qw h0 h1),trivial⟩
def bvw {p:Prop} (h:p:=by unfold k6;first | (rw [if_neg bva]) | (rw [if_pos bv9,if_pos bv9]) | (rw [if_pos bv9,if_neg bv9])):p:=h
def bnp (n:Int) (l:List Fd):a6 bw0 42 [pI n,pP (fdl l)] (af [pI (k6 n l 8)]):=by
 refine hpx (nt:=14) Tryz.func42 ?_;refine w_9 ?_;refine qcx zn (a3c n l) ?_;refine w_7 ?_;refine hcn (fun h0=>?_) (fun h0=>?_)
 · refine v_5 ?_;exact ⟨cci bvw,trivial⟩
 refine w_7 ?_;refine hcd (fun h1=>?_) (fun h1=>?_)
 · refine v_4 ?_;exact ⟨cci bvw,trivial⟩
 refine v_5 ?_;exact ⟨cci bvw,trivial⟩
def apg:goodFn bw0 38:=wgx Tryz.func38
def awa (n:Int) (l:List Fd) (s:AS):a6 bw0 38 [pI n,pP (fdl l),pA s] (af [pB (it n l s)]):=by
 refine hpx (nt:=25) Tryz.func38 ?_;refine w_8 ?_;refine qcx zn (a3c n l) ?_;refine w_2 ?_;refine aw rfl rfl (fun r0=>?_) (fun r0=>?_)
 ·
  have h0:=tz1 r0;obtain ⟨hv0,hv1,_,_⟩:=fz h0;(iterate 4 refine qy ?_ (hg:=(gtt r0)));refine w_2 ?_;refine aw rfl rfl (fun r1=>?_) (fun r1=>?_)
  ·
   have h1:=tz1 (ck r0 r1);(iterate 2 refine qy ?_ (hg:=(gtt r1)));refine qcx anz (aqi l s) ?_ (hg:=(gtt r1));refine qy ?_ (hg:=(gtt r1))
   refine qcx (wgx Tryz.func90) (bh9 n (fz bva).1 (fz bva).2.1) ?_ (hg:=(gtt r1));refine qy ?_ (hg:=(gtt r1));refine v_3 ?_;exact ⟨ccb (by first | exact ut bva (b36 bva bva) | exact (avv bva).symm | exact (avn bva bva).symm),trivial⟩
  have h1:=tz2 (ck r0 r1);(iterate 6 refine k9 (gft r1) ?_);refine w_3 ?_
  exact hx8 rfl rfl rfl (⟨ccb (by first | exact ut bva (b36 bva bva) | exact (avv bva).symm | exact (avn bva bva).symm),trivial⟩)
 have h0:=tz2 r0;(iterate 4 refine k9 (gft r0) ?_);refine w_2 ?_;(iterate 6 refine k9 rfl ?_);refine w_3 ?_
 exact hx8 rfl rfl rfl (⟨ccb (by first | exact ut bva (b36 bva bva) | exact (avv bva).symm | exact (avn bva bva).symm),trivial⟩)
def bha (a b:List AS):a6 bw0 33 [pP (asl a),pP (asl b)] (af [pB (decide (a = b))]):=by
 refine hpx (nt:=26) Tryz.func33 ?_;refine cq ?_;refine cu 0 rfl fun hn=>?_;refine j4 ?_;refine hcn (fun h0=>?_) (fun h0=>?_)
 · refine v_4 ?_;exact ⟨ccb (decide_eq_false fun e=>by subst e;omega).symm,trivial⟩
 refine dy ?_;refine d5 (ι:=Unit) kn km (fun _i=>⟨[],[]⟩) (fun _i=>a = b) ?_ ?_
 ·
  refine w_5 ?_;refine ah (ι:=Nat) (ka 0 (ka 1 kn)) km (fun i=>⟨[(5,some (vI i))],[]⟩) (fun i=>i <= a.length /\ (∀ j,j < i -> decide (a.getD j default = b.getD j default) = true)) (fun i=>a.length - i) (0) (⟨bre _,c7⟩) kk ?_;rintro i ⟨hi,hI⟩;refine w_8 ?_;refine hcd (fun h1=>?_) (fun h1=>?_)
  ·
   refine v7 ?_;refine hcn (fun h2=>?_) (fun h2=>?_)
   · refine v_4 ?_;exact ⟨ccb (decide_eq_false fun e=>by subst e;simp_all).symm,trivial⟩
   refine w_6 ?_;refine lpz (i + 1) kk ?_;exact ⟨by show i + 1 <= _;omega,bo hI (decide_eq_true (dj.1 h2))⟩
  refine d7 ?_;refine ⟨(), ?_, ?_⟩
  · exact b5u bv9 fun j hj=>hI j bv9
  exact ⟨trivial,trivial⟩
 rintro _ hj;refine v_4 ?_;exact ⟨ccb (decide_eq_true hj).symm,trivial⟩
end
section
def bsz (s:AS):Nat:=(List.range 32).countP fun i=>s.getLsbD i
def bef (a b:AS):Bool:=decide (bsz a < bsz b) || (decide (bsz a = bsz b) && decide (a.toNat < b.toNat))
def a32 (a:AS):bef a a = false:=by simp [bef]
def uj {a b:AS}:bef a b = true <-> bsz a < bsz b \/ (bsz a = bsz b /\ a.toNat < b.toNat):=by simp [bef]
def a1b {a b c:AS} (h:bef a b = true) (k:bef b c = true):bef a c = true:=by
 rw [uj] at *;omega
def ahh {a b:AS} (h:a ≠ b):bef a b = true \/ bef b a = true:=by
 have hn:a.toNat ≠ b.toNat:=fun e=>h (bso e);rw [uj,uj];omega
def b2i {a b:AS} (h:bef a b = true):bef b a = false:=by
 rw [brt];intro k;have:=a1b h k;rw [a32] at this;cases this
def xz (l:List AS):Prop:=l.Pairwise fun a b=>bef a b = true
def a1v:∀ {l k:List AS},xz l -> xz k -> (∀ x,x ∈ l <-> x ∈ k) -> l = k
 | [],[],_,_,_=>rfl
 | [],y :: k,_,_,h=>absurd ((h y).2 (bsj ..)) bvd
 | x :: l,[],_,_,h=>absurd ((h x).1 (bsj ..)) bvd
 | x :: l,y :: k,hl,hk,h=>by
  obtain ⟨h1,h2⟩:=bsb.1 hl;obtain ⟨k1,k2⟩:=bsb.1 hk
  have e:x = y:=by
   rcases brm.1 ((h x).1 (bsj ..)) with e | hx
   · exact e
   rcases brm.1 ((h y).2 (bsj ..)) with e | hy
   · exact e.symm
   have:=b2i (k1 x hx);rw [h1 y hy] at this;cases this
  subst e;congr 1;refine a1v h2 k2 fun z=>?_;constructor
  · intro hz
    rcases brm.1 ((h z).1 (bs1 _ hz)) with e | hz'
    · subst e
      have:=h1 z hz;rw [a32] at this;cases this
    exact hz'
  intro hz
  rcases brm.1 ((h z).2 (bs1 _ hz)) with e | hz'
  · subst e
    have:=k1 z hz;rw [a32] at this;cases this
  exact hz'
def pi (x:AS):List AS -> List AS
 | []=>[x]
 | y :: l=>if x = y then y :: l else if bef x y = true then x :: y :: l else y :: pi x l
def ab7 {x z:AS}:∀ {l:List AS},z ∈ pi x l <-> z = x \/ z ∈ l
 | []=>by simp [pi]
 | y :: l=>by
  unfold pi;split
  · rename_i e
    subst e;simp
  split
  · simp
  rw [brm,ab7,brm];constructor
  · rintro (h | h | h) <;> simp [h]
  rintro (h | h | h) <;> simp [h]
def aje {x:AS}:∀ {l:List AS},xz l -> xz (pi x l)
 | [],_=>by simp [pi,xz]
 | y :: l,h=>by
  obtain ⟨h1,h2⟩:=bsb.1 h;unfold pi;split
  · exact h
  split
  · rename_i hxy
    refine bsb.2 ⟨fun z hz=>?_,h⟩
    rcases brm.1 hz with rfl | hz
    · exact hxy
    exact a1b hxy (h1 z hz)
  rename_i hne hxy;refine bsb.2 ⟨fun z hz=>?_,aje h2⟩
  rcases ab7.1 hz with rfl | hz
  · exact (ahh hne).resolve_left hxy
  exact h1 z hz
def ord (l:List AS):List AS:=l.foldl (fun o x=>pi x o) []
def ago:∀ {l o:List AS},xz o -> xz (l.foldl (fun o x=>pi x o) o) /\ ∀ z,z ∈ l.foldl (fun o x=>pi x o) o <-> z ∈ o \/ z ∈ l
 | [],o,h=>⟨h,fun z=>by simp⟩
 | x :: l,o,h=>by
  obtain ⟨h1,h2⟩:=ago (l:=l) (aje (x:=x) h);refine ⟨h1,fun z=>?_⟩;show z ∈ l.foldl (fun o x=>pi x o) (pi x o) <-> _;rw [h2 z,ab7,brm];constructor
  · rintro ((h | h) | h) <;> simp [h]
  rintro (h | h | h) <;> simp [h]
def a4j (l:List AS):xz (ord l):=(ago (o:=[]) List.Pairwise.nil).1
def pg {l:List AS} {z:AS}:z ∈ ord l <-> z ∈ l:=by
 show z ∈ l.foldl (fun o x=>pi x o) [] <-> _;rw [(ago (l:=l) (o:=[]) List.Pairwise.nil).2 z];simp
def bi2 {l k:List AS} (hk:xz k) (h:∀ z,z ∈ k <-> z ∈ l):k = ord l:=a1v hk (a4j l) fun z=>by rw [h z,pg]
end
section
def aj (s:AS):List Nat:=(List.range 32).filter fun i=>s.getLsbD i
def iC:Nat -> Nat -> PV:=fun n _=>.raw (.int .i64 (n:Int))
abbrev il (l:List Nat):PV:=psl 1 iC l
def a1n (s:AS):bsz s = (aj s).length:=by unfold bsz aj;rw [List.countP_eq_length_filter]
section
variable {s:AS}
def jg {i:Nat}:i ∈ aj s <-> i < 32 /\ s.getLsbD i = true:=by simp [aj,bt4,brw]
def a6c {p:Nat -> Bool} {t:Nat}:∀ {l:List Nat},l.Pairwise (· < ·) -> t ∈ l -> p t = true -> (∀ k,k < t -> p k = false) -> l.filter p = t :: l.filter fun k=>decide (k ≠ t) && p k
 | [],_,h,_,_=>by cases h
 | a :: l,hp,hm,h1,h2=>by
  obtain ⟨q1,q2⟩:=bsb.1 hp;by_cases ha:a = t
  · subst ha
    have e:l.filter p = l.filter fun k=>decide (k ≠ a) && p k:=by
     apply List.filter_congr;intro k hk;have:=q1 k hk;rw [decide_eq_true bv9,btn]
    simp [bti,h1,e]
  have hm':t ∈ l:=by
   rcases brm.1 hm with h | h
   · exact absurd h.symm ha
   exact h
  have:=q1 t hm';have hpa:=h2 a this;simp [bti,hpa,a6c q2 hm' h1 h2]
def qf (s:AS):Nat:=Lib.ctz 32 s.toNat
def b71 (h:s ≠ 0):∃ m,s.toNat = 2 ^ (qf s + 1) * m + 2 ^ qf s /\ qf s < 32:=by
 have h0:s.toNat ≠ 0:=fun e=>h (bso e);obtain ⟨m,h1,h2⟩:=Lib.ctzFrom_spec 32 s.toNat bv9 s.isLt;have e:qf s = Lib.ctzFrom 32 s.toNat:=by unfold qf Lib.ctz;rw [if_neg h0]
 rw [e];refine ⟨m, ?_,h2⟩;rw [Nat.pow_succ];rw [h1] at *;simp only [Nat.mul_add,Nat.mul_assoc,bu6] at *;exact h1
def a8w (h:s ≠ 0):qf s < 32 /\ s.getLsbD (qf s) = true /\ (∀ k,k < qf s -> s.getLsbD k = false) /\ s &&& (s - 1) = s &&& ~~~((1:AS) <<< qf s):=by
 obtain ⟨m,h1,h2⟩:=b71 h;generalize qf s = t at *;have hp:2 ^ t < 2 ^ (t + 1):=Nat.pow_lt_pow_right bv9 bv9
 have hb:∀ k,s.getLsbD k = if k < t + 1 then (2 ^ t).testBit k else m.testBit (k - (t + 1)):=fun k=>by
  show s.toNat.testBit k = _;rw [h1,Nat.testBit_two_pow_mul_add _ hp]
 have hq:0 < 2 ^ t:=Nat.two_pow_pos t
 have e1:(s - 1).toNat = 2 ^ (t + 1) * m + (2 ^ t - 1):=by
  have:=s.isLt;rw [BitVec.toNat_sub];show (2 ^ 32 - 1 + s.toNat) % 2 ^ 32 = _;omega
 have hd:∀ k,(s - 1).getLsbD k = if k < t + 1 then (2 ^ t - 1).testBit k else m.testBit (k - (t + 1)):=fun k=>by
  show (s - 1).toNat.testBit k = _;rw [e1,Nat.testBit_two_pow_mul_add _ bv9]
 refine ⟨h2, ?_,fun k hk=>?_, ?_⟩
 · rw [hb,if_pos bv9,Nat.testBit_two_pow_self]
 · rw [hb,if_pos bv9,Nat.testBit_two_pow]
   simp;omega
 apply bt0;intro k hk;rw [brv,brv,bsv,lb _ _ hk,hd k,hb k];by_cases h3:k < t + 1
 · rw [if_pos h3,if_pos h3,Nat.testBit_two_pow,Nat.testBit_two_pow_sub_one]
   by_cases h4:k = t
   · subst h4;simp
   have:¬ t = k:=fun e=>h4 e.symm;simp [this]
 rw [if_neg h3,if_neg h3];have:¬ k = t:=by omega
 simp [hk,this]
def a7q (h:s ≠ 0) (k:Nat) (hk:k < 32):(s &&& (s - 1)).getLsbD k = (decide (k ≠ qf s) && s.getLsbD k):=by
 rw [(a8w h).2.2.2,brv,bsv,lb _ _ hk];by_cases e:k = qf s <;> simp [e,hk,Bool.and_comm]
def b1g (h:s ≠ 0):aj s = qf s :: aj (s &&& (s - 1)):=by
 obtain ⟨h1,h2,h3,_⟩:=a8w h;unfold aj;rw [a6c List.pairwise_lt_range (brw.2 h1) h2 h3];congr 1;apply List.filter_congr;intro k hk;rw [a7q h k (brw.1 hk)]
def awz:aj 0 = []:=by
 unfold aj;rw [List.filter_eq_nil_iff];intro k _;simp
def aov (h:s ≠ 0):(s &&& (s - 1)).toNat < s.toNat:=by
 refine xq (aq.2 fun i hi hb=>?_) fun e=>?_
 · rw [a7q h i hi] at hb
   simp only [brk] at hb;exact hb.2
 have:=a7q h (qf s) (a8w h).1;rw [e,(a8w h).2.1] at this;simp at this
end
end
end Go.Hx

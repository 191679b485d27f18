/- A part of the proof: Ch9 X13 Ch10 Ch11 Ch12 Ch13 X15 Ch14 Ch19 Ch20 Ch21 Cc1. -/
import Derived.Test.YteklilhbjjofbaaGreatDoorLc22
set_option linter.all false
set_option maxRecDepth 100000
namespace Go.Hx
section
def stV (n:Int) (i:Nat) (p:AS) (c:Nat):Int:=if bm p (c:Int) = true then (c:Int) else n + (i:Int) * n + (c:Int)
def stT (n:Int) (i:Nat) (p:AS) (k:Nat):Rw:=(List.range n.toNat).map fun c=>if c < k then stV n i p c else 0
def stR (n:Int) (i:Nat) (p:AS):Rw:=(List.range n.toNat).map fun c=>stV n i p c
def au (n:Int) (ps:List AS):List Rw:=(List.range ps.length).map fun i=>stR n i (ps.getD i default)
def a5z (n:Int) (i:Nat) (p:AS):(stR n i p).length = n.toNat:=by unfold stR;simp
def qu (n:Int) (ps:List AS):(au n ps).length = ps.length:=by unfold au;simp
section
variable {i:Nat} {n:Int} {ps:List AS}
def ajd (h:i < ps.length):(au n ps).getD i default = stR n i (ps.getD i default):=by
 unfold au;rw [b2r,b35,b3t h];rfl
variable {k:Nat}
def adq (n:Int) (i:Nat) (p:AS) (h:n.toNat <= k):stT n i p k = stR n i p:=by
 unfold stT stR;refine b4s fun c hc=>?_;have:=b3e.1 hc;rw [if_pos b5s]
variable {p:AS}
def aas {c:Nat} (h:c < n.toNat):(stT n i p k).getD c default = if c < k then stV n i p c else 0:=by
 unfold stT;rw [b2r,b35,b3t h];rfl
def a9q {N:Nat} {f:Nat -> Nat -> PV} (hN:N = n.toNat) (hf:∀ a,f a 0 = .raw (.int .i64 0)):CoO (.arr true 1 3 N f) (.arr true 1 3 N (lf zC (stT n i p 0))) :=
 ⟨fun h=>h,rfl,rfl,rfl,fun a j ha hj=>by
  obtain rfl:j = 0:=by omega
  refine CoP.of_eq ?_;rw [hf];show _ = PV.raw (.int .i64 ((stT n i p 0).getD a default))
  rw [aas b5s,if_neg b5s]⟩
def a34:∀ c,c < n.toNat -> (stT n i p (k + 1)).getD c default = if c = k then stV n i p k else (stT n i p k).getD c default:=fun c hc=>by
 rw [aas hc,aas hc];by_cases h:c = k
 · rw [if_pos h,if_pos b5s,h]
 rw [if_neg h];by_cases h2:c < k
 · rw [if_pos h2,if_pos b5s]
 rw [if_neg h2,if_neg b5s]
def ai3 {a b N:Nat} {x:Int} (h:bm p (k:Int) = true) (hN:N = n.toNat) (ha:a = k) (hb:b = k):
 CoO (.arr true 1 3 N (ej (ej (lf zC (stT n i p k)) a 0 [.raw (.int .i64 x)]) b 0 [.raw (.int .i64 (k:Int))])) (.arr true 1 3 N (lf zC (stT n i p (k + 1)))):=by
 subst ha hb;refine ⟨fun h=>h,rfl,rfl,rfl,fun c j hc hj=>CoP.of_eq ?_⟩;obtain rfl:j = 0:=by omega
 show _ = PV.raw (.int .i64 ((stT n i p (b + 1)).getD c default));rw [a34 c b5s];unfold ej;by_cases e:c = b
 · rw [if_pos ⟨e,by omega,by simp⟩,if_pos e]
   unfold stV;rw [if_pos h];rfl
 rw [if_neg (fun x=>e x.1),if_neg (fun x=>e x.1),if_neg e];rfl
def aix {a N:Nat} (h:¬ bm p (k:Int) = true) (hN:N = n.toNat) (ha:a = k):
 CoO (.arr true 1 3 N (ej (lf zC (stT n i p k)) a 0 [.raw (.int .i64 (n + (i:Int) * n + (k:Int)))])) (.arr true 1 3 N (lf zC (stT n i p (k + 1)))):=by
 subst ha;refine ⟨fun h=>h,rfl,rfl,rfl,fun c j hc hj=>CoP.of_eq ?_⟩;obtain rfl:j = 0:=by omega
 show _ = PV.raw (.int .i64 ((stT n i p (a + 1)).getD c default));rw [a34 c b5s];unfold ej;by_cases e:c = a
 · rw [if_pos ⟨e,by omega,by simp⟩,if_pos e]
   unfold stV;rw [if_neg h];rfl
 rw [if_neg (fun x=>e x.1),if_neg e];rfl
def aop {s:AS}:(asI s).fdiv (2 ^ (min n.toNat 32)) = 0 <-> s >>> n.toNat = 0:=by
 rw [amc,show (0:Int) = asI 0 from rfl,s3]
def azc (h0:0 <= n) (h1:n <= 16) (hi:i <= 64):0 <= (i:Int) * n /\ (i:Int) * n <= 1024:=by
 refine ⟨Int.mul_nonneg b5s h0, ?_⟩;have h2:(i:Int) * n <= (i:Int) * 16:=Int.mul_le_mul_of_nonneg_left h1 b5s;omega
def eu (n:Int) (ps:List AS):Int × List Rw × Int :=
 if n < 0 \/ 16 < n then (0,[],7) else if 64 < ps.length then (0,[],3) else if ps.all (fun p=>decide (p >>> n.toNat = 0)) = true then (n,aw (au n ps),0) else (0,[],1)
def ab1 (h:n < 0 \/ 16 < n):eu n ps = (0,[],7):=if_pos h
def ann (h:¬ (n < 0 \/ 16 < n)) (h2:64 < ps.length):eu n ps = (0,[],3):=by unfold eu;rw [if_neg h,if_pos h2]
def ami (h:¬ (n < 0 \/ 16 < n)) (h2:¬ 64 < ps.length) (hi:i < ps.length) (h3:¬ (ps.getD i default) >>> n.toNat = 0):eu n ps = (0,[],1):=by
 unfold eu;rw [if_neg h,if_neg h2,if_neg (fun e=>absurd (ue (l:=ps) (p:=fun p:AS=>decide (p >>> n.toNat = 0)) hi (decide_eq_false h3)) (by rw [e];decide))]
def a9l (h:¬ (n < 0 \/ 16 < n)) (h2:¬ 64 < ps.length) (h3:∀ j,j < ps.length -> (ps.getD j default) >>> n.toNat = 0):eu n ps = (n,aw (au n ps),0):=by
 unfold eu;rw [if_neg h,if_neg h2,if_pos (x8 (l:=ps) (p:=fun p:AS=>decide (p >>> n.toNat = 0)) fun j hj=>decide_eq_true (h3 j hj))]
def amv (hi:i < ps.length) (hk:n.toNat <= k):CoP (.sl n.toNat 1 false (lf zC (stT n i (ps.getD i default) k))) (lf rC (au n ps) i 0):=by
 show CoP _ (zl ((au n ps).getD i default));rw [ajd hi,adq n i _ hk];exact CoP.sl (a5z _ _ _) (.inl rfl) (fun h=>h) fun a j ha hj=>CoP.refl _
end
end
section
open Go.Proofs
def aw3 (n:Int) (ps:List AS):a8 b6g 53 [pI n,pP (asl ps)] (ab [pT (eu n ps).1 (eu n ps).2.1,pI (eu n ps).2.2]):=by
 refine hpx (nt:=73) Tryz.func53 ?_;refine sx7 ?_;refine m9 0 ?_;refine w_9 ?_;refine ae rfl rfl (fun r0=>?_) (fun r0=>?_)
 ·
  have h0:=tz1 r0;(iterate 2 refine k9 (gtf r0) ?_);refine dq ?_;refine hrr ?_
  have he:=ab1 (n:=n) (ps:=ps) b5s;exact f9 rfl rfl (by rw [he];exact ⟨CoC.agg ⟨CoP.refl _,ce,trivial⟩,CoC.refl _,trivial⟩)
 have h0:=tz2 r0;(iterate 2 refine qy ?_ (hg:=(gff r0)));refine w_3 ?_;refine am _ rfl (fun r1=>?_) (fun r1=>?_)
 · have h1:=tz1 (ar r0 r1);refine w_6 ?_;refine hrr ?_;have he:=ab1 (n:=n) (ps:=ps) b5s;exact f9 rfl rfl (by rw [he];exact ⟨CoC.agg ⟨CoP.refl _,ce,trivial⟩,CoC.refl _,trivial⟩)
 have h1:=tz2 (ar r0 r1);refine w_7 ?_;refine hcd (fun h2=>?_) (fun h2=>?_)
 · refine w_6 ?_;refine hrr ?_;have he:=ann (n:=n) (ps:=ps) b5s b5s;exact f9 rfl rfl (by rw [he];exact ⟨CoC.agg ⟨CoP.refl _,ce,trivial⟩,CoC.refl _,trivial⟩)
 refine w_5 ?_;refine m9 1 ?_;refine w_2 ?_;refine dg 1 1 900 true 1 97 (lf rC (au n ps)) b5x rfl rfl (CoP.sl rfl (.inr rfl) (fun h=>h) (fun i j hi _=>absurd hi (b2y i))) (.inr rfl) rfl rfl ?_;refine w_8 ?_;refine ah (ι:=Nat) (ka 0 (ka 4 (ka 6 (ka 26 (ka 27 kn))))) (kb 0 km) (fun i=>⟨[(28,some (vI i))],[(1,some (.box [.p (.raw (.int .i64 n)), .ref 900 i])),(900,some (.arr true 1 97 i (lf rC (au n ps))))]⟩) (fun i=>i <= ps.length /\ ∀ j,j < i -> (ps.getD j default) >>> n.toNat = 0) (fun i=>ps.length - i) (0) (⟨b2w _,b7⟩) kk ?_;rintro i ⟨hi,hI⟩;refine w_5 ?_;refine hcd (fun h3=>?_) (fun h3=>?_)
 ·
  have hin:=azc (n:=n) (i:=i) b5s b5s b5s;refine yp ?_;refine hcn (fun h4=>?_) (fun h4=>?_)
  · refine w_6 ?_;refine hrr ?_;have he:=ami (n:=n) (ps:=ps) (i:=i) b5s b5s b5s (fun e=>absurd (aop.2 e) b5t);exact f9 rfl rfl (by rw [he];exact ⟨CoC.agg ⟨CoP.refl _,ce,trivial⟩,CoC.refl _,trivial⟩)
  refine w_4 ?_;refine m9 2 ?_;refine w_9 ?_;refine cj (ka 0 (ka 4 (ka 6 (ka 7 (ka 8 (ka 9 (ka 26 (ka 27 (ka 28 (ka 40 kn)))))))))) (kb 1 (kb 900 (kb 0 km))) (fun k=>⟨[(41,some (vI k))],[(2,some (.arr true 1 3 n.toNat (lf zC (stT n i (ps.getD i default) k))))]⟩) n.toNat ⟨tt,⟨⟨_,rfl,(a9q rfl (fun _=>rfl))⟩,trivial⟩⟩ ?_;rintro k hk;refine w_5 ?_;refine hcd (fun h5=>?_) (fun h5=>?_)
  ·
   refine b05 ?_;refine hcd (fun h6=>?_) (fun h6=>?_)
   · refine fl ?_;exact lpx (k + 1) ⟨tt,⟨⟨_,rfl,(by first | exact ai3 ((lc b5s).1 b5t) rfl b5s b5s | exact aix (fun e=>absurd ((lc b5s).2 e) b5t) rfl b5s)⟩,uu⟩⟩
   refine w_5 ?_;exact lpx (k + 1) ⟨tt,⟨⟨_,rfl,(by first | exact ai3 ((lc b5s).1 b5t) rfl b5s b5s | exact aix (fun e=>absurd ((lc b5s).2 e) b5t) rfl b5s)⟩,uu⟩⟩
  refine c4 ?_;refine c3 9 rfl rfl rfl ?_;refine w_4 ?_;refine m9 3 ?_;refine r9 4 true ?_;refine w_7 ?_;refine lpz (i + 1) ⟨tt,⟨u9,⟨_,rfl,(jz (fun h=>h) (fun j hj=>by obtain rfl:j = 0:=b5s;exact amv b5s b5s))⟩,uu⟩⟩ ?_;exact ⟨by show i + 1 <= _;omega,av hI (aop.1 b5t)⟩
 obtain rfl:i = ps.length:=by omega
 refine w_4 ?_;refine jq rfl rfl rfl rfl rfl rfl abj ((a61 n (au n ps) (by rw [qu];omega))) (⟨⟨CoP.refl _,congrArg (HV.ref 900) (qu _ _).symm,trivial⟩,trivial⟩) ⟨⟨_,rfl,aex rfl (qu _ _).symm⟩,trivial⟩ rfl rfl ?_;refine w_3 ?_;refine hrr ?_;have he:=a9l (n:=n) (ps:=ps) b5s b5s (fun j hj=>hI j b5s);exact f9 rfl rfl (by rw [he];exact CoL.refl _)
end
section
def c7 (n:Int):Rw:=(List.range n.toNat).map fun (i:Nat)=>(i:Int)
def agb (n:Int):(c7 n).length = n.toNat:=by unfold c7;simp
def aja {n:Int} {i:Nat} {p:AS} {k:Nat} (h:k < n.toNat):(stR n i p).getD k default = stV n i p k:=by
 unfold stR;rw [b2r,b35,b3t h];rfl
def ay0 {s:AS} {n:Int} (h0:0 <= n) (h1:n <= 16):sub s (ai n) <-> s >>> n.toNat = 0:=by
 unfold ai;rw [b42 b5s];exact x3 b5s
def axq (l:List Rw) (x:Fd) (a b:Nat):Bool:=jj (l.getD a default) (l.getD b default) x.lhs && !(l.any fun r=>decide (r = d7 (l.getD a default) (l.getD b default) x.rhs))
end
section
def Wel (n:Int) (l:List Rw):Prop:=∀ r,r ∈ l -> r.length = n.toNat /\ ∀ z,z ∈ r -> 0 <= z
section
variable {l:List Rw}
def w9 {i:Nat} (h:i < l.length):l.getD i default ∈ l:=by
 rw [b2r,b2q h];exact b31 h
def li {n:Int} (h:tok n l = true):Wel n l:=by
 obtain ⟨h0,h1,h2,h3⟩:=j4 h;unfold tok at h;rw [b2x,decide_eq_true_iff,decide_eq_true_iff] at h;rintro r hr;obtain ⟨i,hi,rfl⟩:=b3o hr;have e:l.getD i default = l[i]:=by rw [b2r,b2q hi];rfl
 rw [<- e];refine ⟨h3 i hi,fun z hz=>?_⟩;have:=h.2 i hi;unfold kz at this;rw [b2x,b2x] at this;have h4:=this.1.2;rw [b3y,b4a] at h4;have:=h4 z hz;rw [decide_eq_true_iff] at this;omega
def ap9 {n:Int} (h:tok n l = true):lz l:=by
 unfold tok at h;rw [b2x,decide_eq_true_iff,decide_eq_true_iff] at h
 have hs:∀ d i:Nat,i + d + 1 < l.length -> ltZ (l.getD i default) (l.getD (i + d + 1) default) = true:=by
  intro d
  induction d with
  | zero =>
   intro i hi;have:=h.2 (i + 1) hi;unfold kz at this;rw [b2x,b43,decide_eq_true_iff] at this
   rcases this.2 with h5 | h5
   · omega
   exact h5
  | succ d ih =>
   intro i hi;have h1:=ih i b5s;have:=h.2 (i + d + 1 + 1) b5s;unfold kz at this;rw [b2x,b43,decide_eq_true_iff] at this
   rcases this.2 with h5 | h5
   · omega
   exact jh h1 h5
 unfold lz;rw [b51];intro i j hi hj hij;obtain ⟨d,rfl⟩:∃ d,j = i + d + 1:=⟨j - i - 1,by omega⟩;have:=hs d i hj;rwa [b2r,b2q hi,b2r,b2q hj] at this
def ajj {n:Int} (h0:0 <= n) (h1:n <= 16) (h2:l.length <= 256) (hw:Wel n l) (ho:lz l):tok n l = true:=by
 refine aoe h0 h1 h2 fun i hi=>?_;obtain ⟨h3,h4⟩:=hw _ (w9 hi);refine a9k b5s ?_ ?_
 · rw [b4a]
   intro z hz;have:=h4 z hz;rw [decide_eq_true_iff];omega
 rcases b46 i with h | h
 · exact .inl h
 right;have:=b51.1 ho (i - 1) i b5s hi b5s;rw [b2r,b2q b5s,b2r,b2q hi];exact this
def zw {n:Int} (h0:0 <= n) (h1:n <= 16) (h2:(aw l).length <= 256) (hw:Wel n l):tok n (aw l) = true :=
 ajj h0 h1 h2 (fun r hr=>hw r (dt.1 hr)) (o6 l)
def inV (l:List Rw) (M:Nat -> Nat -> Int) (z:Int):Prop:=∃ i r,i < l.length /\ r < (l.getD i default).length /\ M i r = z
def ael {z:Int}:inV l (dj l) z <-> ∃ r,r ∈ l /\ z ∈ r:=by
 constructor
 · rintro ⟨i,r,hi,hr,rfl⟩
   refine ⟨_,w9 hi, ?_⟩;show (l.getD i default).getD r default ∈ _;rw [b2r (l:=l.getD i default),b2q hr];exact b31 hr
 rintro ⟨r,hr,hz⟩;obtain ⟨i,hi,rfl⟩:=b3o hr;obtain ⟨k,hk,rfl⟩:=b3o hz;have e:l.getD i default = l[i]:=by rw [b2r,b2q hi];rfl
 refine ⟨i,k,hi,by rw [e];exact hk, ?_⟩;show (l.getD i default).getD k default = _;rw [e,b2r,b2q hk];rfl
def a2d {M:Nat -> Nat -> Int} {z:Int}:(∃ r,r ∈ cz l M /\ z ∈ r) <-> inV l M z:=by
 constructor
 · rintro ⟨r,hr,hz⟩
   unfold cz at hr;rw [b3a] at hr;obtain ⟨i,hi,rfl⟩:=hr;rw [b3a] at hz;obtain ⟨k,hk,rfl⟩:=hz;exact ⟨i,k,b3e.1 hi,b3e.1 hk,rfl⟩
 rintro ⟨i,k,hi,hk,rfl⟩;refine ⟨(List.range (l.getD i default).length).map (M i), ?_,b3a.2 ⟨k,b3e.2 hk,rfl⟩⟩;unfold cz;exact b3a.2 ⟨i,b3e.2 hi,rfl⟩
end
section
variable {l:List Rw} {a b:Nat} (ha:a < l.length) (hb:b < l.length)
def ah1 (x y:Int):loI x y = x \/ loI x y = y:=by unfold loI;split <;> simp
def aoc (x y:Int):hiI x y = x \/ hiI x y = y:=by unfold hiI;split <;> simp
include ha hb in
def ayc {M:Nat -> Nat -> Int} {j:Nat} (hja:j < (l.getD a default).length) (hjb:j < (l.getD b default).length) {z:Int} (h:inV l (eqM M a b j) z):inV l M z:=by
 obtain ⟨i,r,hi,hr,he⟩:=h;unfold eqM at he;split at he
 · rcases ah1 (M a j) (M b j) with h | h
   · exact ⟨a,j,ha,hja,by rw [<- he,h]⟩
   exact ⟨b,j,hb,hjb,by rw [<- he,h]⟩
 exact ⟨i,r,hi,hr,he⟩
include ha hb in
def a9f:∀ {js:List Nat} {M:Nat -> Nat -> Int},(∀ j,j ∈ js -> j < (l.getD a default).length /\ j < (l.getD b default).length) -> ∀ {z:Int},inV l (eqMs M a b js) z -> inV l M z
 | [],_,_,_,h=>h
 | j :: js,M,hj,z,h=>ayc ha hb (hj j b5v).1 (hj j b5v).2 (a9f (js:=js) (M:=eqM M a b j) (fun k hk=>hj k (by simp [hk])) h)
include ha hb in
def a7f:∀ {js:List Nat} {M:Nat -> Nat -> Int},(∀ j,j ∈ js -> j < (l.getD a default).length /\ j < (l.getD b default).length) -> (∃ j,j ∈ js /\ ¬ M a j = M b j) -> ∃ z,inV l M z /\ ¬ inV l (eqMs M a b js) z
 | [],_,_,⟨_,h,_⟩=>by simp at h
 | j :: js,M,hj,⟨k,hk,hne⟩=>by
  by_cases e:M a j = M b j
  · have e2:eqMs M a b (j :: js) = eqMs M a b js:=by
     show eqMs (eqM M a b j) a b js = _;rw [a1w e]
    rw [e2];refine a7f (fun k hk=>hj k (by simp [hk])) ⟨k, ?_,hne⟩
    rcases b2z.1 hk with h | h
    · subst h;exact absurd e hne
    exact h
  refine ⟨hiI (M a j) (M b j), ?_,fun h=>?_⟩
  · rcases aoc (M a j) (M b j) with h | h
    · exact ⟨a,j,ha,(hj j b5v).1,h.symm⟩
    exact ⟨b,j,hb,(hj j b5v).2,h.symm⟩
  obtain ⟨i,r,hi,hr,he⟩:=a9f ha hb (fun k hk=>hj k (by simp [hk])) (show inV l (eqMs (eqM M a b j) a b js) _ from h);unfold eqM at he;split at he
  · unfold hiI loI at he
    split at he <;> split at he <;> omega
  rename_i h2;exact h2 he
end
def a6c (Z:List Int) (l:List Rw):Nat:=Z.countP fun z=>l.any fun r=>decide (z ∈ r)
def muC (Z:List Int) (l:List Rw):Nat:=a6c Z l * 300 + (300 - l.length)
def Cov (Z:List Int) (l:List Rw):Prop:=∀ r,r ∈ l -> ∀ z,z ∈ r -> z ∈ Z
def s8 {l:List Rw} {z:Int}:(l.any fun r=>decide (z ∈ r)) = true <-> ∃ r,r ∈ l /\ z ∈ r:=by
 rw [b3l];exact ⟨fun ⟨r,h,h2⟩=>⟨r,h,of_decide_eq_true h2⟩,fun ⟨r,h,h2⟩=>⟨r,h,decide_eq_true h2⟩⟩
def countP_lt' {p q:Int -> Bool}:∀ {Z:List Int},(∀ z,p z = true -> q z = true) -> (∃ z,z ∈ Z /\ q z = true /\ p z = false) -> Z.countP p < Z.countP q
 | [],_,⟨_,h,_⟩=>by simp at h
 | x :: Z,h,⟨z,hz,hq,hp⟩=>by
  have hm:Z.countP p <= Z.countP q:=List.countP_mono_left fun z _=>h z;rw [b4z,b4z]
  rcases b2z.1 hz with rfl | hz
  · rw [hq,hp]
    simp only [if_true,b5i,if_false];omega
  have:=countP_lt' (Z:=Z) h ⟨z,hz,hq,hp⟩;by_cases e:p x = true
  · rw [e,h x e];omega
  rw [if_neg e];omega
def ard {Z:List Int} {l l':List Rw} (h:∀ z,(∃ r,r ∈ l' /\ z ∈ r) -> ∃ r,r ∈ l /\ z ∈ r) (h2:∃ z,z ∈ Z /\ (∃ r,r ∈ l /\ z ∈ r) /\ ¬ ∃ r,r ∈ l' /\ z ∈ r):a6c Z l' < a6c Z l:=by
 refine countP_lt' (fun z hz=>s8.2 (h z (s8.1 hz))) ?_;obtain ⟨z,h3,h4,h5⟩:=h2;exact ⟨z,h3,s8.2 h4,by rw [b38];exact fun e=>h5 (s8.1 e)⟩
def apc {Z:List Int} {l l':List Rw} (h:∀ z,(∃ r,r ∈ l' /\ z ∈ r) -> ∃ r,r ∈ l /\ z ∈ r):a6c Z l' <= a6c Z l :=
 List.countP_mono_left fun z _ hz=>s8.2 (h z (s8.1 hz))
end
section
def a9h {r:Rw}:∀ {l:List Rw},r ∉ l -> (gw r l).length = l.length + 1
 | [],_=>rfl
 | y :: l,h=>by
  unfold gw;have h1:¬ r = y:=fun e=>h (by rw [e];simp);have h2:=a9h (l:=l) (r:=r) fun e=>h (by simp [e]);rw [if_neg h1];split
  · simp
  simp only [b41];omega
def ahp {l:List Rw} {r:Rw} (ho:lz l):aw (l ++ [r]) = gw r l:=by
 have e:l = aw l:=abx ho fun _=>Iff.rfl
 have:aw (l ++ [r]) = gw r (aw l):=by
  unfold aw;rw [b5b];rfl
 rw [this,<- e]
section
variable {n:Int} {l:List Rw} {a b:Nat} {x:Fd}
abbrev fdL (l:List Rw) (a b:Nat) (x:Fd):List Rw:=aw (cz l (eqMs (dj l) a b (b9 x.rhs)))
def agv (hT:tok n l = true) (hu:inU n x = true) (ha:a < l.length) (hb:b < l.length) (hs:eg l x a b = true) :
 fdE n l a b x = (n,fdL l a b x,0) /\ tok n (fdL l a b x) = true /\ (∀ z,(∃ r,r ∈ fdL l a b x /\ z ∈ r) -> ∃ r,r ∈ l /\ z ∈ r) /\ ∀ Z,Cov Z l -> muC Z (fdL l a b x) < muC Z l:=by
 obtain ⟨h0,h1,h2,h3⟩:=j4 hT;have hw:=li hT;unfold eg at hs;rw [b2x,b3y] at hs;obtain ⟨hl,hr⟩:=hs
 have hj:∀ j,j ∈ b9 x.rhs -> j < (l.getD a default).length /\ j < (l.getD b default).length:=fun j hj=>by
  have:=a5e h0 h1 hu hj;exact ⟨by rw [h3 a ha];exact this,by rw [h3 b hb];exact this⟩
 have hV:∀ z,(∃ r,r ∈ fdL l a b x /\ z ∈ r) -> ∃ r,r ∈ l /\ z ∈ r:=fun z ⟨r,hr,hz⟩=>ael.1 (a9f ha hb hj (a2d.1 ⟨r,dt.1 hr,hz⟩));have hlen:(fdL l a b x).length <= l.length:=b3v (a7m _) (b5o (lj _ _));refine ⟨if_pos hl,zw h0 h1 (b3v hlen h2) (fun r hr=>⟨?_,fun z hz=>?_⟩),hV,fun Z hZ=>?_⟩
 · unfold cz at hr
   rw [b3a] at hr;obtain ⟨i,hi,rfl⟩:=hr;rw [b3g,List.length_range];exact h3 i (b3e.1 hi)
 · obtain ⟨r2,h5,h6⟩:=hV z ⟨r,dt.2 hr,hz⟩
   exact (hw r2 h5).2 z h6
 have hne:∃ j,j ∈ b9 x.rhs /\ ¬ dj l a j = dj l b j:=by
  apply Classical.byContradiction;intro hno;rw [yw] at hr
  · cases hr
  intro i hi hh;apply Classical.byContradiction;intro e
  have hi2:i < 32:=by
   have:=h3 a ha;omega
  rw [fg hi2] at hh;exact hno ⟨i,zr.2 ⟨hi2,hh⟩,e⟩
 obtain ⟨z,hz1,hz2⟩:=a7f ha hb hj hne;have hz3:=ael.1 hz1;have:=ard (Z:=Z) hV ⟨z,by obtain ⟨r,h7,h8⟩:=hz3;exact hZ r h7 z h8,hz3,fun ⟨r,h7,h8⟩=>hz2 (a2d.1 ⟨r,dt.1 h7,h8⟩)⟩;unfold muC;omega
abbrev mvL (l:List Rw) (a b:Nat) (x:Fd):List Rw:=aw (l ++ [d7 (l.getD a default) (l.getD b default) (x.lhs ||| x.rhs)])
def ay3 (hT:tok n l = true) (ha:a < l.length) (hb:b < l.length) (hs:ef l x a b = true) :
 mvE n l a b x = (0,[],3) \/ (mvE n l a b x = (n,mvL l a b x,0) /\ tok n (mvL l a b x) = true /\ (∀ z,(∃ r,r ∈ mvL l a b x /\ z ∈ r) -> ∃ r,r ∈ l /\ z ∈ r) /\ ∀ Z,Cov Z l -> muC Z (mvL l a b x) < muC Z l):=by
 obtain ⟨h0,h1,h2,h3⟩:=j4 hT;have hw:=li hT;unfold ef at hs;rw [b2x,b3y] at hs;obtain ⟨hl,hr⟩:=hs;have hno:=apm hr;have hE:mvE n l a b x = oi n l (d7 (l.getD a default) (l.getD b default) (x.lhs ||| x.rhs)):=if_pos hl;by_cases hbig:256 < (mvL l a b x).length
 · left
   rw [hE];exact if_pos hbig
 right
 have hmem:∀ z,z ∈ d7 (l.getD a default) (l.getD b default) (x.lhs ||| x.rhs) -> z ∈ l.getD a default \/ z ∈ l.getD b default:=fun z hz=>by
  unfold d7 at hz;rw [b3a] at hz;obtain ⟨i,hi,rfl⟩:=hz;have hi:=b3e.1 hi;have hi2:i < (l.getD a default).length:=by rw [h3 a ha,<- h3 b hb];exact hi
  split
  · left
    rw [b2r (l:=l.getD a default),b2q hi2];exact b31 hi2
  right;rw [b2r (l:=l.getD b default),b2q hi];exact b31 hi
 have hV:∀ z,(∃ r,r ∈ mvL l a b x /\ z ∈ r) -> ∃ r,r ∈ l /\ z ∈ r:=fun z ⟨r,hr,hz⟩=>by
  rcases b3f.1 (dt.1 hr) with h | h
  · exact ⟨r,h,hz⟩
  rw [b39] at h;subst h
  rcases hmem z hz with h | h
  · exact ⟨_,w9 ha,h⟩
  exact ⟨_,w9 hb,h⟩
 refine ⟨by rw [hE];exact if_neg hbig,zw h0 h1 (Nat.le_of_not_lt fun e=>hbig e) (fun r hr=>⟨?_,fun z hz=>?_⟩),hV,fun Z hZ=>?_⟩
 · rcases b3f.1 hr with h | h
   · exact (hw r h).1
   rw [b39] at h;subst h;rw [it];exact h3 b hb
 · obtain ⟨r2,h5,h6⟩:=hV z ⟨r,dt.2 hr,hz⟩
   exact (hw r2 h5).2 z h6
 have e:(mvL l a b x).length = l.length + 1:=by
  show (aw _).length = _;rw [ahp (ap9 hT),a9h hno]
 have:=apc (Z:=Z) hV;unfold muC;omega
end
def ajm {α:Type} {f:Nat -> Option α}:∀ {n:Nat} {x:α},(List.range n).findSome? f = some x -> ∃ k,k < n /\ f k = some x:=fun {n x} h=>by
 obtain ⟨k,hk,e⟩:=b5g h;exact ⟨k,b3e.1 hk,e⟩
def a3o {P:Nat -> Nat -> Nat -> Bool} {I L i a b:Nat} (h:j7 P I L = some (i,a,b)):i < I /\ a < L /\ b < L /\ P i a b = true:=by
 obtain ⟨i',hi,h⟩:=ajm h;obtain ⟨a',ha,h⟩:=ajm h;rw [Option.map_eq_some_iff] at h;obtain ⟨b',hb,e⟩:=h;simp only [b2s] at e;obtain ⟨rfl,rfl,rfl⟩:=e;exact ⟨hi,ha,b3e.1 (List.mem_of_find?_eq_some hb),by simpa using List.find?_some hb⟩
def uy (l:List Rw) (p m:List Fd) (s:St):Prop:=s.2.2.1 < l.length /\ s.2.2.2 < l.length /\ ((s.1 = false /\ s.2.1 < p.length /\ eg l (p.getD s.2.1 default) s.2.2.1 s.2.2.2 = true) \/ (s.1 = true /\ s.2.1 < m.length /\ ef l (m.getD s.2.1 default) s.2.2.1 s.2.2.2 = true))
section
variable {l:List Rw} {m p:List Fd}
def a57 {s:St} (h:d9 l p m = some s):uy l p m s:=by
 unfold d9 at h;split at h
 · rename_i x e
   simp only [b2p] at h;subst h;obtain ⟨i,a,b⟩:=x;obtain ⟨h1,h2,h3,h4⟩:=a3o e;exact ⟨h2,h3, .inl ⟨rfl,h1,h4⟩⟩
 rw [Option.map_eq_some_iff] at h;obtain ⟨⟨i,a,b⟩,e,rfl⟩:=h;obtain ⟨h1,h2,h3,h4⟩:=a3o e;exact ⟨h2,h3, .inr ⟨rfl,h1,h4⟩⟩
def c8 (n:Int) (l:List Rw) (p m:List Fd) (s:St):Int × List Rw × Int:=if s.1 = true then mvE n l s.2.2.1 s.2.2.2 (m.getD s.2.1 default) else fdE n l s.2.2.1 s.2.2.2 (p.getD s.2.1 default)
def aci {n:Int} {s:St} (hT:tok n l = true) (hp:p.all (inU n) = true) (h:uy l p m s):
 c8 n l p m s = (0,[],3) \/ ∃ l',c8 n l p m s = (n,l',0) /\ tok n l' = true /\ (∀ Z,Cov Z l -> Cov Z l' /\ muC Z l' < muC Z l):=by
 obtain ⟨ha,hb,h | h⟩:=h
 · obtain ⟨h1,h2,h3⟩:=h
   have hu:inU n (p.getD s.2.1 default) = true:=b3j.1 hp _ (by rw [b2r,b2q h2];exact b31 h2);obtain ⟨e,h4,h5,h6⟩:=agv hT hu ha hb h3;exact .inr ⟨_,by unfold c8;rw [if_neg (by rw [h1];decide)];exact e,h4,fun Z hZ=>⟨fun r hr z hz=>by obtain ⟨r2,h7,h8⟩:=h5 z ⟨r,hr,hz⟩;exact hZ r2 h7 z h8,h6 Z hZ⟩⟩
 obtain ⟨h1,h2,h3⟩:=h
 rcases ay3 hT ha hb h3 with e | ⟨e,h4,h5,h6⟩
 · exact .inl (by unfold c8;rw [if_pos h1];exact e)
 exact .inr ⟨_,by unfold c8;rw [if_pos h1];exact e,h4,fun Z hZ=>⟨fun r hr z hz=>by obtain ⟨r2,h7,h8⟩:=h5 z ⟨r,hr,hz⟩;exact hZ r2 h7 z h8,h6 Z hZ⟩⟩
def f3:Nat -> Int -> List Rw -> List Fd -> List Fd -> List St -> List St × (Int × List Rw) × Int
 | 0,_,_,_,_,_=>([],(0,[]),0)
 | f + 1,n,l,p,m,acc =>
  match d9 l p m with
  | none=>(acc,(n,l),0)
  | some s=>match c8 n l p m s with
   | (n',l',e)=>if e = 0 then f3 f n' l' p m (acc ++ [s]) else ([],(0,[]),e)
variable {acc:List St}
def a4p {f:Nat} {n:Int} (hf:0 < f) (h:d9 l p m = none):f3 f n l p m acc = (acc,(n,l),0):=by
 obtain ⟨g,rfl⟩:∃ g,f = g + 1:=⟨f - 1,by omega⟩;unfold f3;rw [h]
def a3s {f:Nat} {n:Int} {s:St} (hf:0 < f) (h:d9 l p m = some s) {n' e:Int} {l':List Rw} (h2:c8 n l p m s = (n',l',e)) (he:¬ e = 0):f3 f n l p m acc = ([],(0,[]),e):=by
 obtain ⟨g,rfl⟩:∃ g,f = g + 1:=⟨f - 1,by omega⟩;unfold f3;rw [h];simp only;rw [h2];simp only;rw [if_neg he]
def uv {f:Nat} {n:Int} {s:St} (hf:0 < f) (h:d9 l p m = some s) {n':Int} {l':List Rw} (h2:c8 n l p m s = (n',l',0)):f3 f n l p m acc = f3 (f - 1) n' l' p m (acc ++ [s]):=by
 obtain ⟨g,rfl⟩:∃ g,f = g + 1:=⟨f - 1,by omega⟩;rw [Nat.add_sub_cancel]
 conv=>lhs;unfold f3
 rw [h];simp only;rw [h2];simp only;rw [if_pos trivial]
end
end
section
open Go.Proofs
def auk (n:Int) (l:List Rw) (p m:List Fd) (s:St) (hT:tok n l = true) (hp:p.all (inU n) = true) (h:uy l p m s) :
 a8 b6g 91 [pT n l,pP (fdl p),pP (fdl m),s.pc] (ab [pT (c8 n l p m s).1 (c8 n l p m s).2.1,pI (c8 n l p m s).2.2]):=by
 obtain ⟨mu,i,a,b⟩:=s;obtain ⟨ha,hb,h | h⟩:=h
 · obtain ⟨h1,h2,h3⟩:=h
   cases h1;exact af3 n l p m i a b hT ha hb h2 (b3j.1 hp _ (by rw [b2r,b2q h2];exact b31 h2))
 obtain ⟨h1,h2,h3⟩:=h;cases h1;exact ado n l p m i a b hT ha hb h2
abbrev St.c (s:St):Nat -> PV:=fun j=>[.raw (.bool s.1), .raw (.int .i64 (s.2.1:Int)), .raw (.int .i64 (s.2.2.1:Int)), .raw (.int .i64 (s.2.2.2:Int))].getD j .any
abbrev stl (l:List St):PV:=psl 4 St.c l
abbrev ckE (n:Int) (l:List Rw) (p m:List Fd):Int:=if tok n l = true then cg n p m else 1
section
variable {l:List Rw} {m p:List Fd} {n:Int}
def a9e (h:ckE n l p m = 0):tok n l = true /\ cg n p m = 0 /\ p.all (inU n) = true:=by
 unfold ckE at h;by_cases e:tok n l = true
 · rw [if_pos e] at h
   exact ⟨e,h,(a5b h).2.2.2.1⟩
 rw [if_neg e] at h;omega
def ig (F:Nat) (n:Int) (l:List Rw) (p m:List Fd):List St × (Int × List Rw) × Int:=if ckE n l p m = 0 then f3 F n l p m [] else ([],(0,[]),ckE n l p m)
variable {F:Nat}
def akw (h:¬ ckE n l p m = 0):ig F n l p m = ([],(0,[]),ckE n l p m):=if_neg h
def xy (h:ckE n l p m = 0):ig F n l p m = f3 F n l p m []:=if_pos h
def aqy {α:Type} {o:Option α} (h:o.isSome = false):o = none:=by cases o <;> simp_all
def arb {α:Type} {o:Option α} (d:α) (h:o.isSome = true):o = some (o.getD d):=by cases o <;> simp_all
def ac6 (l:List Rw):Cov l.flatten l:=fun r hr z hz=>List.mem_flatten.2 ⟨r,hr,hz⟩
structure StI (F:Nat) (n:Int) (l:List Rw) (p m:List Fd) (x:Nat × List Rw × List St):Prop where
 t:tok n x.2.1 = true
 c:Cov l.flatten x.2.1
 u:muC l.flatten x.2.1 < x.1
 b:x.2.2.length + x.1 <= F
 e:f3 x.1 n x.2.1 p m x.2.2 = f3 F n l p m []
theorem StI.start (hT:tok n l = true) (hF:muC l.flatten l < F):StI F n l p m (F,l,[]):=⟨hT,ac6 l,hF,by simp,rfl⟩
variable {x:Nat × List Rw × List St}
theorem StI.next {s:St} (h:StI F n l p m x) (hp:p.all (inU n) = true) (hS:d9 x.2.1 p m = some s) (he:(c8 n x.2.1 p m s).2.2 = 0):
 (c8 n x.2.1 p m s).1 = n /\ StI F n l p m (x.1 - 1,(c8 n x.2.1 p m s).2.1,x.2.2 ++ [s]):=by
 have hu:=h.u;have hb:=h.b
 rcases aci h.t hp (a57 hS) with e | ⟨l',e,h1,h2⟩
 · rw [e] at he;exact absurd he b5x
 have hq:=h2 _ h.c;refine ⟨by rw [e], ?_⟩;rw [e];exact ⟨h1,hq.1,by show muC _ l' < _;omega,by simp only [b36,b4b];omega,by rw [<- h.e,uv b5s hS e]⟩
theorem StI.fin (h:StI F n l p m x) (hS:d9 x.2.1 p m = none):f3 F n l p m [] = (x.2.2,(n,x.2.1),0):=by
 have hu:=h.u;rw [<- h.e,a4p b5s hS]
theorem StI.err {s:St} (h:StI F n l p m x) (hS:d9 x.2.1 p m = some s) (he:¬ (c8 n x.2.1 p m s).2.2 = 0):f3 F n l p m [] = ([],(0,[]),(c8 n x.2.1 p m s).2.2):=by
 have hu:=h.u;rw [<- h.e];exact a3s b5s hS rfl he
end
end
section
open Go.Proofs
def aue (F:Nat) (n:Int) (l:List Rw) (p m:List Fd) (hF:tok n l = true -> muC l.flatten l < F) (hFb:F <= 4000000000):a8 b6g 86 [pT n l,pP (fdl p),pP (fdl m)] (ab [pP (stl (ig F n l p m).1),pT (ig F n l p m).2.1.1 (ig F n l p m).2.1.2,pI (ig F n l p m).2.2]):=by
 refine hpx (nt:=53) Tryz.func86 ?_;refine sx7 ?_;refine m9 0 ?_;refine qy ?_;refine m9 1 ?_;refine w_8 ?_;refine qcx ab7 (a2s n l p m) ?_;refine w_7 ?_;refine hcn (fun h0=>?_) (fun h0=>?_)
 · refine w_8 ?_;refine hrr ?_;have he:=akw (F:=F) (n:=n) (l:=l) (p:=p) (m:=m) b5t;exact f9 rfl rfl (by rw [he];exact ⟨CoC.one (CoP.sl rfl (.inr rfl) (fun _=>rfl) (fun i j hi _=>absurd hi (b2y i))),CoC.agg ⟨CoP.refl _,ce,trivial⟩,CoC.refl _,trivial⟩)
 have hck:ckE n l p m = 0:=by assumption
 obtain ⟨hT,hbe,hpa⟩:=a9e hck;obtain ⟨hn0,hn16,hl256,hrow⟩:=j4 hT;have hbig:∀ i,i < l.length -> (l.getD i default).length <= 17592186044416:=fun i hi=>by rw [hrow i hi];omega
 refine w_4 ?_;refine qcx a5h (amy n l hbig b5s) ?_;refine w_6 ?_;refine gm 10 900 true 4 85 (lf St.c []) b5x rfl (CoP.sl rfl (.inr rfl) (fun h=>h) (fun i j hi _=>absurd hi (b2y i))) (.inr rfl) rfl ?_;refine aad ?_;refine ah (ι:=Nat × List Rw × List St) (ka 1 (ka 2 (ka 3 (ka 7 kn)))) (kb 1 km) (fun x=>⟨[(10,some (.v (.one (.ref 900 x.2.2.length))))],[(0,some (.box [.p (.raw (.int .i64 n)), .p (rl x.2.1)])),(900,some (.arr true 4 85 x.2.2.length (lf St.c x.2.2)))]⟩) (fun x=>StI F n l p m x) (fun x=>x.1) ((F,l,[])) (StI.start hT (hF hT)) kk ?_;rintro x hX;have hXu:=hX.u;have hXb:=hX.b;refine w_6 ?_;refine qcx (wgx Tryz.func126) (atn n x.2.1 p m hX.t) ?_;refine w_3 ?_;refine m9 2 ?_;refine w_9 ?_;refine hcv (fun h1=>?_) (fun h1=>?_)
 · have hS:=aqy (by simpa using h1);refine w_9 ?_;refine c3 6 rfl rfl rfl ?_;refine hrr ?_;have he:=(xy hck).trans (hX.fin hS);exact f9 rfl rfl (by rw [he];exact CoL.refl _)
 have hS:=arb (false,0,0,0) (by simpa using h1);refine w_7 ?_;refine qcx acb (auk n x.2.1 p m ((d9 x.2.1 p m).getD (false,0,0,0)) hX.t hpa (a57 hS)) ?_;refine w_3 ?_;refine m9 3 ?_;refine w_9 ?_;refine hcn (fun h2=>?_) (fun h2=>?_)
 · refine w_8 ?_;refine hrr ?_;have he:=(xy hck).trans (hX.err hS b5t);exact f9 rfl rfl (by rw [he];exact ⟨CoC.one (CoP.sl rfl (.inr rfl) (fun _=>rfl) (fun i j hi _=>absurd hi (b2y i))),CoC.agg ⟨CoP.refl _,ce,trivial⟩,CoC.refl _,trivial⟩)
 have hnx:=hX.next hpa hS b5t
 refine w_4 ?_;refine m9 4 ?_;refine r9 5 true ?_;refine w_5 ?_;refine ⟨(x.1 - 1,(c8 n x.2.1 p m ((d9 x.2.1 p m).getD (false,0,0,0))).2.1,x.2.2 ++ [((d9 x.2.1 p m).getD (false,0,0,0))]), ?_, ?_, ?_⟩
 · exact hnx.2
 · show x.1 - 1 < x.1
   omega
 exact ⟨⟨⟨_,rfl,(fk rfl)⟩,tt⟩,⟨⟨_,rfl,⟨CoP.of_eq (by rw [hnx.1]),CoH.refl _,trivial⟩⟩,⟨_,rfl,(sa rfl (fun j hj=>by match j,hj with | 0,_=>exact CoP.refl _ | 1,_=>exact CoP.refl _ | 2,_=>exact CoP.refl _ | 3,_=>exact CoP.refl _) rfl)⟩,uu⟩⟩
end
section
def aam:∀ {l:List Rw},(∀ r,r ∈ l -> r.length <= 16) -> l.flatten.length <= 16 * l.length
 | [],_=>by simp
 | r :: l,h=>by
  have h1:=h r b5v;have h2:=aam (l:=l) fun r hr=>h r (by simp [hr]);simp only [List.flatten_cons,b36,b41];omega
abbrev FU:Nat:=1300000
def ak8 {n:Int} {l:List Rw} (h:tok n l = true):muC l.flatten l < FU:=by
 obtain ⟨h0,h1,h2,h3⟩:=j4 h;have h4:=aam (l:=l) fun r hr=>by have:=(li h r hr).1;omega
 have h5:a6c l.flatten l <= l.flatten.length:=List.countP_le_length;unfold muC;show _ < 1300000;omega
def aum {n:Int} {i:Nat} {p:AS} {k a N:Nat} (h:bm p (k:Int) = true) (hN:N = n.toNat) (ha:a = k) :
 CoO (.arr true 1 3 N (ej (lf zC (stT n i p k)) a 0 [.raw (.int .i64 (k:Int))])) (.arr true 1 3 N (lf zC (stT n i p (k + 1)))):=by
 subst ha;refine ⟨fun h=>h,rfl,rfl,rfl,fun c j hc hj=>CoP.of_eq ?_⟩;obtain rfl:j = 0:=by omega
 show _ = PV.raw (.int .i64 ((stT n i p (a + 1)).getD c default));rw [a34 c b5s];unfold ej;by_cases e:c = a
 · rw [if_pos ⟨e,by omega,by simp⟩,if_pos e]
   unfold stV;rw [if_pos h];rfl
 rw [if_neg (fun x=>e x.1),if_neg e];rfl
def aj7 {k:Nat} (h:k < 32):bm (iz 32) (k:Int) = true:=by
 rw [fg h,kx 32 k h];exact decide_eq_true h
def ai2 {n:Int} {k:Nat} (h1:n <= 16) (hk:n.toNat <= k):stT n 0 (iz 32) k = c7 n:=by
 rw [adq _ _ _ hk];unfold stR c7;refine b4s fun c hc=>?_;have:=b3e.1 hc;unfold stV;rw [if_pos (aj7 b5s)]
def ahh {n:Int} {k:Nat} (h1:n <= 16) (hk:n.toNat <= k):CoC (.one (.sl n.toNat 1 false (lf zC (stT n 0 (iz 32) k)))) (pZ (c7 n)):=by
 rw [ai2 h1 hk];exact aoa (agb n)
abbrev uf (n:Int) (x:Fd):List AS:=[x.lhs ||| x.rhs,x.lhs ||| (ai n &&& ~~~x.rhs)]
def b0r (n:Int) (p m:List Fd) (x:Fd):Bool × Int :=
 if cg n p m = 0 then
  if inU n x = true then
   if (eu n (uf n x)).2.2 = 0 then
    if (ig FU (eu n (uf n x)).1 (eu n (uf n x)).2.1 p m).2.2 = 0 then ((ig FU (eu n (uf n x)).1 (eu n (uf n x)).2.1 p m).2.1.2.any (fun r=>decide (r = c7 n)),0)
    else (false,(ig FU (eu n (uf n x)).1 (eu n (uf n x)).2.1 p m).2.2)
   else (false,(eu n (uf n x)).2.2)
  else (false,1)
 else (false,cg n p m)
end
section
open Go.Proofs
def muK (p:List Fd) (k:Nat):Bool:=decide (p.length <= k)
def ixK (p:List Fd) (k:Nat):Nat:=if p.length <= k then k - p.length else k
def chE (l:List Rw) (p m:List Fd) (s:St):Bool:=if s.1 = true then axq l (m.getD s.2.1 default) s.2.2.1 s.2.2.2 else eg l (p.getD s.2.1 default) s.2.2.1 s.2.2.2
def ay7 (l:List Rw) (p m:List Fd) (k a b:Nat):Bool:=decide (a ≠ b) && chE l p m (muK p k,ixK p k,a,b)
def b0z (l:List Rw) (p m:List Fd):Option St:=(j7 (ay7 l p m) (p.length + m.length) l.length).map fun x=>(muK p x.1,ixK p x.1,x.2.1,x.2.2)
section
variable {l:List Rw} {p m:List Fd} {k a b:Nat}
end
end
section
def anc (a:Rw) (s:AS):d7 a a s = a:=by
 refine k6 (it a a s) fun j hj=>?_;rw [it] at hj;unfold d7;rw [b2r,b35,b3t hj];show (if bm s (j:Int) = true then a.getD j default else a.getD j default) = _;split <;> rfl
def age {l:List Rw} {x:Fd} {a:Nat}:eg l x a a = false:=a35 (yw fun _ _ _=>rfl)
def ah2 {l:List Rw} {x:Fd} {a:Nat} (ha:a < l.length):ef l x a a = false:=by
 refine a32 ?_;rw [anc,b3l];exact ⟨_,w9 ha,decide_eq_true rfl⟩
end
section
def gp (l:List Rw) (p m:List Fd) (mu:Bool) (i a b:Int):Prop:=a < 0 \/ (l.length:Int) <= a \/ b < 0 \/ (l.length:Int) <= b \/ a = b \/ i < 0 \/ (mu = true /\ (m.length:Int) <= i) \/ (mu = false /\ (p.length:Int) <= i)
instance (l:List Rw) (p m:List Fd) (mu:Bool) (i a b:Int):Decidable (gp l p m mu i a b):=by unfold gp;infer_instance
def bdS {l:List Rw} {p m:List Fd} {mu:Bool} {i a b:Int} (h:gp l p m mu i a b:=by unfold gp;first | exact .inl b5s | exact .inr (.inl b5s) | exact .inr (.inr (.inl b5s)) | exact .inr (.inr (.inr (.inl b5s))) | exact .inr (.inr (.inr (.inr (.inl b5s)))) | exact .inr (.inr (.inr (.inr (.inr (.inl b5s))))) | exact .inr (.inr (.inr (.inr (.inr (.inr (.inl ⟨by first | rfl | assumption | simp_all,by omega⟩)))))) | exact .inr (.inr (.inr (.inr (.inr (.inr (.inr ⟨by first | rfl | assumption | simp_all,by omega⟩))))))):gp l p m mu i a b:=h
def gr (n:Int) (l:List Rw) (p m:List Fd) (mu:Bool) (i a b:Int):Int × List Rw × Int :=
 if ckE n l p m = 0 then if gp l p m mu i a b then (0,[],1) else c8 n l p m (mu,i.toNat,a.toNat,b.toNat) else (0,[],ckE n l p m)
section
variable {n:Int} {l:List Rw} {p m:List Fd} {mu:Bool} {i a b:Int}
end
end
section
def AgE (E:Int -> Int -> Prop) (a b:Rw) (s:AS):Prop:=∀ i:Nat,i < a.length -> bm s (i:Int) = true -> E (a.getD i default) (b.getD i default)
structure Mdl (N:Nat) (p m:List Fd) (E:Int -> Int -> Prop) (R:Rw -> Prop):Prop where
 refl:∀ x,E x x
 symm:∀ {x y},E x y -> E y x
 trans:∀ {x y z},E x y -> E y z -> E x z
 len:∀ {r},R r -> r.length = N
 cong:∀ {r r':Rw},R r -> r'.length = r.length -> (∀ i,i < r.length -> E (r.getD i default) (r'.getD i default)) -> R r'
 fd:∀ {x},x ∈ p -> ∀ {a b},R a -> R b -> AgE E a b x.lhs -> AgE E a b x.rhs
 mv:∀ {x},x ∈ m -> ∀ {a b},R a -> R b -> AgE E a b x.lhs -> R (d7 a b (x.lhs ||| x.rhs))
def LE (N:Nat) (p m:List Fd) (l:List Rw) (x y:Int):Prop:=∀ E R,Mdl N p m E R -> (∀ r,r ∈ l -> R r) -> E x y
def LR (N:Nat) (p m:List Fd) (l:List Rw) (r:Rw):Prop:=∀ E R,Mdl N p m E R -> (∀ r,r ∈ l -> R r) -> R r
def ar0 (N:Nat) (p m:List Fd):Mdl N p m (fun _ _=>True) (fun r=>r.length = N) :=
 ⟨fun _=>trivial,fun _=>trivial,fun _ _=>trivial,fun h=>h,fun h e _=>e.trans h,fun _ _ _ _ _ _ _ _ _=>trivial,fun _ a b _ hb _=>(it _ _ _).trans hb⟩
def a0w {N:Nat} {p m:List Fd} {l:List Rw} (hl:∀ r,r ∈ l -> r.length = N):Mdl N p m (LE N p m l) (LR N p m l) where
 refl x:=fun E R h _=>h.refl x
 symm h:=fun E R k kl=>k.symm (h E R k kl)
 trans h h2:=fun E R k kl=>k.trans (h E R k kl) (h2 E R k kl)
 len h:=h _ _ (ar0 N p m) hl
 cong h e h2:=fun E R k kl=>k.cong (h E R k kl) e fun i hi=>h2 i hi E R k kl
 fd hx _ _ ha hb hl:=fun i hi hs E R k kl=>k.fd hx (ha E R k kl) (hb E R k kl) (fun j hj hh=>hl j hj hh E R k kl) i hi hs
 mv hx _ _ ha hb hl:=fun E R k kl=>k.mv hx (ha E R k kl) (hb E R k kl) fun j hj hh=>hl j hj hh E R k kl
structure Ch (N:Nat) (p m:List Fd) (l0 l:List Rw) (σ:Int -> Int):Prop where
 rows:∀ r,r ∈ l -> LR N p m l0 r
 sym:∀ s,LE N p m l0 s (σ s)
 img:∀ r,r ∈ l0 -> r.map σ ∈ l
 fix:∀ r,r ∈ l -> ∀ z,z ∈ r -> σ z = z
 le:∀ s,σ s <= s
section
variable {N:Nat} {p m:List Fd} {l0 l l':List Rw} {σ σ':Int -> Int} {n:Int}
theorem Ch.start:Ch N p m l0 l0 id:=⟨fun r hr E R _ hl=>hl r hr,fun s E R k _=>k.refl s,fun r hr=>by rw [List.map_id];exact hr,fun _ _ _ _=>rfl,fun s=>Int.le_refl s⟩
theorem Ch.congr (h:Ch N p m l0 l σ) (e:∀ r,r ∈ l' <-> r ∈ l):Ch N p m l0 l' σ :=
 ⟨fun r hr=>h.rows r ((e r).1 hr),h.sym,fun r hr=>(e _).2 (h.img r hr),fun r hr=>h.fix r ((e r).1 hr),h.le⟩
def lx (hi lo z:Int):Int:=if z = hi then lo else z
section
variable {f:Int -> Int}
def gn {r:Rw} {i:Nat} (h:i < r.length):(r.map f).getD i default = f (r.getD i default):=by
 rw [b2r,b35,b2q h,b2r,b2q h];rfl
theorem Ch.sub (hl0:∀ r,r ∈ l0 -> r.length = N) (h:Ch N p m l0 l σ) {hi lo:Int} (hE:LE N p m l0 hi lo) (hle:lo <= hi) (hin:∃ r,r ∈ l /\ lo ∈ r):Ch N p m l0 (l.map fun r=>r.map (lx hi lo)) (fun s=>lx hi lo (σ s)):=by
 have hm:=a0w (p:=p) (m:=m) hl0
 have hs:∀ z,LE N p m l0 z (lx hi lo z):=fun z=>by
  unfold lx;split
  · rename_i e;rw [e];exact hE
  exact hm.refl z
 refine ⟨fun r hr=>?_,fun s=>hm.trans (h.sym s) (hs _),fun r hr=>?_,fun r hr z hz=>?_,fun s=>?_⟩
 · obtain ⟨r0,h0,rfl⟩:=b3a.1 hr
   exact hm.cong (h.rows r0 h0) b5v fun i hi=>by rw [gn hi];exact hs _
 · refine b3a.2 ⟨_,h.img r hr, ?_⟩
   rw [List.map_map];rfl
 · obtain ⟨r0,h0,rfl⟩:=b3a.1 hr
   obtain ⟨y,hy,rfl⟩:=b3a.1 hz;obtain ⟨r1,h1,h2⟩:=hin;have e1:=h.fix r0 h0 y hy;have e2:=h.fix r1 h1 lo h2;by_cases e:y = hi
   · have e3:lx hi lo y = lo:=if_pos e
     show lx hi lo (σ (lx hi lo y)) = lx hi lo y;rw [e3,e2];unfold lx;split <;> rfl
   have e3:lx hi lo y = y:=if_neg e;show lx hi lo (σ (lx hi lo y)) = lx hi lo y;rw [e3,e1,e3]
 have h1:=h.le s
 have h2:lx hi lo (σ s) <= σ s:=by
  unfold lx;split <;> omega
 exact Int.le_trans h2 h1
def afy {M:Nat -> Nat -> Int} {a b j:Nat}:cz l (eqM M a b j) = (cz l M).map fun r=>r.map (lx (hiI (M a j) (M b j)) (loI (M a j) (M b j))):=by
 unfold cz;rw [List.map_map];refine b4s fun i _=>?_;show _ = List.map _ (List.map _ _);rw [List.map_map];rfl
def ajf {M:Nat -> Nat -> Int} {a j:Nat} (ha:a < l.length) (hj:j < (l.getD a default).length):∃ r,r ∈ cz l M /\ M a j ∈ r :=
 a2d.2 ⟨a,j,ha,hj,rfl⟩
theorem Ch.eqMs (hl0:∀ r,r ∈ l0 -> r.length = N) {a b:Nat} (ha:a < l.length) (hb:b < l.length):∀ {js:List Nat} {M:Nat -> Nat -> Int} {σ:Int -> Int},Ch N p m l0 (cz l M) σ -> (∀ j,j ∈ js -> j < (l.getD a default).length /\ j < (l.getD b default).length /\ LE N p m l0 (M a j) (M b j)) ->
 ∃ σ',Ch N p m l0 (cz l (eqMs M a b js)) σ'
 | [],M,σ,h,_=>⟨σ,h⟩
 | j :: js,M,σ,h,hj=>by
  obtain ⟨h1,h2,h3⟩:=hj j b5v;have hm:=a0w (p:=p) (m:=m) hl0;have hlo:loI (M a j) (M b j) <= hiI (M a j) (M b j):=by unfold loI hiI;split <;> split <;> omega
  have hE:LE N p m l0 (hiI (M a j) (M b j)) (loI (M a j) (M b j)):=by
   rcases aoc (M a j) (M b j) with e | e <;> rcases ah1 (M a j) (M b j) with f | f <;> rw [e,f]
   · exact hm.refl _
   · exact h3
   · exact hm.symm h3
   exact hm.refl _
  have hin:∃ r,r ∈ cz l M /\ loI (M a j) (M b j) ∈ r:=by
   rcases ah1 (M a j) (M b j) with f | f <;> rw [f]
   · exact ajf ha h1
   exact ajf hb h2
  have hq:=h.sub hl0 hE hlo hin;rw [<- afy] at hq
  have hs:∀ z,LE N p m l0 z (if z = hiI (M a j) (M b j) then loI (M a j) (M b j) else z):=fun z=>by
   split
   · rename_i e;rw [e];exact hE
   exact hm.refl z
  exact Ch.eqMs hl0 ha hb (js:=js) hq fun k hk=>by
   obtain ⟨h4,h5,h6⟩:=hj k (by simp [hk]);exact ⟨h4,h5,hm.trans (hm.symm (hs (M a k))) (hm.trans h6 (hs (M b k)))⟩
def adj:cz l (dj l) = l:=by
 refine k6 (lj _ _) fun i hi=>?_;rw [lj] at hi;rw [a7o hi];refine k6 b5v fun k hk=>?_;simp only [b3g,List.length_range] at hk;rw [b2r,b35,b3t hk];rfl
def afu (hl0:∀ r,r ∈ l0 -> r.length = N) {a b:Rw} {s:AS} (h:jj a b s = true):AgE (LE N p m l0) a b s:=fun i hi hs=>by
 rw [of_decide_eq_true h i hi hs];exact (a0w hl0).refl _
def cu {α:Type} [Inhabited α] {l:List α} {i:Nat} (h:i < l.length):l.getD i default ∈ l:=by
 rw [b2r,b2q h];exact b31 h
def akn {a b:Rw} {s:AS} (hl:a.length = b.length) {z:Int} (hz:z ∈ d7 a b s):z ∈ a \/ z ∈ b:=by
 unfold d7 at hz;rw [b3a] at hz;obtain ⟨i,hi,rfl⟩:=hz;have hi:=b3e.1 hi;split
 · exact .inl (cu b5s)
 exact .inr (cu hi)
def am0 (l:List Rw) (p m:List Fd) (s:St):Prop:=s.2.2.1 < l.length /\ s.2.2.2 < l.length /\ (s.1 = false -> s.2.1 < p.length) /\ (s.1 = true -> s.2.1 < m.length)
theorem Ch.app (hl0:∀ r,r ∈ l0 -> r.length = n.toNat) (hT:tok n l = true) (hp:p.all (inU n) = true) (h:Ch n.toNat p m l0 l σ) {s:St} (hs:am0 l p m s) (he:(c8 n l p m s).2.2 = 0) :
 (c8 n l p m s).1 = n /\ ∃ σ',Ch n.toNat p m l0 (c8 n l p m s).2.1 σ':=by
 obtain ⟨mu,i,a,b⟩:=s;obtain ⟨ha,hb,hf,hv⟩:=hs;obtain ⟨h0,h1,h2,h3⟩:=j4 hT;have ha:a < l.length:=ha;have hb:b < l.length:=hb;have hra:=h3 a ha;have hrb:=h3 b hb
 cases mu with
 | false =>
  have hi:i < p.length:=hf rfl;have e0:c8 n l p m (false,i,a,b) = fdE n l a b (p.getD i default):=rfl;rw [e0] at he ⊢;by_cases hg:jj (l.getD a default) (l.getD b default) (p.getD i default).lhs = true
  · have e1:fdE n l a b (p.getD i default) = (n,aw (cz l (Go.Hx.eqMs (dj l) a b (b9 (p.getD i default).rhs))),0):=if_pos hg
    rw [e1];refine ⟨rfl, ?_⟩;have hu:inU n (p.getD i default) = true:=b3j.1 hp _ (cu hi);have hm:=a0w (p:=p) (m:=m) hl0;have hR:=hm.fd (cu hi) (h.rows _ (cu ha)) (h.rows _ (cu hb)) (afu hl0 hg)
    obtain ⟨σ',hσ⟩:=Ch.eqMs (p:=p) (m:=m) hl0 ha hb (js:=b9 (p.getD i default).rhs) (M:=dj l) (σ:=σ) (by rw [adj];exact h) fun j hj=>by
     have h4:=a5e h0 h1 hu hj;have h5:=zr.1 hj;refine ⟨Nat.lt_of_lt_of_eq h4 hra.symm,Nat.lt_of_lt_of_eq h4 hrb.symm,hR j (Nat.lt_of_lt_of_eq h4 hra.symm) (by rw [fg h5.1];exact h5.2)⟩
    exact ⟨σ',hσ.congr fun r=>dt⟩
  have e1:fdE n l a b (p.getD i default) = (0,[],1):=if_neg hg;rw [e1] at he;exact absurd he b5x
 | true =>
  have hi:i < m.length:=hv rfl;have e0:c8 n l p m (true,i,a,b) = mvE n l a b (m.getD i default):=rfl;rw [e0] at he ⊢;by_cases hg:jj (l.getD a default) (l.getD b default) (m.getD i default).lhs = true
  · have e1:mvE n l a b (m.getD i default) = oi n l (d7 (l.getD a default) (l.getD b default) ((m.getD i default).lhs ||| (m.getD i default).rhs)):=if_pos hg
    rw [e1] at he ⊢;by_cases hbig:256 < (aw (l ++ [d7 (l.getD a default) (l.getD b default) ((m.getD i default).lhs ||| (m.getD i default).rhs)])).length
    · have e2:oi n l (d7 (l.getD a default) (l.getD b default) ((m.getD i default).lhs ||| (m.getD i default).rhs)) = (0,[],3):=if_pos hbig
      rw [e2] at he;exact absurd he b5x
    have e2:oi n l (d7 (l.getD a default) (l.getD b default) ((m.getD i default).lhs ||| (m.getD i default).rhs)) = (n,aw (l ++ [d7 (l.getD a default) (l.getD b default) ((m.getD i default).lhs ||| (m.getD i default).rhs)]),0):=if_neg hbig;rw [e2];refine ⟨rfl,σ, ?_⟩;have hm:=a0w (p:=p) (m:=m) hl0;have hR:=hm.mv (cu hi) (h.rows _ (cu ha)) (h.rows _ (cu hb)) (afu hl0 hg);refine ⟨fun r hr=>?_,h.sym,fun r hr=>dt.2 (b32 _ (h.img r hr)),fun r hr z hz=>?_,h.le⟩
    · rcases b3f.1 (dt.1 hr) with h4 | h4
      · exact h.rows r h4
      rw [b39.1 h4];exact hR
    rcases b3f.1 (dt.1 hr) with h4 | h4
    · exact h.fix r h4 z hz
    rw [b39.1 h4] at hz
    rcases akn b5s hz with h5 | h5
    · exact h.fix _ (cu ha) z h5
    exact h.fix _ (cu hb) z h5
  have e1:mvE n l a b (m.getD i default) = (0,[],1):=if_neg hg;rw [e1] at he;exact absurd he b5x
def a49 {P:Nat -> Nat -> Nat -> Bool} {I L:Nat} (h:j7 P I L = none) {i a b:Nat} (hi:i < I) (ha:a < L) (hb:b < L):P i a b = false:=by
 unfold j7 at h;rw [b5a] at h;have h1:=h i (b3e.2 hi);rw [b5a] at h1;have h2:=h1 a (b3e.2 ha);rw [Option.map_eq_none_iff,List.find?_eq_none] at h2;exact b38.2 (h2 b (b3e.2 hb))
def aj8 (h:d9 l p m = none):(∀ i,i < p.length -> ∀ a,a < l.length -> ∀ b,b < l.length -> eg l (p.getD i default) a b = false) /\ ∀ i,i < m.length -> ∀ a,a < l.length -> ∀ b,b < l.length -> ef l (m.getD i default) a b = false:=by
 unfold d9 at h;split at h
 · cases h
 rename_i e;rw [Option.map_eq_none_iff] at h;exact ⟨fun i hi a ha b hb=>a49 (P:=fun i a b=>eg l (p.getD i default) a b) e hi ha hb,fun i hi a ha b hb=>a49 (P:=fun i a b=>ef l (m.getD i default) a b) h hi ha hb⟩
def pz {α:Type} [Inhabited α] {l:List α} {x:α} (h:x ∈ l):∃ i,i < l.length /\ l.getD i default = x:=by
 obtain ⟨i,hi,rfl⟩:=b3o h;exact ⟨i,hi,by rw [b2r,b2q hi];rfl⟩
def anb {a b:Rw} {s:AS} (hl:a.length = b.length):d7 (a.map f) (b.map f) s = (d7 a b s).map f:=by
 unfold d7;rw [List.map_map,b3g];refine b4s fun i hi=>?_;have hi:=b3e.1 hi;show _ = f (if bm s (i:Int) = true then a.getD i default else b.getD i default);split
 · rw [gn b5s]
 rw [gn hi]
theorem Ch.mdl (hT:tok n l = true) (hn:d9 l p m = none) (σ:Int -> Int):Mdl n.toNat p m (fun x y=>σ x = σ y) (fun r=>r.length = n.toNat /\ r.map σ ∈ l):=by
 obtain ⟨hF,hM⟩:=aj8 hn;refine ⟨fun _=>rfl,fun h=>h.symm,fun h k=>h.trans k,fun h=>h.1,fun {r r'} h e h2=>⟨e.trans h.1, ?_⟩,fun {x} hx {a b} ha hb hl i hi hs=>?_,fun {x} hx {a b} ha hb hl=>⟨(it _ _ _).trans hb.1, ?_⟩⟩
 · have:r'.map σ = r.map σ:=by
    refine k6 (by simp [e]) fun i hi=>?_;rw [b3g] at hi;rw [gn hi,gn b5s];exact (h2 i b5s).symm
   rw [this];exact h.2
 · obtain ⟨k,hk,rfl⟩:=pz hx
   obtain ⟨ia,hia,ea⟩:=pz ha.2;obtain ⟨ib,hib,eb⟩:=pz hb.2;have h1:=hF k hk ia hia ib hib;unfold eg at h1;rw [ea,eb,yw (fun j hj hs=>by rw [b3g] at hj;rw [gn hj,gn (by rw [hb.1,<- ha.1];exact hj)];exact hl j hj hs),b4r,Bool.not_eq_false'] at h1;have h2:=of_decide_eq_true h1 i (by rw [b3g];exact hi) hs;rw [gn hi,gn (by rw [hb.1,<- ha.1];exact hi)] at h2;exact h2
 obtain ⟨k,hk,rfl⟩:=pz hx;obtain ⟨ia,hia,ea⟩:=pz ha.2;obtain ⟨ib,hib,eb⟩:=pz hb.2;have h1:=hM k hk ia hia ib hib;unfold ef at h1;rw [ea,eb,yw (fun j hj hs=>by rw [b3g] at hj;rw [gn hj,gn (by rw [hb.1,<- ha.1];exact hj)];exact hl j hj hs),b4r,Bool.not_eq_false'] at h1;obtain ⟨r,hr,e⟩:=b3l.1 h1;rw [<- anb (by rw [ha.1,hb.1]),<- of_decide_eq_true e];exact hr
theorem Ch.has (h:Ch n.toNat p m l0 l σ) (hT:tok n l = true) (hl0:∀ r,r ∈ l0 -> r.length = n.toNat) (hn:d9 l p m = none):(∀ x y,LE n.toNat p m l0 x y -> σ x = σ y) /\ ∀ r,LR n.toNat p m l0 r -> r.map σ ∈ l:=by
 have hm:=Ch.mdl (p:=p) (m:=m) hT hn σ;have hl:∀ r,r ∈ l0 -> r.length = n.toNat /\ r.map σ ∈ l:=fun r hr=>⟨hl0 r hr,h.img r hr⟩;exact ⟨fun x y e=>e _ _ hm hl,fun r e=>(e _ _ hm hl).2⟩
def a6v:∀ {r:Rw},(∀ z,z ∈ r -> f z = z) -> r.map f = r
 | [],_=>rfl
 | z :: r,h=>by rw [b4c,h z b5v,a6v fun y hy=>h y (by simp [hy])]
theorem Ch.mem (h:Ch n.toNat p m l0 l σ) (hT:tok n l = true) (hl0:∀ r,r ∈ l0 -> r.length = n.toNat) (hn:d9 l p m = none) {r:Rw}:r ∈ l <-> LR n.toNat p m l0 r /\ r.map σ = r:=by
 constructor
 · intro hr
   exact ⟨h.rows r hr,a6v (h.fix r hr)⟩
 rintro ⟨h1,h2⟩;rw [<- h2];exact (h.has hT hl0 hn).2 r h1
end
end
end
end Go.Hx

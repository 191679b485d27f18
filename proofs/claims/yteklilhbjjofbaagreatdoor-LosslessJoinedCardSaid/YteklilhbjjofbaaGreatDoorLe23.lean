/- A part of the proof: Ch9 X13 Ch10 Ch11 Ch12 Ch13 X15 Ch14 Ch19 Ch20 Ch21 Cc1. -/
import Derived.Test.YteklilhbjjofbaaGreatDoorLe22
set_option linter.all false
set_option maxRecDepth 100000
namespace Go.Hx
section
def stV (n:Int) (i:Nat) (p:AS) (c:Nat):Int:=if bt p (c:Int) = true then (c:Int) else n + (i:Int) * n + (c:Int)
def stT (n:Int) (i:Nat) (p:AS) (k:Nat):Rw:=(List.range n.toNat).map fun c=>if c < k then stV n i p c else 0
def stR (n:Int) (i:Nat) (p:AS):Rw:=(List.range n.toNat).map fun c=>stV n i p c
def av (n:Int) (ps:List AS):List Rw:=(List.range ps.length).map fun i=>stR n i (ps.getD i default)
def aeg (n:Int) (i:Nat) (p:AS):(stR n i p).length = n.toNat:=by unfold stR;simp
def qx (n:Int) (ps:List AS):(av n ps).length = ps.length:=by unfold av;simp
section
variable {i:Nat} {n:Int} {ps:List AS}
def ajd (h:i < ps.length):(av n ps).getD i default = stR n i (ps.getD i default):=by
 unfold av;rw [b2i,b32,b3j h];rfl
variable {k:Nat}
def afc (n:Int) (i:Nat) (p:AS) (h:n.toNat <= k):stT n i p k = stR n i p:=by
 unfold stT stR;refine b4g fun c hc=>?_;have:=b36.1 hc;rw [if_pos b5h]
variable {p:AS}
def aav {c:Nat} (h:c < n.toNat):(stT n i p k).getD c default = if c < k then stV n i p c else 0:=by
 unfold stT;rw [b2i,b32,b3j h];rfl
def ac2 {N:Nat} {f:Nat -> Nat -> PV} (hN:N = n.toNat) (hf:∀ a,f a 0 = .raw (.int .i64 0)):CoO (.arr true 1 3 N f) (.arr true 1 3 N (lf zC (stT n i p 0))) :=
 ⟨fun h=>h,rfl,rfl,rfl,fun a j ha hj=>by
  obtain rfl:j = 0:=by omega
  refine CoP.of_eq ?_;rw [hf];show _ = PV.raw (.int .i64 ((stT n i p 0).getD a default))
  rw [aav b5h,if_neg b5h]⟩
def a37:∀ c,c < n.toNat -> (stT n i p (k + 1)).getD c default = if c = k then stV n i p k else (stT n i p k).getD c default:=fun c hc=>by
 rw [aav hc,aav hc];by_cases h:c = k
 · rw [if_pos h,if_pos b5h,h]
 rw [if_neg h];by_cases h2:c < k
 · rw [if_pos h2,if_pos b5h]
 rw [if_neg h2,if_neg b5h]
def aj4 {a b N:Nat} {x:Int} (h:bt p (k:Int) = true) (hN:N = n.toNat) (ha:a = k) (hb:b = k):
 CoO (.arr true 1 3 N (da (da (lf zC (stT n i p k)) a 0 [.raw (.int .i64 x)]) b 0 [.raw (.int .i64 (k:Int))])) (.arr true 1 3 N (lf zC (stT n i p (k + 1)))):=by
 subst ha hb;refine ⟨fun h=>h,rfl,rfl,rfl,fun c j hc hj=>CoP.of_eq ?_⟩;obtain rfl:j = 0:=by omega
 show _ = PV.raw (.int .i64 ((stT n i p (b + 1)).getD c default));rw [a37 c b5h];unfold da;by_cases e:c = b
 · rw [if_pos ⟨e,by omega,by simp⟩,if_pos e]
   unfold stV;rw [if_pos h];rfl
 rw [if_neg (fun x=>e x.1),if_neg (fun x=>e x.1),if_neg e];rfl
def ai6 {a N:Nat} (h:¬ bt p (k:Int) = true) (hN:N = n.toNat) (ha:a = k):
 CoO (.arr true 1 3 N (da (lf zC (stT n i p k)) a 0 [.raw (.int .i64 (n + (i:Int) * n + (k:Int)))])) (.arr true 1 3 N (lf zC (stT n i p (k + 1)))):=by
 subst ha;refine ⟨fun h=>h,rfl,rfl,rfl,fun c j hc hj=>CoP.of_eq ?_⟩;obtain rfl:j = 0:=by omega
 show _ = PV.raw (.int .i64 ((stT n i p (a + 1)).getD c default));rw [a37 c b5h];unfold da;by_cases e:c = a
 · rw [if_pos ⟨e,by omega,by simp⟩,if_pos e]
   unfold stV;rw [if_neg h];rfl
 rw [if_neg (fun x=>e x.1),if_neg e];rfl
def aoc {s:AS}:(asI s).fdiv (2 ^ (min n.toNat 32)) = 0 <-> s >>> n.toNat = 0:=by
 rw [al2,show (0:Int) = asI 0 from rfl,s7]
def azh (h0:0 <= n) (h1:n <= 16) (hi:i <= 64):0 <= (i:Int) * n /\ (i:Int) * n <= 1024:=by
 refine ⟨Int.mul_nonneg b5h h0, ?_⟩;have h2:(i:Int) * n <= (i:Int) * 16:=Int.mul_le_mul_of_nonneg_left h1 b5h;omega
def fc (n:Int) (ps:List AS):Int × List Rw × Int :=
 if n < 0 \/ 16 < n then (0,[],7) else if 64 < ps.length then (0,[],3) else if ps.all (fun p=>decide (p >>> n.toNat = 0)) = true then (n,au (av n ps),0) else (0,[],1)
def abc (h:n < 0 \/ 16 < n):fc n ps = (0,[],7):=if_pos h
def anm (h:¬ (n < 0 \/ 16 < n)) (h2:64 < ps.length):fc n ps = (0,[],3):=by unfold fc;rw [if_neg h,if_pos h2]
def an5 (h:¬ (n < 0 \/ 16 < n)) (h2:¬ 64 < ps.length) (hi:i < ps.length) (h3:¬ (ps.getD i default) >>> n.toNat = 0):fc n ps = (0,[],1):=by
 unfold fc;rw [if_neg h,if_neg h2,if_neg (fun e=>absurd (a4v (l:=ps) (p:=fun p:AS=>decide (p >>> n.toNat = 0)) hi (decide_eq_false h3)) (by rw [e];decide))]
def aak (h:¬ (n < 0 \/ 16 < n)) (h2:¬ 64 < ps.length) (h3:∀ j,j < ps.length -> (ps.getD j default) >>> n.toNat = 0):fc n ps = (n,au (av n ps),0):=by
 unfold fc;rw [if_neg h,if_neg h2,if_pos (a51 (l:=ps) (p:=fun p:AS=>decide (p >>> n.toNat = 0)) fun j hj=>decide_eq_true (h3 j hj))]
def als (hi:i < ps.length) (hk:n.toNat <= k):CoP (.sl n.toNat 1 false (lf zC (stT n i (ps.getD i default) k))) (lf rC (av n ps) i 0):=by
 show CoP _ (zl ((av n ps).getD i default));rw [ajd hi,afc n i _ hk];exact CoP.sl (aeg _ _ _) (.inl rfl) (fun h=>h) fun a j ha hj=>CoP.refl _
end
end
section
open Go.Proofs
def av1 (n:Int) (ps:List AS):aa b65 53 [pI n,pP (asl ps)] (af [pT (fc n ps).1 (fc n ps).2.1,pI (fc n ps).2.2]):=by
 refine hpx (nt:=73) Tryz.func53 ?_;refine sx7 ?_;refine m9 0 ?_;refine w_9 ?_;refine ab rfl rfl (fun r0=>?_) (fun r0=>?_)
 ·
  have h0:=tz1 r0;(iterate 2 refine k9 (gtf r0) ?_);refine dy ?_;refine hrr ?_
  have he:=abc (n:=n) (ps:=ps) b5h;exact f9 rfl rfl (by rw [he];exact ⟨CoC.agg ⟨CoP.refl _,c9,trivial⟩,CoC.refl _,trivial⟩)
 have h0:=tz2 r0;(iterate 2 refine qy ?_ (hg:=(gff r0)));refine w_3 ?_;refine aj _ rfl (fun r1=>?_) (fun r1=>?_)
 · have h1:=tz1 (ao r0 r1);refine w_6 ?_;refine hrr ?_;have he:=abc (n:=n) (ps:=ps) b5h;exact f9 rfl rfl (by rw [he];exact ⟨CoC.agg ⟨CoP.refl _,c9,trivial⟩,CoC.refl _,trivial⟩)
 have h1:=tz2 (ao r0 r1);refine w_7 ?_;refine hcd (fun h2=>?_) (fun h2=>?_)
 · refine w_6 ?_;refine hrr ?_;have he:=anm (n:=n) (ps:=ps) b5h b5h;exact f9 rfl rfl (by rw [he];exact ⟨CoC.agg ⟨CoP.refl _,c9,trivial⟩,CoC.refl _,trivial⟩)
 refine w_5 ?_;refine m9 1 ?_;refine w_2 ?_;refine ep 1 1 900 true 1 97 (lf rC (av n ps)) b5n rfl rfl (CoP.sl rfl (.inr rfl) (fun h=>h) (fun i j hi _=>absurd hi (b2o i))) (.inr rfl) rfl rfl ?_;refine w_8 ?_;refine ai (ι:=Nat) (ka 0 (ka 4 (ka 6 (ka 26 (ka 27 kn))))) (kb 0 km) (fun i=>⟨[(28,some (vI i))],[(1,some (.box [.p (.raw (.int .i64 n)), .ref 900 i])),(900,some (.arr true 1 97 i (lf rC (av n ps))))]⟩) (fun i=>i <= ps.length /\ ∀ j,j < i -> (ps.getD j default) >>> n.toNat = 0) (fun i=>ps.length - i) (0) (⟨b2n _,bh⟩) kk ?_;rintro i ⟨hi,hI⟩;refine w_5 ?_;refine hcd (fun h3=>?_) (fun h3=>?_)
 ·
  have hin:=azh (n:=n) (i:=i) b5h b5h b5h;refine acb ?_;refine hcn (fun h4=>?_) (fun h4=>?_)
  · refine w_6 ?_;refine hrr ?_;have he:=an5 (n:=n) (ps:=ps) (i:=i) b5h b5h b5h (fun e=>absurd (aoc.2 e) b5i);exact f9 rfl rfl (by rw [he];exact ⟨CoC.agg ⟨CoP.refl _,c9,trivial⟩,CoC.refl _,trivial⟩)
  refine w_4 ?_;refine m9 2 ?_;refine w_9 ?_;refine c7 (ka 0 (ka 4 (ka 6 (ka 7 (ka 8 (ka 9 (ka 26 (ka 27 (ka 28 (ka 40 kn)))))))))) (kb 1 (kb 900 (kb 0 km))) (fun k=>⟨[(41,some (vI k))],[(2,some (.arr true 1 3 n.toNat (lf zC (stT n i (ps.getD i default) k))))]⟩) n.toNat ⟨tt,⟨⟨_,rfl,(ac2 rfl (fun _=>rfl))⟩,trivial⟩⟩ ?_;rintro k hk;refine w_5 ?_;refine hcd (fun h5=>?_) (fun h5=>?_)
  ·
   refine ayl ?_;refine hcd (fun h6=>?_) (fun h6=>?_)
   · refine j5 ?_;exact lpx (k + 1) ⟨tt,⟨⟨_,rfl,(by first | exact aj4 ((lj b5h).1 b5i) rfl b5h b5h | exact ai6 (fun e=>absurd ((lj b5h).2 e) b5i) rfl b5h)⟩,uu⟩⟩
   refine w_5 ?_;exact lpx (k + 1) ⟨tt,⟨⟨_,rfl,(by first | exact aj4 ((lj b5h).1 b5i) rfl b5h b5h | exact ai6 (fun e=>absurd ((lj b5h).2 e) b5i) rfl b5h)⟩,uu⟩⟩
  refine c6 ?_;refine cz 9 rfl rfl rfl ?_;refine w_4 ?_;refine m9 3 ?_;refine r9 4 true ?_;refine w_7 ?_;refine lpz (i + 1) ⟨tt,⟨u9,⟨_,rfl,(li (fun h=>h) (fun j hj=>by obtain rfl:j = 0:=b5h;exact als b5h b5h))⟩,uu⟩⟩ ?_;exact ⟨by show i + 1 <= _;omega,ax hI (aoc.1 b5i)⟩
 obtain rfl:i = ps.length:=by omega
 refine w_4 ?_;refine gl rfl rfl rfl rfl rfl rfl acm ((a6u n (av n ps) (by rw [qx];omega))) (⟨⟨CoP.refl _,congrArg (HV.ref 900) (qx _ _).symm,trivial⟩,trivial⟩) ⟨⟨_,rfl,ae1 rfl (qx _ _).symm⟩,trivial⟩ rfl rfl ?_;refine w_3 ?_;refine hrr ?_;have he:=aak (n:=n) (ps:=ps) b5h b5h (fun j hj=>hI j b5h);exact f9 rfl rfl (by rw [he];exact CoL.refl _)
end
section
def cu (n:Int):Rw:=(List.range n.toNat).map fun (i:Nat)=>(i:Int)
def ah6 (n:Int):(cu n).length = n.toNat:=by unfold cu;simp
def aso {n:Int} {i:Nat} {p:AS} {k:Nat} (h:k < n.toNat):(stR n i p).getD k default = stV n i p k:=by
 unfold stR;rw [b2i,b32,b3j h];rfl
def ax9 {s:AS} {n:Int} (h0:0 <= n) (h1:n <= 16):sub s (b5 n) <-> s >>> n.toNat = 0:=by
 unfold b5;rw [b3n b5h];exact xb b5h
def axf (l:List Rw) (x:Fd) (a b:Nat):Bool:=jo (l.getD a default) (l.getD b default) x.lhs && !(l.any fun r=>decide (r = dw (l.getD a default) (l.getD b default) x.rhs))
end
section
def Wel (n:Int) (l:List Rw):Prop:=∀ r,r ∈ l -> r.length = n.toNat /\ ∀ z,z ∈ r -> 0 <= z
section
variable {l:List Rw}
def wc {i:Nat} (h:i < l.length):l.getD i default ∈ l:=by
 rw [b2i,b2h h];exact b2q h
def lh {n:Int} (h:tok n l = true):Wel n l:=by
 obtain ⟨h0,h1,h2,h3⟩:=iw h;unfold tok at h;rw [b2p,decide_eq_true_iff,decide_eq_true_iff] at h;rintro r hr;obtain ⟨i,hi,rfl⟩:=b35 hr;have e:l.getD i default = l[i]:=by rw [b2i,b2h hi];rfl
 rw [<- e];refine ⟨h3 i hi,fun z hz=>?_⟩;have:=h.2 i hi;unfold kp at this;rw [b2p,b2p] at this;have h4:=this.1.2;rw [b3k,b3x] at h4;have:=h4 z hz;rw [decide_eq_true_iff] at this;omega
def ap3 {n:Int} (h:tok n l = true):lp l:=by
 unfold tok at h;rw [b2p,decide_eq_true_iff,decide_eq_true_iff] at h
 have hs:∀ d i:Nat,i + d + 1 < l.length -> ltZ (l.getD i default) (l.getD (i + d + 1) default) = true:=by
  intro d
  induction d with
  | zero =>
   intro i hi;have:=h.2 (i + 1) hi;unfold kp at this;rw [b2p,b3s,decide_eq_true_iff] at this
   rcases this.2 with h5 | h5
   · omega
   exact h5
  | succ d ih =>
   intro i hi;have h1:=ih i b5h;have:=h.2 (i + d + 1 + 1) b5h;unfold kp at this;rw [b2p,b3s,decide_eq_true_iff] at this
   rcases this.2 with h5 | h5
   · omega
   exact jf h1 h5
 unfold lp;rw [b4b];intro i j hi hj hij;obtain ⟨d,rfl⟩:∃ d,j = i + d + 1:=⟨j - i - 1,by omega⟩;have:=hs d i hj;rwa [b2i,b2h hi,b2i,b2h hj] at this
def aiw {n:Int} (h0:0 <= n) (h1:n <= 16) (h2:l.length <= 256) (hw:Wel n l) (ho:lp l):tok n l = true:=by
 refine aob h0 h1 h2 fun i hi=>?_;obtain ⟨h3,h4⟩:=hw _ (wc hi);refine a9i b5h ?_ ?_
 · rw [b3x]
   intro z hz;have:=h4 z hz;rw [decide_eq_true_iff];omega
 rcases b3t i with h | h
 · exact .inl h
 right;have:=b4b.1 ho (i - 1) i b5h hi b5h;rw [b2i,b2h b5h,b2i,b2h hi];exact this
def yt {n:Int} (h0:0 <= n) (h1:n <= 16) (h2:(au l).length <= 256) (hw:Wel n l):tok n (au l) = true :=
 aiw h0 h1 h2 (fun r hr=>hw r (ef.1 hr)) (o8 l)
def inV (l:List Rw) (M:Nat -> Nat -> Int) (z:Int):Prop:=∃ i r,i < l.length /\ r < (l.getD i default).length /\ M i r = z
def ae0 {z:Int}:inV l (du l) z <-> ∃ r,r ∈ l /\ z ∈ r:=by
 constructor
 · rintro ⟨i,r,hi,hr,rfl⟩
   refine ⟨_,wc hi, ?_⟩;show (l.getD i default).getD r default ∈ _;rw [b2i (l:=l.getD i default),b2h hr];exact b2q hr
 rintro ⟨r,hr,hz⟩;obtain ⟨i,hi,rfl⟩:=b35 hr;obtain ⟨k,hk,rfl⟩:=b35 hz;have e:l.getD i default = l[i]:=by rw [b2i,b2h hi];rfl
 refine ⟨i,k,hi,by rw [e];exact hk, ?_⟩;show (l.getD i default).getD k default = _;rw [e,b2i,b2h hk];rfl
def a31 {M:Nat -> Nat -> Int} {z:Int}:(∃ r,r ∈ d9 l M /\ z ∈ r) <-> inV l M z:=by
 constructor
 · rintro ⟨r,hr,hz⟩
   unfold d9 at hr;rw [b37] at hr;obtain ⟨i,hi,rfl⟩:=hr;rw [b37] at hz;obtain ⟨k,hk,rfl⟩:=hz;exact ⟨i,k,b36.1 hi,b36.1 hk,rfl⟩
 rintro ⟨i,k,hi,hk,rfl⟩;refine ⟨(List.range (l.getD i default).length).map (M i), ?_,b37.2 ⟨k,b36.2 hk,rfl⟩⟩;unfold d9;exact b37.2 ⟨i,b36.2 hi,rfl⟩
end
section
variable {l:List Rw} {a b:Nat} (ha:a < l.length) (hb:b < l.length)
def ah2 (x y:Int):loI x y = x \/ loI x y = y:=by unfold loI;split <;> simp
def aoy (x y:Int):hiI x y = x \/ hiI x y = y:=by unfold hiI;split <;> simp
include ha hb in
def awv {M:Nat -> Nat -> Int} {j:Nat} (hja:j < (l.getD a default).length) (hjb:j < (l.getD b default).length) {z:Int} (h:inV l (eqM M a b j) z):inV l M z:=by
 obtain ⟨i,r,hi,hr,he⟩:=h;unfold eqM at he;split at he
 · rcases ah2 (M a j) (M b j) with h | h
   · exact ⟨a,j,ha,hja,by rw [<- he,h]⟩
   exact ⟨b,j,hb,hjb,by rw [<- he,h]⟩
 exact ⟨i,r,hi,hr,he⟩
include ha hb in
def aap:∀ {js:List Nat} {M:Nat -> Nat -> Int},(∀ j,j ∈ js -> j < (l.getD a default).length /\ j < (l.getD b default).length) -> ∀ {z:Int},inV l (eqMs M a b js) z -> inV l M z
 | [],_,_,_,h=>h
 | j :: js,M,hj,z,h=>awv ha hb (hj j b5k).1 (hj j b5k).2 (aap (js:=js) (M:=eqM M a b j) (fun k hk=>hj k (by simp [hk])) h)
include ha hb in
def a7y:∀ {js:List Nat} {M:Nat -> Nat -> Int},(∀ j,j ∈ js -> j < (l.getD a default).length /\ j < (l.getD b default).length) -> (∃ j,j ∈ js /\ ¬ M a j = M b j) -> ∃ z,inV l M z /\ ¬ inV l (eqMs M a b js) z
 | [],_,_,⟨_,h,_⟩=>by simp at h
 | j :: js,M,hj,⟨k,hk,hne⟩=>by
  by_cases e:M a j = M b j
  · have e2:eqMs M a b (j :: js) = eqMs M a b js:=by
     show eqMs (eqM M a b j) a b js = _;rw [a32 e]
    rw [e2];refine a7y (fun k hk=>hj k (by simp [hk])) ⟨k, ?_,hne⟩
    rcases b2s.1 hk with h | h
    · subst h;exact absurd e hne
    exact h
  refine ⟨hiI (M a j) (M b j), ?_,fun h=>?_⟩
  · rcases aoy (M a j) (M b j) with h | h
    · exact ⟨a,j,ha,(hj j b5k).1,h.symm⟩
    exact ⟨b,j,hb,(hj j b5k).2,h.symm⟩
  obtain ⟨i,r,hi,hr,he⟩:=aap ha hb (fun k hk=>hj k (by simp [hk])) (show inV l (eqMs (eqM M a b j) a b js) _ from h);unfold eqM at he;split at he
  · unfold hiI loI at he
    split at he <;> split at he <;> omega
  rename_i h2;exact h2 he
end
def a7a (Z:List Int) (l:List Rw):Nat:=Z.countP fun z=>l.any fun r=>decide (z ∈ r)
def muC (Z:List Int) (l:List Rw):Nat:=a7a Z l * 300 + (300 - l.length)
def Cov (Z:List Int) (l:List Rw):Prop:=∀ r,r ∈ l -> ∀ z,z ∈ r -> z ∈ Z
def s5 {l:List Rw} {z:Int}:(l.any fun r=>decide (z ∈ r)) = true <-> ∃ r,r ∈ l /\ z ∈ r:=by
 rw [b3g];exact ⟨fun ⟨r,h,h2⟩=>⟨r,h,of_decide_eq_true h2⟩,fun ⟨r,h,h2⟩=>⟨r,h,decide_eq_true h2⟩⟩
def countP_lt' {p q:Int -> Bool}:∀ {Z:List Int},(∀ z,p z = true -> q z = true) -> (∃ z,z ∈ Z /\ q z = true /\ p z = false) -> Z.countP p < Z.countP q
 | [],_,⟨_,h,_⟩=>by simp at h
 | x :: Z,h,⟨z,hz,hq,hp⟩=>by
  have hm:Z.countP p <= Z.countP q:=List.countP_mono_left fun z _=>h z;rw [b4n,b4n]
  rcases b2s.1 hz with rfl | hz
  · rw [hq,hp]
    simp only [if_true,b5b,if_false];omega
  have:=countP_lt' (Z:=Z) h ⟨z,hz,hq,hp⟩;by_cases e:p x = true
  · rw [e,h x e];omega
  rw [if_neg e];omega
def apq {Z:List Int} {l l':List Rw} (h:∀ z,(∃ r,r ∈ l' /\ z ∈ r) -> ∃ r,r ∈ l /\ z ∈ r) (h2:∃ z,z ∈ Z /\ (∃ r,r ∈ l /\ z ∈ r) /\ ¬ ∃ r,r ∈ l' /\ z ∈ r):a7a Z l' < a7a Z l:=by
 refine countP_lt' (fun z hz=>s5.2 (h z (s5.1 hz))) ?_;obtain ⟨z,h3,h4,h5⟩:=h2;exact ⟨z,h3,s5.2 h4,by rw [b33];exact fun e=>h5 (s5.1 e)⟩
def apc {Z:List Int} {l l':List Rw} (h:∀ z,(∃ r,r ∈ l' /\ z ∈ r) -> ∃ r,r ∈ l /\ z ∈ r):a7a Z l' <= a7a Z l :=
 List.countP_mono_left fun z _ hz=>s5.2 (h z (s5.1 hz))
end
section
def a93 {r:Rw}:∀ {l:List Rw},r ∉ l -> (gz r l).length = l.length + 1
 | [],_=>rfl
 | y :: l,h=>by
  unfold gz;have h1:¬ r = y:=fun e=>h (by rw [e];simp);have h2:=a93 (l:=l) (r:=r) fun e=>h (by simp [e]);rw [if_neg h1];split
  · simp
  simp only [b3r];omega
def akd {l:List Rw} {r:Rw} (ho:lp l):au (l ++ [r]) = gz r l:=by
 have e:l = au l:=ab2 ho fun _=>Iff.rfl
 have:au (l ++ [r]) = gz r (au l):=by
  unfold au;rw [b4t];rfl
 rw [this,<- e]
section
variable {n:Int} {l:List Rw} {a b:Nat} {x:Fd}
abbrev fdL (l:List Rw) (a b:Nat) (x:Fd):List Rw:=au (d9 l (eqMs (du l) a b (bc x.rhs)))
def ahb (hT:tok n l = true) (hu:inU n x = true) (ha:a < l.length) (hb:b < l.length) (hs:f0 l x a b = true) :
 fdE n l a b x = (n,fdL l a b x,0) /\ tok n (fdL l a b x) = true /\ (∀ z,(∃ r,r ∈ fdL l a b x /\ z ∈ r) -> ∃ r,r ∈ l /\ z ∈ r) /\ ∀ Z,Cov Z l -> muC Z (fdL l a b x) < muC Z l:=by
 obtain ⟨h0,h1,h2,h3⟩:=iw hT;have hw:=lh hT;unfold f0 at hs;rw [b2p,b3k] at hs;obtain ⟨hl,hr⟩:=hs
 have hj:∀ j,j ∈ bc x.rhs -> j < (l.getD a default).length /\ j < (l.getD b default).length:=fun j hj=>by
  have:=a5u h0 h1 hu hj;exact ⟨by rw [h3 a ha];exact this,by rw [h3 b hb];exact this⟩
 have hV:∀ z,(∃ r,r ∈ fdL l a b x /\ z ∈ r) -> ∃ r,r ∈ l /\ z ∈ r:=fun z ⟨r,hr,hz⟩=>ae0.1 (aap ha hb hj (a31.1 ⟨r,ef.1 hr,hz⟩));have hlen:(fdL l a b x).length <= l.length:=b3m (a84 _) (b5e (ld _ _));refine ⟨if_pos hl,yt h0 h1 (b3m hlen h2) (fun r hr=>⟨?_,fun z hz=>?_⟩),hV,fun Z hZ=>?_⟩
 · unfold d9 at hr
   rw [b37] at hr;obtain ⟨i,hi,rfl⟩:=hr;rw [b3v,List.length_range];exact h3 i (b36.1 hi)
 · obtain ⟨r2,h5,h6⟩:=hV z ⟨r,ef.2 hr,hz⟩
   exact (hw r2 h5).2 z h6
 have hne:∃ j,j ∈ bc x.rhs /\ ¬ du l a j = du l b j:=by
  apply Classical.byContradiction;intro hno;rw [yo] at hr
  · cases hr
  intro i hi hh;apply Classical.byContradiction;intro e
  have hi2:i < 32:=by
   have:=h3 a ha;omega
  rw [ew hi2] at hh;exact hno ⟨i,zr.2 ⟨hi2,hh⟩,e⟩
 obtain ⟨z,hz1,hz2⟩:=a7y ha hb hj hne;have hz3:=ae0.1 hz1;have:=apq (Z:=Z) hV ⟨z,by obtain ⟨r,h7,h8⟩:=hz3;exact hZ r h7 z h8,hz3,fun ⟨r,h7,h8⟩=>hz2 (a31.1 ⟨r,ef.1 h7,h8⟩)⟩;unfold muC;omega
abbrev mvL (l:List Rw) (a b:Nat) (x:Fd):List Rw:=au (l ++ [dw (l.getD a default) (l.getD b default) (x.lhs ||| x.rhs)])
def axz (hT:tok n l = true) (ha:a < l.length) (hb:b < l.length) (hs:ez l x a b = true) :
 mvE n l a b x = (0,[],3) \/ (mvE n l a b x = (n,mvL l a b x,0) /\ tok n (mvL l a b x) = true /\ (∀ z,(∃ r,r ∈ mvL l a b x /\ z ∈ r) -> ∃ r,r ∈ l /\ z ∈ r) /\ ∀ Z,Cov Z l -> muC Z (mvL l a b x) < muC Z l):=by
 obtain ⟨h0,h1,h2,h3⟩:=iw hT;have hw:=lh hT;unfold ez at hs;rw [b2p,b3k] at hs;obtain ⟨hl,hr⟩:=hs;have hno:=arj hr;have hE:mvE n l a b x = o5 n l (dw (l.getD a default) (l.getD b default) (x.lhs ||| x.rhs)):=if_pos hl;by_cases hbig:256 < (mvL l a b x).length
 · left
   rw [hE];exact if_pos hbig
 right
 have hmem:∀ z,z ∈ dw (l.getD a default) (l.getD b default) (x.lhs ||| x.rhs) -> z ∈ l.getD a default \/ z ∈ l.getD b default:=fun z hz=>by
  unfold dw at hz;rw [b37] at hz;obtain ⟨i,hi,rfl⟩:=hz;have hi:=b36.1 hi;have hi2:i < (l.getD a default).length:=by rw [h3 a ha,<- h3 b hb];exact hi
  split
  · left
    rw [b2i (l:=l.getD a default),b2h hi2];exact b2q hi2
  right;rw [b2i (l:=l.getD b default),b2h hi];exact b2q hi
 have hV:∀ z,(∃ r,r ∈ mvL l a b x /\ z ∈ r) -> ∃ r,r ∈ l /\ z ∈ r:=fun z ⟨r,hr,hz⟩=>by
  rcases b2z.1 (ef.1 hr) with h | h
  · exact ⟨r,h,hz⟩
  rw [b2u] at h;subst h
  rcases hmem z hz with h | h
  · exact ⟨_,wc ha,h⟩
  exact ⟨_,wc hb,h⟩
 refine ⟨by rw [hE];exact if_neg hbig,yt h0 h1 (Nat.le_of_not_lt fun e=>hbig e) (fun r hr=>⟨?_,fun z hz=>?_⟩),hV,fun Z hZ=>?_⟩
 · rcases b2z.1 hr with h | h
   · exact (hw r h).1
   rw [b2u] at h;subst h;rw [jv];exact h3 b hb
 · obtain ⟨r2,h5,h6⟩:=hV z ⟨r,ef.2 hr,hz⟩
   exact (hw r2 h5).2 z h6
 have e:(mvL l a b x).length = l.length + 1:=by
  show (au _).length = _;rw [akd (ap3 hT),a93 hno]
 have:=apc (Z:=Z) hV;unfold muC;omega
end
def akk {α:Type} {f:Nat -> Option α}:∀ {n:Nat} {x:α},(List.range n).findSome? f = some x -> ∃ k,k < n /\ f k = some x:=fun {n x} h=>by
 obtain ⟨k,hk,e⟩:=b59 h;exact ⟨k,b36.1 hk,e⟩
def a57 {P:Nat -> Nat -> Nat -> Bool} {I L i a b:Nat} (h:jd P I L = some (i,a,b)):i < I /\ a < L /\ b < L /\ P i a b = true:=by
 obtain ⟨i',hi,h⟩:=akk h;obtain ⟨a',ha,h⟩:=akk h;rw [Option.map_eq_some_iff] at h;obtain ⟨b',hb,e⟩:=h;simp only [b2l] at e;obtain ⟨rfl,rfl,rfl⟩:=e;exact ⟨hi,ha,b36.1 (List.mem_of_find?_eq_some hb),by simpa using List.find?_some hb⟩
def vg (l:List Rw) (p m:List Fd) (s:St):Prop:=s.2.2.1 < l.length /\ s.2.2.2 < l.length /\ ((s.1 = false /\ s.2.1 < p.length /\ f0 l (p.getD s.2.1 default) s.2.2.1 s.2.2.2 = true) \/ (s.1 = true /\ s.2.1 < m.length /\ ez l (m.getD s.2.1 default) s.2.2.1 s.2.2.2 = true))
section
variable {l:List Rw} {m p:List Fd}
def a78 {s:St} (h:dj l p m = some s):vg l p m s:=by
 unfold dj at h;split at h
 · rename_i x e
   simp only [b2g] at h;subst h;obtain ⟨i,a,b⟩:=x;obtain ⟨h1,h2,h3,h4⟩:=a57 e;exact ⟨h2,h3, .inl ⟨rfl,h1,h4⟩⟩
 rw [Option.map_eq_some_iff] at h;obtain ⟨⟨i,a,b⟩,e,rfl⟩:=h;obtain ⟨h1,h2,h3,h4⟩:=a57 e;exact ⟨h2,h3, .inr ⟨rfl,h1,h4⟩⟩
def c8 (n:Int) (l:List Rw) (p m:List Fd) (s:St):Int × List Rw × Int:=if s.1 = true then mvE n l s.2.2.1 s.2.2.2 (m.getD s.2.1 default) else fdE n l s.2.2.1 s.2.2.2 (p.getD s.2.1 default)
def acy {n:Int} {s:St} (hT:tok n l = true) (hp:p.all (inU n) = true) (h:vg l p m s):
 c8 n l p m s = (0,[],3) \/ ∃ l',c8 n l p m s = (n,l',0) /\ tok n l' = true /\ (∀ Z,Cov Z l -> Cov Z l' /\ muC Z l' < muC Z l):=by
 obtain ⟨ha,hb,h | h⟩:=h
 · obtain ⟨h1,h2,h3⟩:=h
   have hu:inU n (p.getD s.2.1 default) = true:=b3c.1 hp _ (by rw [b2i,b2h h2];exact b2q h2);obtain ⟨e,h4,h5,h6⟩:=ahb hT hu ha hb h3;exact .inr ⟨_,by unfold c8;rw [if_neg (by rw [h1];decide)];exact e,h4,fun Z hZ=>⟨fun r hr z hz=>by obtain ⟨r2,h7,h8⟩:=h5 z ⟨r,hr,hz⟩;exact hZ r2 h7 z h8,h6 Z hZ⟩⟩
 obtain ⟨h1,h2,h3⟩:=h
 rcases axz hT ha hb h3 with e | ⟨e,h4,h5,h6⟩
 · exact .inl (by unfold c8;rw [if_pos h1];exact e)
 exact .inr ⟨_,by unfold c8;rw [if_pos h1];exact e,h4,fun Z hZ=>⟨fun r hr z hz=>by obtain ⟨r2,h7,h8⟩:=h5 z ⟨r,hr,hz⟩;exact hZ r2 h7 z h8,h6 Z hZ⟩⟩
def f5:Nat -> Int -> List Rw -> List Fd -> List Fd -> List St -> List St × (Int × List Rw) × Int
 | 0,_,_,_,_,_=>([],(0,[]),0)
 | f + 1,n,l,p,m,acc =>
  match dj l p m with
  | none=>(acc,(n,l),0)
  | some s=>match c8 n l p m s with
   | (n',l',e)=>if e = 0 then f5 f n' l' p m (acc ++ [s]) else ([],(0,[]),e)
variable {acc:List St}
def a3q {f:Nat} {n:Int} (hf:0 < f) (h:dj l p m = none):f5 f n l p m acc = (acc,(n,l),0):=by
 obtain ⟨g,rfl⟩:∃ g,f = g + 1:=⟨f - 1,by omega⟩;unfold f5;rw [h]
def a59 {f:Nat} {n:Int} {s:St} (hf:0 < f) (h:dj l p m = some s) {n' e:Int} {l':List Rw} (h2:c8 n l p m s = (n',l',e)) (he:¬ e = 0):f5 f n l p m acc = ([],(0,[]),e):=by
 obtain ⟨g,rfl⟩:∃ g,f = g + 1:=⟨f - 1,by omega⟩;unfold f5;rw [h];simp only;rw [h2];simp only;rw [if_neg he]
def vr {f:Nat} {n:Int} {s:St} (hf:0 < f) (h:dj l p m = some s) {n':Int} {l':List Rw} (h2:c8 n l p m s = (n',l',0)):f5 f n l p m acc = f5 (f - 1) n' l' p m (acc ++ [s]):=by
 obtain ⟨g,rfl⟩:∃ g,f = g + 1:=⟨f - 1,by omega⟩;rw [Nat.add_sub_cancel]
 conv=>lhs;unfold f5
 rw [h];simp only;rw [h2];simp only;rw [if_pos trivial]
end
end
section
open Go.Proofs
def av0 (n:Int) (l:List Rw) (p m:List Fd) (s:St) (hT:tok n l = true) (hp:p.all (inU n) = true) (h:vg l p m s) :
 aa b65 91 [pT n l,pP (fdl p),pP (fdl m),s.pc] (af [pT (c8 n l p m s).1 (c8 n l p m s).2.1,pI (c8 n l p m s).2.2]):=by
 obtain ⟨mu,i,a,b⟩:=s;obtain ⟨ha,hb,h | h⟩:=h
 · obtain ⟨h1,h2,h3⟩:=h
   cases h1;exact af8 n l p m i a b hT ha hb h2 (b3c.1 hp _ (by rw [b2i,b2h h2];exact b2q h2))
 obtain ⟨h1,h2,h3⟩:=h;cases h1;exact af5 n l p m i a b hT ha hb h2
abbrev St.c (s:St):Nat -> PV:=fun j=>[.raw (.bool s.1), .raw (.int .i64 (s.2.1:Int)), .raw (.int .i64 (s.2.2.1:Int)), .raw (.int .i64 (s.2.2.2:Int))].getD j .any
abbrev stl (l:List St):PV:=psl 4 St.c l
abbrev ckE (n:Int) (l:List Rw) (p m:List Fd):Int:=if tok n l = true then cj n p m else 1
section
variable {l:List Rw} {m p:List Fd} {n:Int}
def aa6 (h:ckE n l p m = 0):tok n l = true /\ cj n p m = 0 /\ p.all (inU n) = true:=by
 unfold ckE at h;by_cases e:tok n l = true
 · rw [if_pos e] at h
   exact ⟨e,h,(a5m h).2.2.2.1⟩
 rw [if_neg e] at h;omega
def ik (F:Nat) (n:Int) (l:List Rw) (p m:List Fd):List St × (Int × List Rw) × Int:=if ckE n l p m = 0 then f5 F n l p m [] else ([],(0,[]),ckE n l p m)
variable {F:Nat}
def an0 (h:¬ ckE n l p m = 0):ik F n l p m = ([],(0,[]),ckE n l p m):=if_neg h
def x7 (h:ckE n l p m = 0):ik F n l p m = f5 F n l p m []:=if_pos h
def ary {α:Type} {o:Option α} (h:o.isSome = false):o = none:=by cases o <;> simp_all
def aro {α:Type} {o:Option α} (d:α) (h:o.isSome = true):o = some (o.getD d):=by cases o <;> simp_all
def aar (l:List Rw):Cov l.flatten l:=fun r hr z hz=>List.mem_flatten.2 ⟨r,hr,hz⟩
structure StI (F:Nat) (n:Int) (l:List Rw) (p m:List Fd) (x:Nat × List Rw × List St):Prop where
 t:tok n x.2.1 = true
 c:Cov l.flatten x.2.1
 u:muC l.flatten x.2.1 < x.1
 b:x.2.2.length + x.1 <= F
 e:f5 x.1 n x.2.1 p m x.2.2 = f5 F n l p m []
theorem StI.start (hT:tok n l = true) (hF:muC l.flatten l < F):StI F n l p m (F,l,[]):=⟨hT,aar l,hF,by simp,rfl⟩
variable {x:Nat × List Rw × List St}
theorem StI.next {s:St} (h:StI F n l p m x) (hp:p.all (inU n) = true) (hS:dj x.2.1 p m = some s) (he:(c8 n x.2.1 p m s).2.2 = 0):
 (c8 n x.2.1 p m s).1 = n /\ StI F n l p m (x.1 - 1,(c8 n x.2.1 p m s).2.1,x.2.2 ++ [s]):=by
 have hu:=h.u;have hb:=h.b
 rcases acy h.t hp (a78 hS) with e | ⟨l',e,h1,h2⟩
 · rw [e] at he;exact absurd he b5n
 have hq:=h2 _ h.c;refine ⟨by rw [e], ?_⟩;rw [e];exact ⟨h1,hq.1,by show muC _ l' < _;omega,by simp only [b2v,b3q];omega,by rw [<- h.e,vr b5h hS e]⟩
theorem StI.fin (h:StI F n l p m x) (hS:dj x.2.1 p m = none):f5 F n l p m [] = (x.2.2,(n,x.2.1),0):=by
 have hu:=h.u;rw [<- h.e,a3q b5h hS]
theorem StI.err {s:St} (h:StI F n l p m x) (hS:dj x.2.1 p m = some s) (he:¬ (c8 n x.2.1 p m s).2.2 = 0):f5 F n l p m [] = ([],(0,[]),(c8 n x.2.1 p m s).2.2):=by
 have hu:=h.u;rw [<- h.e];exact a59 b5h hS rfl he
end
end
section
open Go.Proofs
def avz (F:Nat) (n:Int) (l:List Rw) (p m:List Fd) (hF:tok n l = true -> muC l.flatten l < F) (hFb:F <= 4000000000):aa b65 86 [pT n l,pP (fdl p),pP (fdl m)] (af [pP (stl (ik F n l p m).1),pT (ik F n l p m).2.1.1 (ik F n l p m).2.1.2,pI (ik F n l p m).2.2]):=by
 refine hpx (nt:=53) Tryz.func86 ?_;refine sx7 ?_;refine m9 0 ?_;refine qy ?_;refine m9 1 ?_;refine w_8 ?_;refine qcx a9h (a2u n l p m) ?_;refine w_7 ?_;refine hcn (fun h0=>?_) (fun h0=>?_)
 · refine w_8 ?_;refine hrr ?_;have he:=an0 (F:=F) (n:=n) (l:=l) (p:=p) (m:=m) b5i;exact f9 rfl rfl (by rw [he];exact ⟨CoC.one (CoP.sl rfl (.inr rfl) (fun _=>rfl) (fun i j hi _=>absurd hi (b2o i))),CoC.agg ⟨CoP.refl _,c9,trivial⟩,CoC.refl _,trivial⟩)
 have hck:ckE n l p m = 0:=by assumption
 obtain ⟨hT,hbe,hpa⟩:=aa6 hck;obtain ⟨hn0,hn16,hl256,hrow⟩:=iw hT;have hbig:∀ i,i < l.length -> (l.getD i default).length <= 17592186044416:=fun i hi=>by rw [hrow i hi];omega
 refine w_4 ?_;refine qcx a6k (amm n l hbig b5h) ?_;refine w_6 ?_;refine gn 10 900 true 4 85 (lf St.c []) b5n rfl (CoP.sl rfl (.inr rfl) (fun h=>h) (fun i j hi _=>absurd hi (b2o i))) (.inr rfl) rfl ?_;refine a9a ?_;refine ai (ι:=Nat × List Rw × List St) (ka 1 (ka 2 (ka 3 (ka 7 kn)))) (kb 1 km) (fun x=>⟨[(10,some (.v (.one (.ref 900 x.2.2.length))))],[(0,some (.box [.p (.raw (.int .i64 n)), .p (rl x.2.1)])),(900,some (.arr true 4 85 x.2.2.length (lf St.c x.2.2)))]⟩) (fun x=>StI F n l p m x) (fun x=>x.1) ((F,l,[])) (StI.start hT (hF hT)) kk ?_;rintro x hX;have hXu:=hX.u;have hXb:=hX.b;refine w_6 ?_;refine qcx (wgx Tryz.func126) (auk n x.2.1 p m hX.t) ?_;refine w_3 ?_;refine m9 2 ?_;refine w_9 ?_;refine hcv (fun h1=>?_) (fun h1=>?_)
 · have hS:=ary (by simpa using h1);refine w_9 ?_;refine cz 6 rfl rfl rfl ?_;refine hrr ?_;have he:=(x7 hck).trans (hX.fin hS);exact f9 rfl rfl (by rw [he];exact CoL.refl _)
 have hS:=aro (false,0,0,0) (by simpa using h1);refine w_7 ?_;refine qcx acf (av0 n x.2.1 p m ((dj x.2.1 p m).getD (false,0,0,0)) hX.t hpa (a78 hS)) ?_;refine w_3 ?_;refine m9 3 ?_;refine w_9 ?_;refine hcn (fun h2=>?_) (fun h2=>?_)
 · refine w_8 ?_;refine hrr ?_;have he:=(x7 hck).trans (hX.err hS b5i);exact f9 rfl rfl (by rw [he];exact ⟨CoC.one (CoP.sl rfl (.inr rfl) (fun _=>rfl) (fun i j hi _=>absurd hi (b2o i))),CoC.agg ⟨CoP.refl _,c9,trivial⟩,CoC.refl _,trivial⟩)
 have hnx:=hX.next hpa hS b5i
 refine w_4 ?_;refine m9 4 ?_;refine r9 5 true ?_;refine w_5 ?_;refine ⟨(x.1 - 1,(c8 n x.2.1 p m ((dj x.2.1 p m).getD (false,0,0,0))).2.1,x.2.2 ++ [((dj x.2.1 p m).getD (false,0,0,0))]), ?_, ?_, ?_⟩
 · exact hnx.2
 · show x.1 - 1 < x.1
   omega
 exact ⟨⟨⟨_,rfl,(gj rfl)⟩,tt⟩,⟨⟨_,rfl,⟨CoP.of_eq (by rw [hnx.1]),CoH.refl _,trivial⟩⟩,⟨_,rfl,(n4 rfl (fun j hj=>by match j,hj with | 0,_=>exact CoP.refl _ | 1,_=>exact CoP.refl _ | 2,_=>exact CoP.refl _ | 3,_=>exact CoP.refl _) rfl)⟩,uu⟩⟩
end
section
def ab4:∀ {l:List Rw},(∀ r,r ∈ l -> r.length <= 16) -> l.flatten.length <= 16 * l.length
 | [],_=>by simp
 | r :: l,h=>by
  have h1:=h r b5k;have h2:=ab4 (l:=l) fun r hr=>h r (by simp [hr]);simp only [List.flatten_cons,b2v,b3r];omega
abbrev FU:Nat:=1300000
def akj {n:Int} {l:List Rw} (h:tok n l = true):muC l.flatten l < FU:=by
 obtain ⟨h0,h1,h2,h3⟩:=iw h;have h4:=ab4 (l:=l) fun r hr=>by have:=(lh h r hr).1;omega
 have h5:a7a l.flatten l <= l.flatten.length:=List.countP_le_length;unfold muC;show _ < 1300000;omega
def awa {n:Int} {i:Nat} {p:AS} {k a N:Nat} (h:bt p (k:Int) = true) (hN:N = n.toNat) (ha:a = k) :
 CoO (.arr true 1 3 N (da (lf zC (stT n i p k)) a 0 [.raw (.int .i64 (k:Int))])) (.arr true 1 3 N (lf zC (stT n i p (k + 1)))):=by
 subst ha;refine ⟨fun h=>h,rfl,rfl,rfl,fun c j hc hj=>CoP.of_eq ?_⟩;obtain rfl:j = 0:=by omega
 show _ = PV.raw (.int .i64 ((stT n i p (a + 1)).getD c default));rw [a37 c b5h];unfold da;by_cases e:c = a
 · rw [if_pos ⟨e,by omega,by simp⟩,if_pos e]
   unfold stV;rw [if_pos h];rfl
 rw [if_neg (fun x=>e x.1),if_neg e];rfl
def ais {k:Nat} (h:k < 32):bt (iu 32) (k:Int) = true:=by
 rw [ew h,jh 32 k h];exact decide_eq_true h
def akv {n:Int} {k:Nat} (h1:n <= 16) (hk:n.toNat <= k):stT n 0 (iu 32) k = cu n:=by
 rw [afc _ _ _ hk];unfold stR cu;refine b4g fun c hc=>?_;have:=b36.1 hc;unfold stV;rw [if_pos (ais b5h)]
def akr {n:Int} {k:Nat} (h1:n <= 16) (hk:n.toNat <= k):CoC (.one (.sl n.toNat 1 false (lf zC (stT n 0 (iu 32) k)))) (pZ (cu n)):=by
 rw [akv h1 hk];exact aoa (ah6 n)
abbrev uq (n:Int) (x:Fd):List AS:=[x.lhs ||| x.rhs,x.lhs ||| (b5 n &&& ~~~x.rhs)]
def b0y (n:Int) (p m:List Fd) (x:Fd):Bool × Int :=
 if cj n p m = 0 then
  if inU n x = true then
   if (fc n (uq n x)).2.2 = 0 then
    if (ik FU (fc n (uq n x)).1 (fc n (uq n x)).2.1 p m).2.2 = 0 then ((ik FU (fc n (uq n x)).1 (fc n (uq n x)).2.1 p m).2.1.2.any (fun r=>decide (r = cu n)),0)
    else (false,(ik FU (fc n (uq n x)).1 (fc n (uq n x)).2.1 p m).2.2)
   else (false,(fc n (uq n x)).2.2)
  else (false,1)
 else (false,cj n p m)
end
section
open Go.Proofs
def muK (p:List Fd) (k:Nat):Bool:=decide (p.length <= k)
def ixK (p:List Fd) (k:Nat):Nat:=if p.length <= k then k - p.length else k
def chE (l:List Rw) (p m:List Fd) (s:St):Bool:=if s.1 = true then axf l (m.getD s.2.1 default) s.2.2.1 s.2.2.2 else f0 l (p.getD s.2.1 default) s.2.2.1 s.2.2.2
def awo (l:List Rw) (p m:List Fd) (k a b:Nat):Bool:=decide (a ≠ b) && chE l p m (muK p k,ixK p k,a,b)
def b0g (l:List Rw) (p m:List Fd):Option St:=(jd (awo l p m) (p.length + m.length) l.length).map fun x=>(muK p x.1,ixK p x.1,x.2.1,x.2.2)
section
variable {l:List Rw} {p m:List Fd} {k a b:Nat}
end
end
section
def amr (a:Rw) (s:AS):dw a a s = a:=by
 refine gh (jv a a s) fun j hj=>?_;rw [jv] at hj;unfold dw;rw [b2i,b32,b3j hj];show (if bt s (j:Int) = true then a.getD j default else a.getD j default) = _;split <;> rfl
def ag8 {l:List Rw} {x:Fd} {a:Nat}:f0 l x a a = false:=a2c (yo fun _ _ _=>rfl)
def ahd {l:List Rw} {x:Fd} {a:Nat} (ha:a < l.length):ez l x a a = false:=by
 refine a2w ?_;rw [amr,b3g];exact ⟨_,wc ha,decide_eq_true rfl⟩
end
section
def go (l:List Rw) (p m:List Fd) (mu:Bool) (i a b:Int):Prop:=a < 0 \/ (l.length:Int) <= a \/ b < 0 \/ (l.length:Int) <= b \/ a = b \/ i < 0 \/ (mu = true /\ (m.length:Int) <= i) \/ (mu = false /\ (p.length:Int) <= i)
instance (l:List Rw) (p m:List Fd) (mu:Bool) (i a b:Int):Decidable (go l p m mu i a b):=by unfold go;infer_instance
def bdS {l:List Rw} {p m:List Fd} {mu:Bool} {i a b:Int} (h:go l p m mu i a b:=by unfold go;first | exact .inl b5h | exact .inr (.inl b5h) | exact .inr (.inr (.inl b5h)) | exact .inr (.inr (.inr (.inl b5h))) | exact .inr (.inr (.inr (.inr (.inl b5h)))) | exact .inr (.inr (.inr (.inr (.inr (.inl b5h))))) | exact .inr (.inr (.inr (.inr (.inr (.inr (.inl ⟨by first | rfl | assumption | simp_all,by omega⟩)))))) | exact .inr (.inr (.inr (.inr (.inr (.inr (.inr ⟨by first | rfl | assumption | simp_all,by omega⟩))))))):go l p m mu i a b:=h
def gt (n:Int) (l:List Rw) (p m:List Fd) (mu:Bool) (i a b:Int):Int × List Rw × Int :=
 if ckE n l p m = 0 then if go l p m mu i a b then (0,[],1) else c8 n l p m (mu,i.toNat,a.toNat,b.toNat) else (0,[],ckE n l p m)
section
variable {n:Int} {l:List Rw} {p m:List Fd} {mu:Bool} {i a b:Int}
end
end
section
def AgE (E:Int -> Int -> Prop) (a b:Rw) (s:AS):Prop:=∀ i:Nat,i < a.length -> bt s (i:Int) = true -> E (a.getD i default) (b.getD i default)
structure Mdl (N:Nat) (p m:List Fd) (E:Int -> Int -> Prop) (R:Rw -> Prop):Prop where
 refl:∀ x,E x x
 symm:∀ {x y},E x y -> E y x
 trans:∀ {x y z},E x y -> E y z -> E x z
 len:∀ {r},R r -> r.length = N
 cong:∀ {r r':Rw},R r -> r'.length = r.length -> (∀ i,i < r.length -> E (r.getD i default) (r'.getD i default)) -> R r'
 fd:∀ {x},x ∈ p -> ∀ {a b},R a -> R b -> AgE E a b x.lhs -> AgE E a b x.rhs
 mv:∀ {x},x ∈ m -> ∀ {a b},R a -> R b -> AgE E a b x.lhs -> R (dw a b (x.lhs ||| x.rhs))
def LE (N:Nat) (p m:List Fd) (l:List Rw) (x y:Int):Prop:=∀ E R,Mdl N p m E R -> (∀ r,r ∈ l -> R r) -> E x y
def LR (N:Nat) (p m:List Fd) (l:List Rw) (r:Rw):Prop:=∀ E R,Mdl N p m E R -> (∀ r,r ∈ l -> R r) -> R r
def ash (N:Nat) (p m:List Fd):Mdl N p m (fun _ _=>True) (fun r=>r.length = N) :=
 ⟨fun _=>trivial,fun _=>trivial,fun _ _=>trivial,fun h=>h,fun h e _=>e.trans h,fun _ _ _ _ _ _ _ _ _=>trivial,fun _ a b _ hb _=>(jv _ _ _).trans hb⟩
def a10 {N:Nat} {p m:List Fd} {l:List Rw} (hl:∀ r,r ∈ l -> r.length = N):Mdl N p m (LE N p m l) (LR N p m l) where
 refl x:=fun E R h _=>h.refl x
 symm h:=fun E R k kl=>k.symm (h E R k kl)
 trans h h2:=fun E R k kl=>k.trans (h E R k kl) (h2 E R k kl)
 len h:=h _ _ (ash N p m) hl
 cong h e h2:=fun E R k kl=>k.cong (h E R k kl) e fun i hi=>h2 i hi E R k kl
 fd hx _ _ ha hb hl:=fun i hi hs E R k kl=>k.fd hx (ha E R k kl) (hb E R k kl) (fun j hj hh=>hl j hj hh E R k kl) i hi hs
 mv hx _ _ ha hb hl:=fun E R k kl=>k.mv hx (ha E R k kl) (hb E R k kl) fun j hj hh=>hl j hj hh E R k kl
structure Ch (N:Nat) (p m:List Fd) (l0 l:List Rw) (σ:Int -> Int):Prop where
 rows:∀ r,r ∈ l -> LR N p m l0 r
 sym:∀ s,LE N p m l0 s (σ s)
 img:∀ r,r ∈ l0 -> r.map σ ∈ l
 fix:∀ r,r ∈ l -> ∀ z,z ∈ r -> σ z = z
 le:∀ s,σ s <= s
section
variable {N:Nat} {p m:List Fd} {l0 l l':List Rw} {σ σ':Int -> Int} {n:Int}
theorem Ch.start:Ch N p m l0 l0 id:=⟨fun r hr E R _ hl=>hl r hr,fun s E R k _=>k.refl s,fun r hr=>by rw [List.map_id];exact hr,fun _ _ _ _=>rfl,fun s=>Int.le_refl s⟩
theorem Ch.congr (h:Ch N p m l0 l σ) (e:∀ r,r ∈ l' <-> r ∈ l):Ch N p m l0 l' σ :=
 ⟨fun r hr=>h.rows r ((e r).1 hr),h.sym,fun r hr=>(e _).2 (h.img r hr),fun r hr=>h.fix r ((e r).1 hr),h.le⟩
def lr (hi lo z:Int):Int:=if z = hi then lo else z
section
variable {f:Int -> Int}
def gr {r:Rw} {i:Nat} (h:i < r.length):(r.map f).getD i default = f (r.getD i default):=by
 rw [b2i,b32,b2h h,b2i,b2h h];rfl
theorem Ch.sub (hl0:∀ r,r ∈ l0 -> r.length = N) (h:Ch N p m l0 l σ) {hi lo:Int} (hE:LE N p m l0 hi lo) (hle:lo <= hi) (hin:∃ r,r ∈ l /\ lo ∈ r):Ch N p m l0 (l.map fun r=>r.map (lr hi lo)) (fun s=>lr hi lo (σ s)):=by
 have hm:=a10 (p:=p) (m:=m) hl0
 have hs:∀ z,LE N p m l0 z (lr hi lo z):=fun z=>by
  unfold lr;split
  · rename_i e;rw [e];exact hE
  exact hm.refl z
 refine ⟨fun r hr=>?_,fun s=>hm.trans (h.sym s) (hs _),fun r hr=>?_,fun r hr z hz=>?_,fun s=>?_⟩
 · obtain ⟨r0,h0,rfl⟩:=b37.1 hr
   exact hm.cong (h.rows r0 h0) b5k fun i hi=>by rw [gr hi];exact hs _
 · refine b37.2 ⟨_,h.img r hr, ?_⟩
   rw [List.map_map];rfl
 · obtain ⟨r0,h0,rfl⟩:=b37.1 hr
   obtain ⟨y,hy,rfl⟩:=b37.1 hz;obtain ⟨r1,h1,h2⟩:=hin;have e1:=h.fix r0 h0 y hy;have e2:=h.fix r1 h1 lo h2;by_cases e:y = hi
   · have e3:lr hi lo y = lo:=if_pos e
     show lr hi lo (σ (lr hi lo y)) = lr hi lo y;rw [e3,e2];unfold lr;split <;> rfl
   have e3:lr hi lo y = y:=if_neg e;show lr hi lo (σ (lr hi lo y)) = lr hi lo y;rw [e3,e1,e3]
 have h1:=h.le s
 have h2:lr hi lo (σ s) <= σ s:=by
  unfold lr;split <;> omega
 exact Int.le_trans h2 h1
def agk {M:Nat -> Nat -> Int} {a b j:Nat}:d9 l (eqM M a b j) = (d9 l M).map fun r=>r.map (lr (hiI (M a j) (M b j)) (loI (M a j) (M b j))):=by
 unfold d9;rw [List.map_map];refine b4g fun i _=>?_;show _ = List.map _ (List.map _ _);rw [List.map_map];rfl
def aix {M:Nat -> Nat -> Int} {a j:Nat} (ha:a < l.length) (hj:j < (l.getD a default).length):∃ r,r ∈ d9 l M /\ M a j ∈ r :=
 a31.2 ⟨a,j,ha,hj,rfl⟩
theorem Ch.eqMs (hl0:∀ r,r ∈ l0 -> r.length = N) {a b:Nat} (ha:a < l.length) (hb:b < l.length):∀ {js:List Nat} {M:Nat -> Nat -> Int} {σ:Int -> Int},Ch N p m l0 (d9 l M) σ -> (∀ j,j ∈ js -> j < (l.getD a default).length /\ j < (l.getD b default).length /\ LE N p m l0 (M a j) (M b j)) ->
 ∃ σ',Ch N p m l0 (d9 l (eqMs M a b js)) σ'
 | [],M,σ,h,_=>⟨σ,h⟩
 | j :: js,M,σ,h,hj=>by
  obtain ⟨h1,h2,h3⟩:=hj j b5k;have hm:=a10 (p:=p) (m:=m) hl0;have hlo:loI (M a j) (M b j) <= hiI (M a j) (M b j):=by unfold loI hiI;split <;> split <;> omega
  have hE:LE N p m l0 (hiI (M a j) (M b j)) (loI (M a j) (M b j)):=by
   rcases aoy (M a j) (M b j) with e | e <;> rcases ah2 (M a j) (M b j) with f | f <;> rw [e,f]
   · exact hm.refl _
   · exact h3
   · exact hm.symm h3
   exact hm.refl _
  have hin:∃ r,r ∈ d9 l M /\ loI (M a j) (M b j) ∈ r:=by
   rcases ah2 (M a j) (M b j) with f | f <;> rw [f]
   · exact aix ha h1
   exact aix hb h2
  have hq:=h.sub hl0 hE hlo hin;rw [<- agk] at hq
  have hs:∀ z,LE N p m l0 z (if z = hiI (M a j) (M b j) then loI (M a j) (M b j) else z):=fun z=>by
   split
   · rename_i e;rw [e];exact hE
   exact hm.refl z
  exact Ch.eqMs hl0 ha hb (js:=js) hq fun k hk=>by
   obtain ⟨h4,h5,h6⟩:=hj k (by simp [hk]);exact ⟨h4,h5,hm.trans (hm.symm (hs (M a k))) (hm.trans h6 (hs (M b k)))⟩
def adg:d9 l (du l) = l:=by
 refine gh (ld _ _) fun i hi=>?_;rw [ld] at hi;rw [a7j hi];refine gh b5k fun k hk=>?_;simp only [b3v,List.length_range] at hk;rw [b2i,b32,b3j hk];rfl
def agv (hl0:∀ r,r ∈ l0 -> r.length = N) {a b:Rw} {s:AS} (h:jo a b s = true):AgE (LE N p m l0) a b s:=fun i hi hs=>by
 rw [of_decide_eq_true h i hi hs];exact (a10 hl0).refl _
def d6 {α:Type} [Inhabited α] {l:List α} {i:Nat} (h:i < l.length):l.getD i default ∈ l:=by
 rw [b2i,b2h h];exact b2q h
def anv {a b:Rw} {s:AS} (hl:a.length = b.length) {z:Int} (hz:z ∈ dw a b s):z ∈ a \/ z ∈ b:=by
 unfold dw at hz;rw [b37] at hz;obtain ⟨i,hi,rfl⟩:=hz;have hi:=b36.1 hi;split
 · exact .inl (d6 b5h)
 exact .inr (d6 hi)
def amx (l:List Rw) (p m:List Fd) (s:St):Prop:=s.2.2.1 < l.length /\ s.2.2.2 < l.length /\ (s.1 = false -> s.2.1 < p.length) /\ (s.1 = true -> s.2.1 < m.length)
theorem Ch.app (hl0:∀ r,r ∈ l0 -> r.length = n.toNat) (hT:tok n l = true) (hp:p.all (inU n) = true) (h:Ch n.toNat p m l0 l σ) {s:St} (hs:amx l p m s) (he:(c8 n l p m s).2.2 = 0) :
 (c8 n l p m s).1 = n /\ ∃ σ',Ch n.toNat p m l0 (c8 n l p m s).2.1 σ':=by
 obtain ⟨mu,i,a,b⟩:=s;obtain ⟨ha,hb,hf,hv⟩:=hs;obtain ⟨h0,h1,h2,h3⟩:=iw hT;have ha:a < l.length:=ha;have hb:b < l.length:=hb;have hra:=h3 a ha;have hrb:=h3 b hb
 cases mu with
 | false =>
  have hi:i < p.length:=hf rfl;have e0:c8 n l p m (false,i,a,b) = fdE n l a b (p.getD i default):=rfl;rw [e0] at he ⊢;by_cases hg:jo (l.getD a default) (l.getD b default) (p.getD i default).lhs = true
  · have e1:fdE n l a b (p.getD i default) = (n,au (d9 l (Go.Hx.eqMs (du l) a b (bc (p.getD i default).rhs))),0):=if_pos hg
    rw [e1];refine ⟨rfl, ?_⟩;have hu:inU n (p.getD i default) = true:=b3c.1 hp _ (d6 hi);have hm:=a10 (p:=p) (m:=m) hl0;have hR:=hm.fd (d6 hi) (h.rows _ (d6 ha)) (h.rows _ (d6 hb)) (agv hl0 hg)
    obtain ⟨σ',hσ⟩:=Ch.eqMs (p:=p) (m:=m) hl0 ha hb (js:=bc (p.getD i default).rhs) (M:=du l) (σ:=σ) (by rw [adg];exact h) fun j hj=>by
     have h4:=a5u h0 h1 hu hj;have h5:=zr.1 hj;refine ⟨Nat.lt_of_lt_of_eq h4 hra.symm,Nat.lt_of_lt_of_eq h4 hrb.symm,hR j (Nat.lt_of_lt_of_eq h4 hra.symm) (by rw [ew h5.1];exact h5.2)⟩
    exact ⟨σ',hσ.congr fun r=>ef⟩
  have e1:fdE n l a b (p.getD i default) = (0,[],1):=if_neg hg;rw [e1] at he;exact absurd he b5n
 | true =>
  have hi:i < m.length:=hv rfl;have e0:c8 n l p m (true,i,a,b) = mvE n l a b (m.getD i default):=rfl;rw [e0] at he ⊢;by_cases hg:jo (l.getD a default) (l.getD b default) (m.getD i default).lhs = true
  · have e1:mvE n l a b (m.getD i default) = o5 n l (dw (l.getD a default) (l.getD b default) ((m.getD i default).lhs ||| (m.getD i default).rhs)):=if_pos hg
    rw [e1] at he ⊢;by_cases hbig:256 < (au (l ++ [dw (l.getD a default) (l.getD b default) ((m.getD i default).lhs ||| (m.getD i default).rhs)])).length
    · have e2:o5 n l (dw (l.getD a default) (l.getD b default) ((m.getD i default).lhs ||| (m.getD i default).rhs)) = (0,[],3):=if_pos hbig
      rw [e2] at he;exact absurd he b5n
    have e2:o5 n l (dw (l.getD a default) (l.getD b default) ((m.getD i default).lhs ||| (m.getD i default).rhs)) = (n,au (l ++ [dw (l.getD a default) (l.getD b default) ((m.getD i default).lhs ||| (m.getD i default).rhs)]),0):=if_neg hbig;rw [e2];refine ⟨rfl,σ, ?_⟩;have hm:=a10 (p:=p) (m:=m) hl0;have hR:=hm.mv (d6 hi) (h.rows _ (d6 ha)) (h.rows _ (d6 hb)) (agv hl0 hg);refine ⟨fun r hr=>?_,h.sym,fun r hr=>ef.2 (b2t _ (h.img r hr)),fun r hr z hz=>?_,h.le⟩
    · rcases b2z.1 (ef.1 hr) with h4 | h4
      · exact h.rows r h4
      rw [b2u.1 h4];exact hR
    rcases b2z.1 (ef.1 hr) with h4 | h4
    · exact h.fix r h4 z hz
    rw [b2u.1 h4] at hz
    rcases anv b5h hz with h5 | h5
    · exact h.fix _ (d6 ha) z h5
    exact h.fix _ (d6 hb) z h5
  have e1:mvE n l a b (m.getD i default) = (0,[],1):=if_neg hg;rw [e1] at he;exact absurd he b5n
def a3l {P:Nat -> Nat -> Nat -> Bool} {I L:Nat} (h:jd P I L = none) {i a b:Nat} (hi:i < I) (ha:a < L) (hb:b < L):P i a b = false:=by
 unfold jd at h;rw [b51] at h;have h1:=h i (b36.2 hi);rw [b51] at h1;have h2:=h1 a (b36.2 ha);rw [Option.map_eq_none_iff,List.find?_eq_none] at h2;exact b33.2 (h2 b (b36.2 hb))
def akq (h:dj l p m = none):(∀ i,i < p.length -> ∀ a,a < l.length -> ∀ b,b < l.length -> f0 l (p.getD i default) a b = false) /\ ∀ i,i < m.length -> ∀ a,a < l.length -> ∀ b,b < l.length -> ez l (m.getD i default) a b = false:=by
 unfold dj at h;split at h
 · cases h
 rename_i e;rw [Option.map_eq_none_iff] at h;exact ⟨fun i hi a ha b hb=>a3l (P:=fun i a b=>f0 l (p.getD i default) a b) e hi ha hb,fun i hi a ha b hb=>a3l (P:=fun i a b=>ez l (m.getD i default) a b) h hi ha hb⟩
def qo {α:Type} [Inhabited α] {l:List α} {x:α} (h:x ∈ l):∃ i,i < l.length /\ l.getD i default = x:=by
 obtain ⟨i,hi,rfl⟩:=b35 h;exact ⟨i,hi,by rw [b2i,b2h hi];rfl⟩
def ann {a b:Rw} {s:AS} (hl:a.length = b.length):dw (a.map f) (b.map f) s = (dw a b s).map f:=by
 unfold dw;rw [List.map_map,b3v];refine b4g fun i hi=>?_;have hi:=b36.1 hi;show _ = f (if bt s (i:Int) = true then a.getD i default else b.getD i default);split
 · rw [gr b5h]
 rw [gr hi]
theorem Ch.mdl (hT:tok n l = true) (hn:dj l p m = none) (σ:Int -> Int):Mdl n.toNat p m (fun x y=>σ x = σ y) (fun r=>r.length = n.toNat /\ r.map σ ∈ l):=by
 obtain ⟨hF,hM⟩:=akq hn;refine ⟨fun _=>rfl,fun h=>h.symm,fun h k=>h.trans k,fun h=>h.1,fun {r r'} h e h2=>⟨e.trans h.1, ?_⟩,fun {x} hx {a b} ha hb hl i hi hs=>?_,fun {x} hx {a b} ha hb hl=>⟨(jv _ _ _).trans hb.1, ?_⟩⟩
 · have:r'.map σ = r.map σ:=by
    refine gh (by simp [e]) fun i hi=>?_;rw [b3v] at hi;rw [gr hi,gr b5h];exact (h2 i b5h).symm
   rw [this];exact h.2
 · obtain ⟨k,hk,rfl⟩:=qo hx
   obtain ⟨ia,hia,ea⟩:=qo ha.2;obtain ⟨ib,hib,eb⟩:=qo hb.2;have h1:=hF k hk ia hia ib hib;unfold f0 at h1;rw [ea,eb,yo (fun j hj hs=>by rw [b3v] at hj;rw [gr hj,gr (by rw [hb.1,<- ha.1];exact hj)];exact hl j hj hs),b5a,Bool.not_eq_false'] at h1;have h2:=of_decide_eq_true h1 i (by rw [b3v];exact hi) hs;rw [gr hi,gr (by rw [hb.1,<- ha.1];exact hi)] at h2;exact h2
 obtain ⟨k,hk,rfl⟩:=qo hx;obtain ⟨ia,hia,ea⟩:=qo ha.2;obtain ⟨ib,hib,eb⟩:=qo hb.2;have h1:=hM k hk ia hia ib hib;unfold ez at h1;rw [ea,eb,yo (fun j hj hs=>by rw [b3v] at hj;rw [gr hj,gr (by rw [hb.1,<- ha.1];exact hj)];exact hl j hj hs),b5a,Bool.not_eq_false'] at h1;obtain ⟨r,hr,e⟩:=b3g.1 h1;rw [<- ann (by rw [ha.1,hb.1]),<- of_decide_eq_true e];exact hr
theorem Ch.has (h:Ch n.toNat p m l0 l σ) (hT:tok n l = true) (hl0:∀ r,r ∈ l0 -> r.length = n.toNat) (hn:dj l p m = none):(∀ x y,LE n.toNat p m l0 x y -> σ x = σ y) /\ ∀ r,LR n.toNat p m l0 r -> r.map σ ∈ l:=by
 have hm:=Ch.mdl (p:=p) (m:=m) hT hn σ;have hl:∀ r,r ∈ l0 -> r.length = n.toNat /\ r.map σ ∈ l:=fun r hr=>⟨hl0 r hr,h.img r hr⟩;exact ⟨fun x y e=>e _ _ hm hl,fun r e=>(e _ _ hm hl).2⟩
def a6e:∀ {r:Rw},(∀ z,z ∈ r -> f z = z) -> r.map f = r
 | [],_=>rfl
 | z :: r,h=>by rw [b48,h z b5k,a6e fun y hy=>h y (by simp [hy])]
theorem Ch.mem (h:Ch n.toNat p m l0 l σ) (hT:tok n l = true) (hl0:∀ r,r ∈ l0 -> r.length = n.toNat) (hn:dj l p m = none) {r:Rw}:r ∈ l <-> LR n.toNat p m l0 r /\ r.map σ = r:=by
 constructor
 · intro hr
   exact ⟨h.rows r hr,a6e (h.fix r hr)⟩
 rintro ⟨h1,h2⟩;rw [<- h2];exact (h.has hT hl0 hn).2 r h1
end
end
end
end Go.Hx

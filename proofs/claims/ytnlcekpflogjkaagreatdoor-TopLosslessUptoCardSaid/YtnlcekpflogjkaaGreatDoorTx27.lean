/- A part of the proof: Ch9 X13 Ch10 Ch11 Ch12 Ch13 X15 Ch14 Ch19 Ch20 Ch21 Cc1. -/
import Derived.Test.YtnlcekpflogjkaaGreatDoorTx26
set_option linter.all false
set_option maxRecDepth 100000
namespace Go.Hx
section
def stV (n:Int) (i:Nat) (p:AS) (c:Nat):Int:=if c8 p (c:Int) = true then (c:Int) else n + (i:Int) * n + (c:Int)
def stT (n:Int) (i:Nat) (p:AS) (k:Nat):Rw:=(List.range n.toNat).map fun c=>if c < k then stV n i p c else 0
def stR (n:Int) (i:Nat) (p:AS):Rw:=(List.range n.toNat).map fun c=>stV n i p c
def ax (n:Int) (ps:List AS):List Rw:=(List.range ps.length).map fun i=>stR n i (ps.getD i default)
def a8q (n:Int) (i:Nat) (p:AS):(stR n i p).length = n.toNat:=by unfold stR;simp
def yo (n:Int) (ps:List AS):(ax n ps).length = ps.length:=by unfold ax;simp
section
variable {i:Nat} {n:Int} {ps:List AS}
def b01 (h:i < ps.length):(ax n ps).getD i default = stR n i (ps.getD i default):=by
 unfold ax;rw [brc,brx,bsq h];rfl
variable {k:Nat}
def arv (n:Int) (i:Nat) (p:AS) (h:n.toNat <= k):stT n i p k = stR n i p:=by
 unfold stT stR;refine btx fun c hc=>?_;have:=brw.1 hc;rw [if_pos bv9]
variable {p:AS}
def amp {c:Nat} (h:c < n.toNat):(stT n i p k).getD c default = if c < k then stV n i p c else 0:=by
 unfold stT;rw [brc,brx,bsq h];rfl
def alt {N:Nat} {f:Nat -> Nat -> PV} (hN:N = n.toNat) (hf:∀ a,f a 0 = .raw (.int .i64 0)):CoO (.arr true 1 3 N f) (.arr true 1 3 N (lf zC (stT n i p 0))) :=
 ⟨fun h=>h,rfl,rfl,rfl,fun a j ha hj=>by
  obtain rfl:j = 0:=by omega
  refine CoP.of_eq ?_;rw [hf];show _ = PV.raw (.int .i64 ((stT n i p 0).getD a default))
  rw [amp bv9,if_neg bv9]⟩
def ac2:∀ c,c < n.toNat -> (stT n i p (k + 1)).getD c default = if c = k then stV n i p k else (stT n i p k).getD c default:=fun c hc=>by
 rw [amp hc,amp hc];by_cases h:c = k
 · rw [if_pos h,if_pos bv9,h]
 rw [if_neg h];by_cases h2:c < k
 · rw [if_pos h2,if_pos bv9]
 rw [if_neg h2,if_neg bv9]
def b04 {a b N:Nat} {x:Int} (h:c8 p (k:Int) = true) (hN:N = n.toNat) (ha:a = k) (hb:b = k):
 CoO (.arr true 1 3 N (gu (gu (lf zC (stT n i p k)) a 0 [.raw (.int .i64 x)]) b 0 [.raw (.int .i64 (k:Int))])) (.arr true 1 3 N (lf zC (stT n i p (k + 1)))):=by
 subst ha hb;refine ⟨fun h=>h,rfl,rfl,rfl,fun c j hc hj=>CoP.of_eq ?_⟩;obtain rfl:j = 0:=by omega
 show _ = PV.raw (.int .i64 ((stT n i p (b + 1)).getD c default));rw [ac2 c bv9];unfold gu;by_cases e:c = b
 · rw [if_pos ⟨e,by omega,by simp⟩,if_pos e]
   unfold stV;rw [if_pos h];rfl
 rw [if_neg (fun x=>e x.1),if_neg (fun x=>e x.1),if_neg e];rfl
def azx {a N:Nat} (h:¬ c8 p (k:Int) = true) (hN:N = n.toNat) (ha:a = k):
 CoO (.arr true 1 3 N (gu (lf zC (stT n i p k)) a 0 [.raw (.int .i64 (n + (i:Int) * n + (k:Int)))])) (.arr true 1 3 N (lf zC (stT n i p (k + 1)))):=by
 subst ha;refine ⟨fun h=>h,rfl,rfl,rfl,fun c j hc hj=>CoP.of_eq ?_⟩;obtain rfl:j = 0:=by omega
 show _ = PV.raw (.int .i64 ((stT n i p (a + 1)).getD c default));rw [ac2 c bv9];unfold gu;by_cases e:c = a
 · rw [if_pos ⟨e,by omega,by simp⟩,if_pos e]
   unfold stV;rw [if_neg h];rfl
 rw [if_neg (fun x=>e x.1),if_neg e];rfl
def b7c {s:AS}:(asI s).fdiv (2 ^ (min n.toNat 32)) = 0 <-> s >>> n.toNat = 0:=by
 rw [aav,show (0:Int) = asI 0 from rfl,dj]
def bnt (h0:0 <= n) (h1:n <= 16) (hi:i <= 64):0 <= (i:Int) * n /\ (i:Int) * n <= 1024:=by
 refine ⟨Int.mul_nonneg bv9 h0, ?_⟩;have h2:(i:Int) * n <= (i:Int) * 16:=Int.mul_le_mul_of_nonneg_left h1 bv9;omega
def j8 (n:Int) (ps:List AS):Int × List Rw × Int :=
 if n < 0 \/ 16 < n then (0,[],7) else if 64 < ps.length then (0,[],3) else if ps.all (fun p=>decide (p >>> n.toNat = 0)) = true then (n,bf (ax n ps),0) else (0,[],1)
def apz (h:n < 0 \/ 16 < n):j8 n ps = (0,[],7):=if_pos h
def b2p (h:¬ (n < 0 \/ 16 < n)) (h2:64 < ps.length):j8 n ps = (0,[],3):=by unfold j8;rw [if_neg h,if_pos h2]
def b6z (h:¬ (n < 0 \/ 16 < n)) (h2:¬ 64 < ps.length) (hi:i < ps.length) (h3:¬ (ps.getD i default) >>> n.toNat = 0):j8 n ps = (0,[],1):=by
 unfold j8;rw [if_neg h,if_neg h2,if_neg (fun e=>absurd (akh (l:=ps) (p:=fun p:AS=>decide (p >>> n.toNat = 0)) hi (decide_eq_false h3)) (by rw [e];decide))]
def amm (h:¬ (n < 0 \/ 16 < n)) (h2:¬ 64 < ps.length) (h3:∀ j,j < ps.length -> (ps.getD j default) >>> n.toNat = 0):j8 n ps = (n,bf (ax n ps),0):=by
 unfold j8;rw [if_neg h,if_neg h2,if_pos (akg (l:=ps) (p:=fun p:AS=>decide (p >>> n.toNat = 0)) fun j hj=>decide_eq_true (h3 j hj))]
def b4t (hi:i < ps.length) (hk:n.toNat <= k):CoP (.sl n.toNat 1 false (lf zC (stT n i (ps.getD i default) k))) (lf rC (ax n ps) i 0):=by
 show CoP _ (zl ((ax n ps).getD i default));rw [b01 hi,arv n i _ hk];exact CoP.sl (a8q _ _ _) (.inl rfl) (fun h=>h) fun a j ha hj=>CoP.refl _
end
end
section
open Go.Proofs
def bfu (n:Int) (ps:List AS):a6 bw0 98 [pI n,pP (asl ps)] (af [pT (j8 n ps).1 (j8 n ps).2.1,pI (j8 n ps).2.2]):=by
 refine hpx (nt:=73) Tryz.func98 ?_;refine sx7 ?_;refine m9 0 ?_;refine w_9 ?_;refine aw rfl rfl (fun r0=>?_) (fun r0=>?_)
 ·
  have h0:=tz1 r0;(iterate 2 refine k9 (gtf r0) ?_);refine dc ?_;refine hrr ?_
  have he:=apz (n:=n) (ps:=ps) bv9;exact f9 rfl rfl (by rw [he];exact ⟨CoC.agg ⟨CoP.refl _,du,trivial⟩,CoC.refl _,trivial⟩)
 have h0:=tz2 r0;(iterate 2 refine qy ?_ (hg:=(gff r0)));refine w_3 ?_;refine au _ rfl (fun r1=>?_) (fun r1=>?_)
 · have h1:=tz1 (be r0 r1);refine w_6 ?_;refine hrr ?_;have he:=apz (n:=n) (ps:=ps) bv9;exact f9 rfl rfl (by rw [he];exact ⟨CoC.agg ⟨CoP.refl _,du,trivial⟩,CoC.refl _,trivial⟩)
 have h1:=tz2 (be r0 r1);refine w_7 ?_;refine hcd (fun h2=>?_) (fun h2=>?_)
 · refine w_6 ?_;refine hrr ?_;have he:=b2p (n:=n) (ps:=ps) bv9 bv9;exact f9 rfl rfl (by rw [he];exact ⟨CoC.agg ⟨CoP.refl _,du,trivial⟩,CoC.refl _,trivial⟩)
 refine w_5 ?_;refine m9 1 ?_;refine w_2 ?_;refine go 1 1 900 true 1 124 (lf rC (ax n ps)) bvg rfl rfl (CoP.sl rfl (.inr rfl) (fun h=>h) (fun i j hi _=>absurd hi (brg i))) (.inr rfl) rfl rfl ?_;refine w_8 ?_;refine ah (ι:=Nat) (ka 0 (ka 4 (ka 6 (ka 26 (ka 27 kn))))) (kb 0 km) (fun i=>⟨[(28,some (vI i))],[(1,some (.box [.p (.raw (.int .i64 n)), .ref 900 i])),(900,some (.arr true 1 124 i (lf rC (ax n ps))))]⟩) (fun i=>i <= ps.length /\ ∀ j,j < i -> (ps.getD j default) >>> n.toNat = 0) (fun i=>ps.length - i) (0) (⟨bre _,c7⟩) kk ?_;rintro i ⟨hi,hI⟩;refine w_5 ?_;refine hcd (fun h3=>?_) (fun h3=>?_)
 ·
  have hin:=bnt (n:=n) (i:=i) bv9 bv9 bv9;refine ahc ?_;refine hcn (fun h4=>?_) (fun h4=>?_)
  · refine w_6 ?_;refine hrr ?_;have he:=b6z (n:=n) (ps:=ps) (i:=i) bv9 bv9 bv9 (fun e=>absurd (b7c.2 e) bva);exact f9 rfl rfl (by rw [he];exact ⟨CoC.agg ⟨CoP.refl _,du,trivial⟩,CoC.refl _,trivial⟩)
  refine w_4 ?_;refine m9 2 ?_;refine w_9 ?_;refine br (ka 0 (ka 4 (ka 6 (ka 7 (ka 8 (ka 9 (ka 26 (ka 27 (ka 28 (ka 40 kn)))))))))) (kb 1 (kb 900 (kb 0 km))) (fun k=>⟨[(41,some (vI k))],[(2,some (.arr true 1 3 n.toNat (lf zC (stT n i (ps.getD i default) k))))]⟩) n.toNat ⟨tt,⟨⟨_,rfl,(alt rfl (fun _=>rfl))⟩,trivial⟩⟩ ?_;rintro k hk;refine w_5 ?_;refine hcd (fun h5=>?_) (fun h5=>?_)
  ·
   refine bnk ?_;refine hcd (fun h6=>?_) (fun h6=>?_)
   · refine j3 ?_;exact lpx (k + 1) ⟨tt,⟨⟨_,rfl,(by first | exact b04 ((rj bv9).1 bva) rfl bv9 bv9 | exact azx (fun e=>absurd ((rj bv9).2 e) bva) rfl bv9)⟩,uu⟩⟩
   refine w_5 ?_;exact lpx (k + 1) ⟨tt,⟨⟨_,rfl,(by first | exact b04 ((rj bv9).1 bva) rfl bv9 bv9 | exact azx (fun e=>absurd ((rj bv9).2 e) bva) rfl bv9)⟩,uu⟩⟩
  refine d7 ?_;refine bn 9 rfl rfl rfl ?_;refine w_4 ?_;refine m9 3 ?_;refine r9 4 true ?_;refine w_7 ?_;refine lpz (i + 1) ⟨tt,⟨u9,⟨_,rfl,(wn (fun h=>h) (fun j hj=>by obtain rfl:j = 0:=bv9;exact b4t bv9 bv9))⟩,uu⟩⟩ ?_;exact ⟨by show i + 1 <= _;omega,bo hI (b7c.1 bva)⟩
 obtain rfl:i = ps.length:=by omega
 refine w_4 ?_;refine jc rfl rfl rfl rfl rfl rfl ahu ((agl n (ax n ps) (by rw [yo];omega))) (⟨⟨CoP.refl _,congrArg (HV.ref 900) (yo _ _).symm,trivial⟩,trivial⟩) ⟨⟨_,rfl,jy rfl (yo _ _).symm⟩,trivial⟩ rfl rfl ?_;refine w_3 ?_;refine hrr ?_;have he:=amm (n:=n) (ps:=ps) bv9 bv9 (fun j hj=>hI j bv9);exact f9 rfl rfl (by rw [he];exact CoL.refl _)
end
section
def dg (n:Int):Rw:=(List.range n.toNat).map fun (i:Nat)=>(i:Int)
def adu (n:Int):(dg n).length = n.toNat:=by unfold dg;simp
def ali {n:Int} {i:Nat} {p:AS} {k:Nat} (h:k < n.toNat):(stR n i p).getD k default = stV n i p k:=by
 unfold stR;rw [brc,brx,bsq h];rfl
def bl3 {s:AS} {n:Int} (h0:0 <= n) (h1:n <= 16):sub s (aa n) <-> s >>> n.toNat = 0:=by
 unfold aa;rw [bsh bv9];exact yd bv9
def bmh (l:List Rw) (x:Fd) (a b:Nat):Bool:=oh (l.getD a default) (l.getD b default) x.lhs && !(l.any fun r=>decide (r = fp (l.getD a default) (l.getD b default) x.rhs))
end
section
def Wel (n:Int) (l:List Rw):Prop:=∀ r,r ∈ l -> r.length = n.toNat /\ ∀ z,z ∈ r -> 0 <= z
section
variable {l:List Rw}
def a40 {i:Nat} (h:i < l.length):l.getD i default ∈ l:=by
 rw [brc,brb h];exact brs h
def rh {n:Int} (h:tok n l = true):Wel n l:=by
 obtain ⟨h0,h1,h2,h3⟩:=pf h;unfold tok at h;rw [brk,decide_eq_true_iff,decide_eq_true_iff] at h;rintro r hr;obtain ⟨i,hi,rfl⟩:=bry hr;have e:l.getD i default = l[i]:=by rw [brc,brb hi];rfl
 rw [<- e];refine ⟨h3 i hi,fun z hz=>?_⟩;have:=h.2 i hi;unfold pn at this;rw [brk,brk] at this;have h4:=this.1.2;rw [bsd,bt1] at h4;have:=h4 z hz;rw [decide_eq_true_iff] at this;omega
def bbf {n:Int} (h:tok n l = true):sd l:=by
 unfold tok at h;rw [brk,decide_eq_true_iff,decide_eq_true_iff] at h
 have hs:∀ d i:Nat,i + d + 1 < l.length -> ltZ (l.getD i default) (l.getD (i + d + 1) default) = true:=by
  intro d
  induction d with
  | zero =>
   intro i hi;have:=h.2 (i + 1) hi;unfold pn at this;rw [brk,bsl,decide_eq_true_iff] at this
   rcases this.2 with h5 | h5
   · omega
   exact h5
  | succ d ih =>
   intro i hi;have h1:=ih i bv9;have:=h.2 (i + d + 1 + 1) bv9;unfold pn at this;rw [brk,bsl,decide_eq_true_iff] at this
   rcases this.2 with h5 | h5
   · omega
   exact o9 h1 h5
 unfold sd;rw [bte];intro i j hi hj hij;obtain ⟨d,rfl⟩:∃ d,j = i + d + 1:=⟨j - i - 1,by omega⟩;have:=hs d i hj;rwa [brc,brb hi,brc,brb hj] at this
def axb {n:Int} (h0:0 <= n) (h1:n <= 16) (h2:l.length <= 256) (hw:Wel n l) (ho:sd l):tok n l = true:=by
 refine b8i h0 h1 h2 fun i hi=>?_;obtain ⟨h3,h4⟩:=hw _ (a40 hi);refine apm bv9 ?_ ?_
 · rw [bt1]
   intro z hz;have:=h4 z hz;rw [decide_eq_true_iff];omega
 rcases bsx i with h | h
 · exact .inl h
 right;have:=bte.1 ho (i - 1) i bv9 hi bv9;rw [brc,brb bv9,brc,brb hi];exact this
def a6e {n:Int} (h0:0 <= n) (h1:n <= 16) (h2:(bf l).length <= 256) (hw:Wel n l):tok n (bf l) = true :=
 axb h0 h1 h2 (fun r hr=>hw r (i6.1 hr)) (v6 l)
def inV (l:List Rw) (M:Nat -> Nat -> Int) (z:Int):Prop:=∃ i r,i < l.length /\ r < (l.getD i default).length /\ M i r = z
def atk {z:Int}:inV l (gq l) z <-> ∃ r,r ∈ l /\ z ∈ r:=by
 constructor
 · rintro ⟨i,r,hi,hr,rfl⟩
   refine ⟨_,a40 hi, ?_⟩;show (l.getD i default).getD r default ∈ _;rw [brc (l:=l.getD i default),brb hr];exact brs hr
 rintro ⟨r,hr,hz⟩;obtain ⟨i,hi,rfl⟩:=bry hr;obtain ⟨k,hk,rfl⟩:=bry hz;have e:l.getD i default = l[i]:=by rw [brc,brb hi];rfl
 refine ⟨i,k,hi,by rw [e];exact hk, ?_⟩;show (l.getD i default).getD k default = _;rw [e,brc,brb hk];rfl
def abs {M:Nat -> Nat -> Int} {z:Int}:(∃ r,r ∈ fc l M /\ z ∈ r) <-> inV l M z:=by
 constructor
 · rintro ⟨r,hr,hz⟩
   unfold fc at hr;rw [brp] at hr;obtain ⟨i,hi,rfl⟩:=hr;rw [brp] at hz;obtain ⟨k,hk,rfl⟩:=hz;exact ⟨i,k,brw.1 hi,brw.1 hk,rfl⟩
 rintro ⟨i,k,hi,hk,rfl⟩;refine ⟨(List.range (l.getD i default).length).map (M i), ?_,brp.2 ⟨k,brw.2 hk,rfl⟩⟩;unfold fc;exact brp.2 ⟨i,brw.2 hi,rfl⟩
end
section
variable {l:List Rw} {a b:Nat} (ha:a < l.length) (hb:b < l.length)
def auy (x y:Int):loI x y = x \/ loI x y = y:=by unfold loI;split <;> simp
def b8e (x y:Int):hiI x y = x \/ hiI x y = y:=by unfold hiI;split <;> simp
include ha hb in
def bm2 {M:Nat -> Nat -> Int} {j:Nat} (hja:j < (l.getD a default).length) (hjb:j < (l.getD b default).length) {z:Int} (h:inV l (eqM M a b j) z):inV l M z:=by
 obtain ⟨i,r,hi,hr,he⟩:=h;unfold eqM at he;split at he
 · rcases auy (M a j) (M b j) with h | h
   · exact ⟨a,j,ha,hja,by rw [<- he,h]⟩
   exact ⟨b,j,hb,hjb,by rw [<- he,h]⟩
 exact ⟨i,r,hi,hr,he⟩
include ha hb in
def ap7:∀ {js:List Nat} {M:Nat -> Nat -> Int},(∀ j,j ∈ js -> j < (l.getD a default).length /\ j < (l.getD b default).length) -> ∀ {z:Int},inV l (eqMs M a b js) z -> inV l M z
 | [],_,_,_,h=>h
 | j :: js,M,hj,z,h=>bm2 ha hb (hj j bvd).1 (hj j bvd).2 (ap7 (js:=js) (M:=eqM M a b j) (fun k hk=>hj k (by simp [hk])) h)
include ha hb in
def ajr:∀ {js:List Nat} {M:Nat -> Nat -> Int},(∀ j,j ∈ js -> j < (l.getD a default).length /\ j < (l.getD b default).length) -> (∃ j,j ∈ js /\ ¬ M a j = M b j) -> ∃ z,inV l M z /\ ¬ inV l (eqMs M a b js) z
 | [],_,_,⟨_,h,_⟩=>by simp at h
 | j :: js,M,hj,⟨k,hk,hne⟩=>by
  by_cases e:M a j = M b j
  · have e2:eqMs M a b (j :: js) = eqMs M a b js:=by
     show eqMs (eqM M a b j) a b js = _;rw [aao e]
    rw [e2];refine ajr (fun k hk=>hj k (by simp [hk])) ⟨k, ?_,hne⟩
    rcases brm.1 hk with h | h
    · subst h;exact absurd e hne
    exact h
  refine ⟨hiI (M a j) (M b j), ?_,fun h=>?_⟩
  · rcases b8e (M a j) (M b j) with h | h
    · exact ⟨a,j,ha,(hj j bvd).1,h.symm⟩
    exact ⟨b,j,hb,(hj j bvd).2,h.symm⟩
  obtain ⟨i,r,hi,hr,he⟩:=ap7 ha hb (fun k hk=>hj k (by simp [hk])) (show inV l (eqMs (eqM M a b j) a b js) _ from h);unfold eqM at he;split at he
  · unfold hiI loI at he
    split at he <;> split at he <;> omega
  rename_i h2;exact h2 he
end
def ahn (Z:List Int) (l:List Rw):Nat:=Z.countP fun z=>l.any fun r=>decide (z ∈ r)
def muC (Z:List Int) (l:List Rw):Nat:=ahn Z l * 300 + (300 - l.length)
def Cov (Z:List Int) (l:List Rw):Prop:=∀ r,r ∈ l -> ∀ z,z ∈ r -> z ∈ Z
def z8 {l:List Rw} {z:Int}:(l.any fun r=>decide (z ∈ r)) = true <-> ∃ r,r ∈ l /\ z ∈ r:=by
 rw [bsf];exact ⟨fun ⟨r,h,h2⟩=>⟨r,h,of_decide_eq_true h2⟩,fun ⟨r,h,h2⟩=>⟨r,h,decide_eq_true h2⟩⟩
def countP_lt' {p q:Int -> Bool}:∀ {Z:List Int},(∀ z,p z = true -> q z = true) -> (∃ z,z ∈ Z /\ q z = true /\ p z = false) -> Z.countP p < Z.countP q
 | [],_,⟨_,h,_⟩=>by simp at h
 | x :: Z,h,⟨z,hz,hq,hp⟩=>by
  have hm:Z.countP p <= Z.countP q:=List.countP_mono_left fun z _=>h z;rw [buh,buh]
  rcases brm.1 hz with rfl | hz
  · rw [hq,hp]
    simp only [if_true,bui,if_false];omega
  have:=countP_lt' (Z:=Z) h ⟨z,hz,hq,hp⟩;by_cases e:p x = true
  · rw [e,h x e];omega
  rw [if_neg e];omega
def ba6 {Z:List Int} {l l':List Rw} (h:∀ z,(∃ r,r ∈ l' /\ z ∈ r) -> ∃ r,r ∈ l /\ z ∈ r) (h2:∃ z,z ∈ Z /\ (∃ r,r ∈ l /\ z ∈ r) /\ ¬ ∃ r,r ∈ l' /\ z ∈ r):ahn Z l' < ahn Z l:=by
 refine countP_lt' (fun z hz=>z8.2 (h z (z8.1 hz))) ?_;obtain ⟨z,h3,h4,h5⟩:=h2;exact ⟨z,h3,z8.2 h4,by rw [brt];exact fun e=>h5 (z8.1 e)⟩
def bd8 {Z:List Int} {l l':List Rw} (h:∀ z,(∃ r,r ∈ l' /\ z ∈ r) -> ∃ r,r ∈ l /\ z ∈ r):ahn Z l' <= ahn Z l :=
 List.countP_mono_left fun z _ hz=>z8.2 (h z (z8.1 hz))
end
section
def aou {r:Rw}:∀ {l:List Rw},r ∉ l -> (m8 r l).length = l.length + 1
 | [],_=>rfl
 | y :: l,h=>by
  unfold m8;have h1:¬ r = y:=fun e=>h (by rw [e];simp);have h2:=aou (l:=l) (r:=r) fun e=>h (by simp [e]);rw [if_neg h1];split
  · simp
  simp only [bs6];omega
def ayi {l:List Rw} {r:Rw} (ho:sd l):bf (l ++ [r]) = m8 r l:=by
 have e:l = bf l:=apw ho fun _=>Iff.rfl
 have:bf (l ++ [r]) = m8 r (bf l):=by
  unfold bf;rw [bs8];rfl
 rw [this,<- e]
section
variable {n:Int} {l:List Rw} {a b:Nat} {x:Fd}
abbrev fdL (l:List Rw) (a b:Nat) (x:Fd):List Rw:=bf (fc l (eqMs (gq l) a b (aj x.rhs)))
def ax5 (hT:tok n l = true) (hu:inU n x = true) (ha:a < l.length) (hb:b < l.length) (hs:iz l x a b = true) :
 fdE n l a b x = (n,fdL l a b x,0) /\ tok n (fdL l a b x) = true /\ (∀ z,(∃ r,r ∈ fdL l a b x /\ z ∈ r) -> ∃ r,r ∈ l /\ z ∈ r) /\ ∀ Z,Cov Z l -> muC Z (fdL l a b x) < muC Z l:=by
 obtain ⟨h0,h1,h2,h3⟩:=pf hT;have hw:=rh hT;unfold iz at hs;rw [brk,bsd] at hs;obtain ⟨hl,hr⟩:=hs
 have hj:∀ j,j ∈ aj x.rhs -> j < (l.getD a default).length /\ j < (l.getD b default).length:=fun j hj=>by
  have:=agm h0 h1 hu hj;exact ⟨by rw [h3 a ha];exact this,by rw [h3 b hb];exact this⟩
 have hV:∀ z,(∃ r,r ∈ fdL l a b x /\ z ∈ r) -> ∃ r,r ∈ l /\ z ∈ r:=fun z ⟨r,hr,hz⟩=>atk.1 (ap7 ha hb hj (abs.1 ⟨r,i6.1 hr,hz⟩));have hlen:(fdL l a b x).length <= l.length:=bs4 (aiu _) (buv (rz _ _));refine ⟨if_pos hl,a6e h0 h1 (bs4 hlen h2) (fun r hr=>⟨?_,fun z hz=>?_⟩),hV,fun Z hZ=>?_⟩
 · unfold fc at hr
   rw [brp] at hr;obtain ⟨i,hi,rfl⟩:=hr;rw [bsc,bv5];exact h3 i (brw.1 hi)
 · obtain ⟨r2,h5,h6⟩:=hV z ⟨r,i6.2 hr,hz⟩
   exact (hw r2 h5).2 z h6
 have hne:∃ j,j ∈ aj x.rhs /\ ¬ gq l a j = gq l b j:=by
  apply Classical.byContradiction;intro hno;rw [a6l] at hr
  · cases hr
  intro i hi hh;apply Classical.byContradiction;intro e
  have hi2:i < 32:=by
   have:=h3 a ha;omega
  rw [dx hi2] at hh;exact hno ⟨i,jg.2 ⟨hi2,hh⟩,e⟩
 obtain ⟨z,hz1,hz2⟩:=ajr ha hb hj hne;have hz3:=atk.1 hz1;have:=ba6 (Z:=Z) hV ⟨z,by obtain ⟨r,h7,h8⟩:=hz3;exact hZ r h7 z h8,hz3,fun ⟨r,h7,h8⟩=>hz2 (abs.1 ⟨r,i6.1 h7,h8⟩)⟩;unfold muC;omega
abbrev mvL (l:List Rw) (a b:Nat) (x:Fd):List Rw:=bf (l ++ [fp (l.getD a default) (l.getD b default) (x.lhs ||| x.rhs)])
def blp (hT:tok n l = true) (ha:a < l.length) (hb:b < l.length) (hs:iw l x a b = true) :
 mvE n l a b x = (0,[],3) \/ (mvE n l a b x = (n,mvL l a b x,0) /\ tok n (mvL l a b x) = true /\ (∀ z,(∃ r,r ∈ mvL l a b x /\ z ∈ r) -> ∃ r,r ∈ l /\ z ∈ r) /\ ∀ Z,Cov Z l -> muC Z (mvL l a b x) < muC Z l):=by
 obtain ⟨h0,h1,h2,h3⟩:=pf hT;have hw:=rh hT;unfold iw at hs;rw [brk,bsd] at hs;obtain ⟨hl,hr⟩:=hs;have hno:=beg hr;have hE:mvE n l a b x = vi n l (fp (l.getD a default) (l.getD b default) (x.lhs ||| x.rhs)):=if_pos hl;by_cases hbig:256 < (mvL l a b x).length
 · left
   rw [hE];exact if_pos hbig
 right
 have hmem:∀ z,z ∈ fp (l.getD a default) (l.getD b default) (x.lhs ||| x.rhs) -> z ∈ l.getD a default \/ z ∈ l.getD b default:=fun z hz=>by
  unfold fp at hz;rw [brp] at hz;obtain ⟨i,hi,rfl⟩:=hz;have hi:=brw.1 hi;have hi2:i < (l.getD a default).length:=by rw [h3 a ha,<- h3 b hb];exact hi
  split
  · left
    rw [brc (l:=l.getD a default),brb hi2];exact brs hi2
  right;rw [brc (l:=l.getD b default),brb hi];exact brs hi
 have hV:∀ z,(∃ r,r ∈ mvL l a b x /\ z ∈ r) -> ∃ r,r ∈ l /\ z ∈ r:=fun z ⟨r,hr,hz⟩=>by
  rcases brr.1 (i6.1 hr) with h | h
  · exact ⟨r,h,hz⟩
  rw [bru] at h;subst h
  rcases hmem z hz with h | h
  · exact ⟨_,a40 ha,h⟩
  exact ⟨_,a40 hb,h⟩
 refine ⟨by rw [hE];exact if_neg hbig,a6e h0 h1 (Nat.le_of_not_lt fun e=>hbig e) (fun r hr=>⟨?_,fun z hz=>?_⟩),hV,fun Z hZ=>?_⟩
 · rcases brr.1 hr with h | h
   · exact (hw r h).1
   rw [bru] at h;subst h;rw [mt];exact h3 b hb
 · obtain ⟨r2,h5,h6⟩:=hV z ⟨r,i6.2 hr,hz⟩
   exact (hw r2 h5).2 z h6
 have e:(mvL l a b x).length = l.length + 1:=by
  show (bf _).length = _;rw [ayi (bbf hT),aou hno]
 have:=bd8 (Z:=Z) hV;unfold muC;omega
end
def b16 {α:Type} {f:Nat -> Option α}:∀ {n:Nat} {x:α},(List.range n).findSome? f = some x -> ∃ k,k < n /\ f k = some x:=fun {n x} h=>by
 obtain ⟨k,hk,e⟩:=buz h;exact ⟨k,brw.1 hk,e⟩
def acu {P:Nat -> Nat -> Nat -> Bool} {I L i a b:Nat} (h:o4 P I L = some (i,a,b)):i < I /\ a < L /\ b < L /\ P i a b = true:=by
 obtain ⟨i',hi,h⟩:=b16 h;obtain ⟨a',ha,h⟩:=b16 h;rw [Option.map_eq_some_iff] at h;obtain ⟨b',hb,e⟩:=h;simp only [bri] at e;obtain ⟨rfl,rfl,rfl⟩:=e;exact ⟨hi,ha,brw.1 (bus hb),by simpa using List.find?_some hb⟩
def a2a (l:List Rw) (p m:List Fd) (s:St):Prop:=s.2.2.1 < l.length /\ s.2.2.2 < l.length /\ ((s.1 = false /\ s.2.1 < p.length /\ iz l (p.getD s.2.1 default) s.2.2.1 s.2.2.2 = true) \/ (s.1 = true /\ s.2.1 < m.length /\ iw l (m.getD s.2.1 default) s.2.2.1 s.2.2.2 = true))
section
variable {l:List Rw} {m p:List Fd}
def ags {s:St} (h:gh l p m = some s):a2a l p m s:=by
 unfold gh at h;split at h
 · rename_i x e
   simp only [bra] at h;subst h;obtain ⟨i,a,b⟩:=x;obtain ⟨h1,h2,h3,h4⟩:=acu e;exact ⟨h2,h3, .inl ⟨rfl,h1,h4⟩⟩
 rw [Option.map_eq_some_iff] at h;obtain ⟨⟨i,a,b⟩,e,rfl⟩:=h;obtain ⟨h1,h2,h3,h4⟩:=acu e;exact ⟨h2,h3, .inr ⟨rfl,h1,h4⟩⟩
def dp (n:Int) (l:List Rw) (p m:List Fd) (s:St):Int × List Rw × Int:=if s.1 = true then mvE n l s.2.2.1 s.2.2.2 (m.getD s.2.1 default) else fdE n l s.2.2.1 s.2.2.2 (p.getD s.2.1 default)
def ao4 {n:Int} {s:St} (hT:tok n l = true) (hp:p.all (inU n) = true) (h:a2a l p m s):
 dp n l p m s = (0,[],3) \/ ∃ l',dp n l p m s = (n,l',0) /\ tok n l' = true /\ (∀ Z,Cov Z l -> Cov Z l' /\ muC Z l' < muC Z l):=by
 obtain ⟨ha,hb,h | h⟩:=h
 · obtain ⟨h1,h2,h3⟩:=h
   have hu:inU n (p.getD s.2.1 default) = true:=bs2.1 hp _ (by rw [brc,brb h2];exact brs h2);obtain ⟨e,h4,h5,h6⟩:=ax5 hT hu ha hb h3;exact .inr ⟨_,by unfold dp;rw [if_neg (by rw [h1];decide)];exact e,h4,fun Z hZ=>⟨fun r hr z hz=>by obtain ⟨r2,h7,h8⟩:=h5 z ⟨r,hr,hz⟩;exact hZ r2 h7 z h8,h6 Z hZ⟩⟩
 obtain ⟨h1,h2,h3⟩:=h
 rcases blp hT ha hb h3 with e | ⟨e,h4,h5,h6⟩
 · exact .inl (by unfold dp;rw [if_pos h1];exact e)
 exact .inr ⟨_,by unfold dp;rw [if_pos h1];exact e,h4,fun Z hZ=>⟨fun r hr z hz=>by obtain ⟨r2,h7,h8⟩:=h5 z ⟨r,hr,hz⟩;exact hZ r2 h7 z h8,h6 Z hZ⟩⟩
def j6:Nat -> Int -> List Rw -> List Fd -> List Fd -> List St -> List St × (Int × List Rw) × Int
 | 0,_,_,_,_,_=>([],(0,[]),0)
 | f + 1,n,l,p,m,acc =>
  match gh l p m with
  | none=>(acc,(n,l),0)
  | some s=>match dp n l p m s with
   | (n',l',e)=>if e = 0 then j6 f n' l' p m (acc ++ [s]) else ([],(0,[]),e)
variable {acc:List St}
def adw {f:Nat} {n:Int} (hf:0 < f) (h:gh l p m = none):j6 f n l p m acc = (acc,(n,l),0):=by
 obtain ⟨g,rfl⟩:∃ g,f = g + 1:=⟨f - 1,by omega⟩;unfold j6;rw [h]
def ad4 {f:Nat} {n:Int} {s:St} (hf:0 < f) (h:gh l p m = some s) {n' e:Int} {l':List Rw} (h2:dp n l p m s = (n',l',e)) (he:¬ e = 0):j6 f n l p m acc = ([],(0,[]),e):=by
 obtain ⟨g,rfl⟩:∃ g,f = g + 1:=⟨f - 1,by omega⟩;unfold j6;rw [h];simp only;rw [h2];simp only;rw [if_neg he]
def a1x {f:Nat} {n:Int} {s:St} (hf:0 < f) (h:gh l p m = some s) {n':Int} {l':List Rw} (h2:dp n l p m s = (n',l',0)):j6 f n l p m acc = j6 (f - 1) n' l' p m (acc ++ [s]):=by
 obtain ⟨g,rfl⟩:∃ g,f = g + 1:=⟨f - 1,by omega⟩;rw [Nat.add_sub_cancel]
 conv=>lhs;unfold j6
 rw [h];simp only;rw [h2];simp only;rw [if_pos trivial]
end
end
section
open Go.Proofs
def bhf (n:Int) (l:List Rw) (p m:List Fd) (s:St) (hT:tok n l = true) (hp:p.all (inU n) = true) (h:a2a l p m s) :
 a6 bw0 147 [pT n l,pP (fdl p),pP (fdl m),s.pc] (af [pT (dp n l p m s).1 (dp n l p m s).2.1,pI (dp n l p m s).2.2]):=by
 obtain ⟨mu,i,a,b⟩:=s;obtain ⟨ha,hb,h | h⟩:=h
 · obtain ⟨h1,h2,h3⟩:=h
   cases h1;exact at5 n l p m i a b hT ha hb h2 (bs2.1 hp _ (by rw [brc,brb h2];exact brs h2))
 obtain ⟨h1,h2,h3⟩:=h;cases h1;exact asy n l p m i a b hT ha hb h2
abbrev St.c (s:St):Nat -> PV:=fun j=>[.raw (.bool s.1), .raw (.int .i64 (s.2.1:Int)), .raw (.int .i64 (s.2.2.1:Int)), .raw (.int .i64 (s.2.2.2:Int))].getD j .any
abbrev stl (l:List St):PV:=psl 4 St.c l
abbrev ckE (n:Int) (l:List Rw) (p m:List Fd):Int:=if tok n l = true then dv n p m else 1
section
variable {l:List Rw} {m p:List Fd} {n:Int}
def aok (h:ckE n l p m = 0):tok n l = true /\ dv n p m = 0 /\ p.all (inU n) = true:=by
 unfold ckE at h;by_cases e:tok n l = true
 · rw [if_pos e] at h
   exact ⟨e,h,(agj h).2.2.2.1⟩
 rw [if_neg e] at h;omega
def ml (F:Nat) (n:Int) (l:List Rw) (p m:List Fd):List St × (Int × List Rw) × Int:=if ckE n l p m = 0 then j6 F n l p m [] else ([],(0,[]),ckE n l p m)
variable {F:Nat}
def b51 (h:¬ ckE n l p m = 0):ml F n l p m = ([],(0,[]),ckE n l p m):=if_neg h
def a4i (h:ckE n l p m = 0):ml F n l p m = j6 F n l p m []:=if_pos h
def b9s {α:Type} {o:Option α} (h:o.isSome = false):o = none:=by cases o <;> simp_all
def bcz {α:Type} {o:Option α} (d:α) (h:o.isSome = true):o = some (o.getD d):=by cases o <;> simp_all
def aos (l:List Rw):Cov l.flatten l:=fun r hr z hz=>buy.2 ⟨r,hr,hz⟩
structure StI (F:Nat) (n:Int) (l:List Rw) (p m:List Fd) (x:Nat × List Rw × List St):Prop where
 t:tok n x.2.1 = true
 c:Cov l.flatten x.2.1
 u:muC l.flatten x.2.1 < x.1
 b:x.2.2.length + x.1 <= F
 e:j6 x.1 n x.2.1 p m x.2.2 = j6 F n l p m []
theorem StI.start (hT:tok n l = true) (hF:muC l.flatten l < F):StI F n l p m (F,l,[]):=⟨hT,aos l,hF,by simp,rfl⟩
variable {x:Nat × List Rw × List St}
theorem StI.next {s:St} (h:StI F n l p m x) (hp:p.all (inU n) = true) (hS:gh x.2.1 p m = some s) (he:(dp n x.2.1 p m s).2.2 = 0):
 (dp n x.2.1 p m s).1 = n /\ StI F n l p m (x.1 - 1,(dp n x.2.1 p m s).2.1,x.2.2 ++ [s]):=by
 have hu:=h.u;have hb:=h.b
 rcases ao4 h.t hp (ags hS) with e | ⟨l',e,h1,h2⟩
 · rw [e] at he;exact absurd he bvg
 have hq:=h2 _ h.c;refine ⟨by rw [e], ?_⟩;rw [e];exact ⟨h1,hq.1,by show muC _ l' < _;omega,by simp only [brh,bst];omega,by rw [<- h.e,a1x bv9 hS e]⟩
theorem StI.fin (h:StI F n l p m x) (hS:gh x.2.1 p m = none):j6 F n l p m [] = (x.2.2,(n,x.2.1),0):=by
 have hu:=h.u;rw [<- h.e,adw bv9 hS]
theorem StI.err {s:St} (h:StI F n l p m x) (hS:gh x.2.1 p m = some s) (he:¬ (dp n x.2.1 p m s).2.2 = 0):j6 F n l p m [] = ([],(0,[]),(dp n x.2.1 p m s).2.2):=by
 have hu:=h.u;rw [<- h.e];exact ad4 bv9 hS rfl he
end
end
section
open Go.Proofs
def bg3 (F:Nat) (n:Int) (l:List Rw) (p m:List Fd) (hF:tok n l = true -> muC l.flatten l < F) (hFb:F <= 4000000000):a6 bw0 142 [pT n l,pP (fdl p),pP (fdl m)] (af [pP (stl (ml F n l p m).1),pT (ml F n l p m).2.1.1 (ml F n l p m).2.1.2,pI (ml F n l p m).2.2]):=by
 refine hpx (nt:=53) Tryz.func142 ?_;refine sx7 ?_;refine m9 0 ?_;refine qy ?_;refine m9 1 ?_;refine w_8 ?_;refine qcx agr (ac8 n l p m) ?_;refine w_7 ?_;refine hcn (fun h0=>?_) (fun h0=>?_)
 · refine w_8 ?_;refine hrr ?_;have he:=b51 (F:=F) (n:=n) (l:=l) (p:=p) (m:=m) bva;exact f9 rfl rfl (by rw [he];exact ⟨CoC.one (CoP.sl rfl (.inr rfl) (fun _=>rfl) (fun i j hi _=>absurd hi (brg i))),CoC.agg ⟨CoP.refl _,du,trivial⟩,CoC.refl _,trivial⟩)
 have hck:ckE n l p m = 0:=by assumption
 obtain ⟨hT,hbe,hpa⟩:=aok hck;obtain ⟨hn0,hn16,hl256,hrow⟩:=pf hT;have hbig:∀ i,i < l.length -> (l.getD i default).length <= 17592186044416:=fun i hi=>by rw [hrow i hi];omega
 refine w_4 ?_;refine qcx aff (b3y n l hbig bv9) ?_;refine w_6 ?_;refine df 10 900 true 4 151 (lf St.c []) bvg rfl (CoP.sl rfl (.inr rfl) (fun h=>h) (fun i j hi _=>absurd hi (brg i))) (.inr rfl) rfl ?_;refine a4y ?_;refine ah (ι:=Nat × List Rw × List St) (ka 1 (ka 2 (ka 3 (ka 7 kn)))) (kb 1 km) (fun x=>⟨[(10,some (.v (.one (.ref 900 x.2.2.length))))],[(0,some (.box [.p (.raw (.int .i64 n)), .p (rl x.2.1)])),(900,some (.arr true 4 151 x.2.2.length (lf St.c x.2.2)))]⟩) (fun x=>StI F n l p m x) (fun x=>x.1) ((F,l,[])) (StI.start hT (hF hT)) kk ?_;rintro x hX;have hXu:=hX.u;have hXb:=hX.b;refine w_6 ?_;refine qcx (wgx Tryz.func190) (bgm n x.2.1 p m hX.t) ?_;refine w_3 ?_;refine m9 2 ?_;refine w_9 ?_;refine hcv (fun h1=>?_) (fun h1=>?_)
 · have hS:=b9s (by simpa using h1);refine w_9 ?_;refine bn 6 rfl rfl rfl ?_;refine hrr ?_;have he:=(a4i hck).trans (hX.fin hS);exact f9 rfl rfl (by rw [he];exact CoL.refl _)
 have hS:=bcz (false,0,0,0) (by simpa using h1);refine w_7 ?_;refine qcx aht (bhf n x.2.1 p m ((gh x.2.1 p m).getD (false,0,0,0)) hX.t hpa (ags hS)) ?_;refine w_3 ?_;refine m9 3 ?_;refine w_9 ?_;refine hcn (fun h2=>?_) (fun h2=>?_)
 · refine w_8 ?_;refine hrr ?_;have he:=(a4i hck).trans (hX.err hS bva);exact f9 rfl rfl (by rw [he];exact ⟨CoC.one (CoP.sl rfl (.inr rfl) (fun _=>rfl) (fun i j hi _=>absurd hi (brg i))),CoC.agg ⟨CoP.refl _,du,trivial⟩,CoC.refl _,trivial⟩)
 have hnx:=hX.next hpa hS bva
 refine w_4 ?_;refine m9 4 ?_;refine r9 5 true ?_;refine w_5 ?_;refine ⟨(x.1 - 1,(dp n x.2.1 p m ((gh x.2.1 p m).getD (false,0,0,0))).2.1,x.2.2 ++ [((gh x.2.1 p m).getD (false,0,0,0))]), ?_, ?_, ?_⟩
 · exact hnx.2
 · show x.1 - 1 < x.1
   omega
 exact ⟨⟨⟨_,rfl,(bz rfl)⟩,tt⟩,⟨⟨_,rfl,⟨CoP.of_eq (by rw [hnx.1]),CoH.refl _,trivial⟩⟩,⟨_,rfl,(w5 rfl (fun j hj=>by match j,hj with | 0,_=>exact CoP.refl _ | 1,_=>exact CoP.refl _ | 2,_=>exact CoP.refl _ | 3,_=>exact CoP.refl _) rfl)⟩,uu⟩⟩
end
section
def ao1:∀ {l:List Rw},(∀ r,r ∈ l -> r.length <= 16) -> l.flatten.length <= 16 * l.length
 | [],_=>by simp
 | r :: l,h=>by
  have h1:=h r bvd;have h2:=ao1 (l:=l) fun r hr=>h r (by simp [hr]);simp only [List.flatten_cons,brh,bs6];omega
abbrev FU:Nat:=1300000
def b0h {n:Int} {l:List Rw} (h:tok n l = true):muC l.flatten l < FU:=by
 obtain ⟨h0,h1,h2,h3⟩:=pf h;have h4:=ao1 (l:=l) fun r hr=>by have:=(rh h r hr).1;omega
 have h5:ahn l.flatten l <= l.flatten.length:=List.countP_le_length;unfold muC;show _ < 1300000;omega
def bhl {n:Int} {i:Nat} {p:AS} {k a N:Nat} (h:c8 p (k:Int) = true) (hN:N = n.toNat) (ha:a = k) :
 CoO (.arr true 1 3 N (gu (lf zC (stT n i p k)) a 0 [.raw (.int .i64 (k:Int))])) (.arr true 1 3 N (lf zC (stT n i p (k + 1)))):=by
 subst ha;refine ⟨fun h=>h,rfl,rfl,rfl,fun c j hc hj=>CoP.of_eq ?_⟩;obtain rfl:j = 0:=by omega
 show _ = PV.raw (.int .i64 ((stT n i p (a + 1)).getD c default));rw [ac2 c bv9];unfold gu;by_cases e:c = a
 · rw [if_pos ⟨e,by omega,by simp⟩,if_pos e]
   unfold stV;rw [if_pos h];rfl
 rw [if_neg (fun x=>e x.1),if_neg e];rfl
def b1k {k:Nat} (h:k < 32):c8 (kj 32) (k:Int) = true:=by
 rw [dx h,l7 32 k h];exact decide_eq_true h
def b0x {n:Int} {k:Nat} (h1:n <= 16) (hk:n.toNat <= k):stT n 0 (kj 32) k = dg n:=by
 rw [arv _ _ _ hk];unfold stR dg;refine btx fun c hc=>?_;have:=brw.1 hc;unfold stV;rw [if_pos (b1k bv9)]
def az0 {n:Int} {k:Nat} (h1:n <= 16) (hk:n.toNat <= k):CoC (.one (.sl n.toNat 1 false (lf zC (stT n 0 (kj 32) k)))) (pZ (dg n)):=by
 rw [b0x h1 hk];exact b7p (adu n)
abbrev a14 (n:Int) (x:Fd):List AS:=[x.lhs ||| x.rhs,x.lhs ||| (aa n &&& ~~~x.rhs)]
def bpg (n:Int) (p m:List Fd) (x:Fd):Bool × Int :=
 if dv n p m = 0 then
  if inU n x = true then
   if (j8 n (a14 n x)).2.2 = 0 then
    if (ml FU (j8 n (a14 n x)).1 (j8 n (a14 n x)).2.1 p m).2.2 = 0 then ((ml FU (j8 n (a14 n x)).1 (j8 n (a14 n x)).2.1 p m).2.1.2.any (fun r=>decide (r = dg n)),0)
    else (false,(ml FU (j8 n (a14 n x)).1 (j8 n (a14 n x)).2.1 p m).2.2)
   else (false,(j8 n (a14 n x)).2.2)
  else (false,1)
 else (false,dv n p m)
end
section
open Go.Proofs
def muK (p:List Fd) (k:Nat):Bool:=decide (p.length <= k)
def ixK (p:List Fd) (k:Nat):Nat:=if p.length <= k then k - p.length else k
def chE (l:List Rw) (p m:List Fd) (s:St):Bool:=if s.1 = true then bmh l (m.getD s.2.1 default) s.2.2.1 s.2.2.2 else iz l (p.getD s.2.1 default) s.2.2.1 s.2.2.2
def bkr (l:List Rw) (p m:List Fd) (k a b:Nat):Bool:=decide (a ≠ b) && chE l p m (muK p k,ixK p k,a,b)
def bpj (l:List Rw) (p m:List Fd):Option St:=(o4 (bkr l p m) (p.length + m.length) l.length).map fun x=>(muK p x.1,ixK p x.1,x.2.1,x.2.2)
section
variable {l:List Rw} {p m:List Fd} {k a b:Nat}
end
end
section
def ahb {s t:AS} {i:Nat}:c8 (s ||| t) (i:Int) = (c8 s (i:Int) || c8 t (i:Int)):=by
 by_cases h:i < 32
 · rw [dx h,dx h,dx h,bt5]
 rw [xl bv9,xl bv9,xl bv9];rfl
def b70 (a:Rw) (s:AS):fp a a s = a:=by
 refine o5 (mt a a s) fun j hj=>?_;rw [mt] at hj;unfold fp;rw [brc,brx,bsq hj];show (if c8 s (j:Int) = true then a.getD j default else a.getD j default) = _;split <;> rfl
def avl {l:List Rw} {x:Fd} {a:Nat}:iz l x a a = false:=ab4 (a6l fun _ _ _=>rfl)
def awi {l:List Rw} {x:Fd} {a:Nat} (ha:a < l.length):iw l x a a = false:=by
 refine ac4 ?_;rw [b70,bsf];exact ⟨_,a40 ha,decide_eq_true rfl⟩
end
section
def lq (l:List Rw) (p m:List Fd) (mu:Bool) (i a b:Int):Prop:=a < 0 \/ (l.length:Int) <= a \/ b < 0 \/ (l.length:Int) <= b \/ a = b \/ i < 0 \/ (mu = true /\ (m.length:Int) <= i) \/ (mu = false /\ (p.length:Int) <= i)
instance (l:List Rw) (p m:List Fd) (mu:Bool) (i a b:Int):Decidable (lq l p m mu i a b):=by unfold lq;infer_instance
def bdS {l:List Rw} {p m:List Fd} {mu:Bool} {i a b:Int} (h:lq l p m mu i a b:=by unfold lq;first | exact .inl bv9 | exact .inr (.inl bv9) | exact .inr (.inr (.inl bv9)) | exact .inr (.inr (.inr (.inl bv9))) | exact .inr (.inr (.inr (.inr (.inl bv9)))) | exact .inr (.inr (.inr (.inr (.inr (.inl bv9))))) | exact .inr (.inr (.inr (.inr (.inr (.inr (.inl ⟨by first | rfl | assumption | simp_all,by omega⟩)))))) | exact .inr (.inr (.inr (.inr (.inr (.inr (.inr ⟨by first | rfl | assumption | simp_all,by omega⟩))))))):lq l p m mu i a b:=h
def li (n:Int) (l:List Rw) (p m:List Fd) (mu:Bool) (i a b:Int):Int × List Rw × Int :=
 if ckE n l p m = 0 then if lq l p m mu i a b then (0,[],1) else dp n l p m (mu,i.toNat,a.toNat,b.toNat) else (0,[],ckE n l p m)
section
variable {n:Int} {l:List Rw} {p m:List Fd} {mu:Bool} {i a b:Int}
end
end
section
def AgE (E:Int -> Int -> Prop) (a b:Rw) (s:AS):Prop:=∀ i:Nat,i < a.length -> c8 s (i:Int) = true -> E (a.getD i default) (b.getD i default)
structure Mdl (N:Nat) (p m:List Fd) (E:Int -> Int -> Prop) (R:Rw -> Prop):Prop where
 refl:∀ x,E x x
 symm:∀ {x y},E x y -> E y x
 trans:∀ {x y z},E x y -> E y z -> E x z
 len:∀ {r},R r -> r.length = N
 cong:∀ {r r':Rw},R r -> r'.length = r.length -> (∀ i,i < r.length -> E (r.getD i default) (r'.getD i default)) -> R r'
 fd:∀ {x},x ∈ p -> ∀ {a b},R a -> R b -> AgE E a b x.lhs -> AgE E a b x.rhs
 mv:∀ {x},x ∈ m -> ∀ {a b},R a -> R b -> AgE E a b x.lhs -> R (fp a b (x.lhs ||| x.rhs))
def LE (N:Nat) (p m:List Fd) (l:List Rw) (x y:Int):Prop:=∀ E R,Mdl N p m E R -> (∀ r,r ∈ l -> R r) -> E x y
def LR (N:Nat) (p m:List Fd) (l:List Rw) (r:Rw):Prop:=∀ E R,Mdl N p m E R -> (∀ r,r ∈ l -> R r) -> R r
def b91 (N:Nat) (p m:List Fd):Mdl N p m (fun _ _=>True) (fun r=>r.length = N) :=
 ⟨fun _=>trivial,fun _=>trivial,fun _ _=>trivial,fun h=>h,fun h e _=>e.trans h,fun _ _ _ _ _ _ _ _ _=>trivial,fun _ a b _ hb _=>(mt _ _ _).trans hb⟩
def a8j {N:Nat} {p m:List Fd} {l:List Rw} (hl:∀ r,r ∈ l -> r.length = N):Mdl N p m (LE N p m l) (LR N p m l) where
 refl x:=fun E R h _=>h.refl x
 symm h:=fun E R k kl=>k.symm (h E R k kl)
 trans h h2:=fun E R k kl=>k.trans (h E R k kl) (h2 E R k kl)
 len h:=h _ _ (b91 N p m) hl
 cong h e h2:=fun E R k kl=>k.cong (h E R k kl) e fun i hi=>h2 i hi E R k kl
 fd hx _ _ ha hb hl:=fun i hi hs E R k kl=>k.fd hx (ha E R k kl) (hb E R k kl) (fun j hj hh=>hl j hj hh E R k kl) i hi hs
 mv hx _ _ ha hb hl:=fun E R k kl=>k.mv hx (ha E R k kl) (hb E R k kl) fun j hj hh=>hl j hj hh E R k kl
structure Ch (N:Nat) (p m:List Fd) (l0 l:List Rw) (σ:Int -> Int):Prop where
 rows:∀ r,r ∈ l -> LR N p m l0 r
 sym:∀ s,LE N p m l0 s (σ s)
 img:∀ r,r ∈ l0 -> r.map σ ∈ l
 fix:∀ r,r ∈ l -> ∀ z,z ∈ r -> σ z = z
 le:∀ s,σ s <= s
section
variable {N:Nat} {p m:List Fd} {l0 l l':List Rw} {σ σ':Int -> Int} {n:Int}
theorem Ch.start:Ch N p m l0 l0 id:=⟨fun r hr E R _ hl=>hl r hr,fun s E R k _=>k.refl s,fun r hr=>by rw [List.map_id];exact hr,fun _ _ _ _=>rfl,fun s=>Int.le_refl s⟩
theorem Ch.congr (h:Ch N p m l0 l σ) (e:∀ r,r ∈ l' <-> r ∈ l):Ch N p m l0 l' σ :=
 ⟨fun r hr=>h.rows r ((e r).1 hr),h.sym,fun r hr=>(e _).2 (h.img r hr),fun r hr=>h.fix r ((e r).1 hr),h.le⟩
def wa (hi lo z:Int):Int:=if z = hi then lo else z
section
variable {f:Int -> Int}
theorem a0g {r:Rw} {i:Nat} (h:i < r.length):(r.map f).getD i default = f (r.getD i default):=by
 grind
theorem Ch.sub (hl0:∀ r,r ∈ l0 -> r.length = N) (h:Ch N p m l0 l σ) {hi lo:Int} (hE:LE N p m l0 hi lo) (hle:lo <= hi) (hin:∃ r,r ∈ l /\ lo ∈ r):Ch N p m l0 (l.map fun r=>r.map (wa hi lo)) (fun s=>wa hi lo (σ s)):=by
 have hm:=a8j (p:=p) (m:=m) hl0
 have hs:∀ z,LE N p m l0 z (wa hi lo z):=fun z=>by
  unfold wa;split
  · grind
  exact hm.refl z
 refine ⟨fun r hr=>?_,fun s=>hm.trans (h.sym s) (hs _),fun r hr=>?_,fun r hr z hz=>?_,fun s=>?_⟩
 · obtain ⟨r0,h0,rfl⟩:=brp.1 hr
   exact hm.cong (h.rows r0 h0) bvd fun i hi=>by rw [a0g hi];exact hs _
 · refine brp.2 ⟨_,h.img r hr, ?_⟩
   simp_all
 · obtain ⟨r0,h0,rfl⟩:=brp.1 hr
   obtain ⟨y,hy,rfl⟩:=brp.1 hz;obtain ⟨r1,h1,h2⟩:=hin;have e1:=h.fix r0 h0 y hy;have e2:=h.fix r1 h1 lo h2;by_cases e:y = hi
   · have e3:wa hi lo y = lo:=if_pos e
     show wa hi lo (σ (wa hi lo y)) = wa hi lo y;rw [e3,e2];unfold wa;split <;> rfl
   have e3:wa hi lo y = y:=if_neg e
   grind
 have h1:=h.le s
 have h2:wa hi lo (σ s) <= σ s:=by
  unfold wa
  grind
 grind
def awj {M:Nat -> Nat -> Int} {a b j:Nat}:fc l (eqM M a b j) = (fc l M).map fun r=>r.map (wa (hiI (M a j) (M b j)) (loI (M a j) (M b j))):=by
 unfold fc;rw [List.map_map];refine btx fun i _=>?_;show _ = List.map _ (List.map _ _);rw [List.map_map];rfl
def axf {M:Nat -> Nat -> Int} {a j:Nat} (ha:a < l.length) (hj:j < (l.getD a default).length):∃ r,r ∈ fc l M /\ M a j ∈ r :=
 abs.2 ⟨a,j,ha,hj,rfl⟩
theorem Ch.eqMs (hl0:∀ r,r ∈ l0 -> r.length = N) {a b:Nat} (ha:a < l.length) (hb:b < l.length):∀ {js:List Nat} {M:Nat -> Nat -> Int} {σ:Int -> Int},Ch N p m l0 (fc l M) σ -> (∀ j,j ∈ js -> j < (l.getD a default).length /\ j < (l.getD b default).length /\ LE N p m l0 (M a j) (M b j)) ->
 ∃ σ',Ch N p m l0 (fc l (eqMs M a b js)) σ'
 | [],M,σ,h,_=>⟨σ,h⟩
 | j :: js,M,σ,h,hj=>by
  obtain ⟨h1,h2,h3⟩:=hj j bvd;have hm:=a8j (p:=p) (m:=m) hl0;have hlo:loI (M a j) (M b j) <= hiI (M a j) (M b j):=by unfold loI hiI;split <;> split <;> omega
  have hE:LE N p m l0 (hiI (M a j) (M b j)) (loI (M a j) (M b j)):=by
   rcases b8e (M a j) (M b j) with e | e <;> rcases auy (M a j) (M b j) with f | f <;> rw [e,f]
   · exact hm.refl _
   · exact h3
   · exact hm.symm h3
   exact hm.refl _
  have hin:∃ r,r ∈ fc l M /\ loI (M a j) (M b j) ∈ r:=by
   rcases auy (M a j) (M b j) with f | f <;> rw [f]
   · exact axf ha h1
   exact axf hb h2
  have hq:=h.sub hl0 hE hlo hin;rw [<- awj] at hq
  have hs:∀ z,LE N p m l0 z (if z = hiI (M a j) (M b j) then loI (M a j) (M b j) else z):=fun z=>by
   split
   · rename_i e;rw [e];exact hE
   exact hm.refl z
  exact Ch.eqMs hl0 ha hb (js:=js) hq fun k hk=>by
   obtain ⟨h4,h5,h6⟩:=hj k (by simp [hk]);exact ⟨h4,h5,hm.trans (hm.symm (hs (M a k))) (hm.trans h6 (hs (M b k)))⟩
theorem arn:fc l (gq l) = l:=by
 refine o5 (rz _ _) fun i hi=>?_;rw [rz] at hi;rw [aj8 hi];refine o5 bvd fun k hk=>?_
 grind
def aw5 (hl0:∀ r,r ∈ l0 -> r.length = N) {a b:Rw} {s:AS} (h:oh a b s = true):AgE (LE N p m l0) a b s:=fun i hi hs=>by
 rw [of_decide_eq_true h i hi hs];exact (a8j hl0).refl _
theorem ey {α:Type} [Inhabited α] {l:List α} {i:Nat} (h:i < l.length):l.getD i default ∈ l:=by
 grind
theorem b5s {a b:Rw} {s:AS} (hl:a.length = b.length) {z:Int} (hz:z ∈ fp a b s):z ∈ a \/ z ∈ b:=by
 unfold fp at hz
 grind
def b4u (l:List Rw) (p m:List Fd) (s:St):Prop:=s.2.2.1 < l.length /\ s.2.2.2 < l.length /\ (s.1 = false -> s.2.1 < p.length) /\ (s.1 = true -> s.2.1 < m.length)
theorem Ch.app (hl0:∀ r,r ∈ l0 -> r.length = n.toNat) (hT:tok n l = true) (hp:p.all (inU n) = true) (h:Ch n.toNat p m l0 l σ) {s:St} (hs:b4u l p m s) (he:(dp n l p m s).2.2 = 0) :
 (dp n l p m s).1 = n /\ ∃ σ',Ch n.toNat p m l0 (dp n l p m s).2.1 σ':=by
 obtain ⟨mu,i,a,b⟩:=s;obtain ⟨ha,hb,hf,hv⟩:=hs;obtain ⟨h0,h1,h2,h3⟩:=pf hT;have ha:a < l.length:=ha;have hb:b < l.length:=hb;have hra:=h3 a ha;have hrb:=h3 b hb
 cases mu with
 | false =>
  have hi:i < p.length:=hf rfl;have e0:dp n l p m (false,i,a,b) = fdE n l a b (p.getD i default):=rfl;rw [e0] at he ⊢;by_cases hg:oh (l.getD a default) (l.getD b default) (p.getD i default).lhs = true
  · have e1:fdE n l a b (p.getD i default) = (n,bf (fc l (Go.Hx.eqMs (gq l) a b (aj (p.getD i default).rhs))),0):=if_pos hg
    rw [e1];refine ⟨rfl, ?_⟩;have hu:inU n (p.getD i default) = true:=bs2.1 hp _ (ey hi);have hm:=a8j (p:=p) (m:=m) hl0;have hR:=hm.fd (ey hi) (h.rows _ (ey ha)) (h.rows _ (ey hb)) (aw5 hl0 hg)
    obtain ⟨σ',hσ⟩:=Ch.eqMs (p:=p) (m:=m) hl0 ha hb (js:=aj (p.getD i default).rhs) (M:=gq l) (σ:=σ) (by rw [arn];exact h) fun j hj=>by
     have h4:=agm h0 h1 hu hj;have h5:=jg.1 hj;refine ⟨Nat.lt_of_lt_of_eq h4 hra.symm,Nat.lt_of_lt_of_eq h4 hrb.symm,hR j (Nat.lt_of_lt_of_eq h4 hra.symm) (by rw [dx h5.1];exact h5.2)⟩
    exact ⟨σ',hσ.congr fun r=>i6⟩
  have e1:fdE n l a b (p.getD i default) = (0,[],1):=if_neg hg
  grind
 | true =>
  have hi:i < m.length:=hv rfl;have e0:dp n l p m (true,i,a,b) = mvE n l a b (m.getD i default):=rfl;rw [e0] at he ⊢;by_cases hg:oh (l.getD a default) (l.getD b default) (m.getD i default).lhs = true
  · have e1:mvE n l a b (m.getD i default) = vi n l (fp (l.getD a default) (l.getD b default) ((m.getD i default).lhs ||| (m.getD i default).rhs)):=if_pos hg
    rw [e1] at he ⊢;by_cases hbig:256 < (bf (l ++ [fp (l.getD a default) (l.getD b default) ((m.getD i default).lhs ||| (m.getD i default).rhs)])).length
    · have e2:vi n l (fp (l.getD a default) (l.getD b default) ((m.getD i default).lhs ||| (m.getD i default).rhs)) = (0,[],3):=if_pos hbig
      grind
    have e2:vi n l (fp (l.getD a default) (l.getD b default) ((m.getD i default).lhs ||| (m.getD i default).rhs)) = (n,bf (l ++ [fp (l.getD a default) (l.getD b default) ((m.getD i default).lhs ||| (m.getD i default).rhs)]),0):=if_neg hbig;rw [e2];refine ⟨rfl,σ, ?_⟩;have hm:=a8j (p:=p) (m:=m) hl0;have hR:=hm.mv (ey hi) (h.rows _ (ey ha)) (h.rows _ (ey hb)) (aw5 hl0 hg);refine ⟨fun r hr=>?_,h.sym,fun r hr=>i6.2 (brz _ (h.img r hr)),fun r hr z hz=>?_,h.le⟩
    · rcases brr.1 (i6.1 hr) with h4 | h4
      · exact h.rows r h4
      grind
    rcases brr.1 (i6.1 hr) with h4 | h4
    · exact h.fix r h4 z hz
    rw [bru.1 h4] at hz
    rcases b5s bv9 hz with h5 | h5
    · exact h.fix _ (ey ha) z h5
    exact h.fix _ (ey hb) z h5
  have e1:mvE n l a b (m.getD i default) = (0,[],1):=if_neg hg
  grind
def af0 {P:Nat -> Nat -> Nat -> Bool} {I L:Nat} (h:o4 P I L = none) {i a b:Nat} (hi:i < I) (ha:a < L) (hb:b < L):P i a b = false:=by
 unfold o4 at h;simp_all
def aym (h:gh l p m = none):(∀ i,i < p.length -> ∀ a,a < l.length -> ∀ b,b < l.length -> iz l (p.getD i default) a b = false) /\ ∀ i,i < m.length -> ∀ a,a < l.length -> ∀ b,b < l.length -> iw l (m.getD i default) a b = false:=by
 unfold gh at h;split at h
 · cases h
 rename_i e;rw [Option.map_eq_none_iff] at h;exact ⟨fun i hi a ha b hb=>af0 (P:=fun i a b=>iz l (p.getD i default) a b) e hi ha hb,fun i hi a ha b hb=>af0 (P:=fun i a b=>iw l (m.getD i default) a b) h hi ha hb⟩
def vb {α:Type} [Inhabited α] {l:List α} {x:α} (h:x ∈ l):∃ i,i < l.length /\ l.getD i default = x:=by
 obtain ⟨i,hi,rfl⟩:=bry h;exact ⟨i,hi,by rw [brc,brb hi];rfl⟩
theorem b2z {a b:Rw} {s:AS} (hl:a.length = b.length):fp (a.map f) (b.map f) s = (fp a b s).map f:=by
 unfold fp;rw [List.map_map,bsc];refine btx fun i hi=>?_
 grind
theorem Ch.mdl (hT:tok n l = true) (hn:gh l p m = none) (σ:Int -> Int):Mdl n.toNat p m (fun x y=>σ x = σ y) (fun r=>r.length = n.toNat /\ r.map σ ∈ l):=by
 obtain ⟨hF,hM⟩:=aym hn;refine ⟨fun _=>rfl,fun h=>h.symm,fun h k=>h.trans k,fun h=>h.1,fun {r r'} h e h2=>⟨e.trans h.1, ?_⟩,fun {x} hx {a b} ha hb hl i hi hs=>?_,fun {x} hx {a b} ha hb hl=>⟨(mt _ _ _).trans hb.1, ?_⟩⟩
 · have:r'.map σ = r.map σ:=by
    refine o5 (by simp [e]) fun i hi=>?_
    grind
   grind
 · obtain ⟨k,hk,rfl⟩:=vb hx
   obtain ⟨ia,hia,ea⟩:=vb ha.2;obtain ⟨ib,hib,eb⟩:=vb hb.2;have h1:=hF k hk ia hia ib hib;unfold iz at h1;rw [ea,eb,a6l (fun j hj hs=>by rw [bsc] at hj;rw [a0g hj,a0g (by rw [hb.1,<- ha.1];exact hj)];exact hl j hj hs),btn,Bool.not_eq_false'] at h1;have h2:=of_decide_eq_true h1 i (by rw [bsc];exact hi) hs
   grind
 obtain ⟨k,hk,rfl⟩:=vb hx;obtain ⟨ia,hia,ea⟩:=vb ha.2;obtain ⟨ib,hib,eb⟩:=vb hb.2;have h1:=hM k hk ia hia ib hib;unfold iw at h1;rw [ea,eb,a6l (fun j hj hs=>by rw [bsc] at hj;rw [a0g hj,a0g (by rw [hb.1,<- ha.1];exact hj)];exact hl j hj hs),btn,Bool.not_eq_false'] at h1;obtain ⟨r,hr,e⟩:=bsf.1 h1;rw [<- b2z (by rw [ha.1,hb.1]),<- of_decide_eq_true e];exact hr
theorem Ch.has (h:Ch n.toNat p m l0 l σ) (hT:tok n l = true) (hl0:∀ r,r ∈ l0 -> r.length = n.toNat) (hn:gh l p m = none):(∀ x y,LE n.toNat p m l0 x y -> σ x = σ y) /\ ∀ r,LR n.toNat p m l0 r -> r.map σ ∈ l:=by
 have hm:=Ch.mdl (p:=p) (m:=m) hT hn σ;have hl:∀ r,r ∈ l0 -> r.length = n.toNat /\ r.map σ ∈ l:=fun r hr=>⟨hl0 r hr,h.img r hr⟩;exact ⟨fun x y e=>e _ _ hm hl,fun r e=>(e _ _ hm hl).2⟩
def ahy:∀ {r:Rw},(∀ z,z ∈ r -> f z = z) -> r.map f = r
 | [],_=>rfl
 | z :: r,h=>by rw [bt3,h z bvd,ahy fun y hy=>h y (by simp [hy])]
theorem Ch.mem (h:Ch n.toNat p m l0 l σ) (hT:tok n l = true) (hl0:∀ r,r ∈ l0 -> r.length = n.toNat) (hn:gh l p m = none) {r:Rw}:r ∈ l <-> LR n.toNat p m l0 r /\ r.map σ = r:=by
 constructor
 · intro hr
   exact ⟨h.rows r hr,ahy (h.fix r hr)⟩
 rintro ⟨h1,h2⟩;rw [<- h2];exact (h.has hT hl0 hn).2 r h1
end
end
end
end Go.Hx

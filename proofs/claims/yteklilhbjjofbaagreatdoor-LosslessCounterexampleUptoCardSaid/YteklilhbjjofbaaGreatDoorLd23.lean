/- A part of the proof: X12 Ch9 X13 Ch10 X14 Ch11 Ch12 Ch13 X15 Ch14 Ch17 X20 Ch18. -/
import Derived.Test.YteklilhbjjofbaaGreatDoorLd22
set_option linter.all false
set_option maxRecDepth 100000
set_option maxHeartbeats 1000000
namespace Go.Hx
section
open Go.Proofs
def ay2 (n:Int) (l:List Rw) (p m:List Fd) (hT:tok n l = true):a8 b98 126 [pT n l,pP (fdl p),pP (fdl m)] (ae [St.pc ((dc l p m).getD (false,0,0,0)),pB (dc l p m).isSome]):=by
 refine hpx (nt:=132) Tryz.func126 ?_;refine cu ?_;obtain ⟨hn0,hn16,hl256,hrow⟩:=eu hT;refine bv 1 rfl fun hn1=>?_;refine bv 2 rfl fun hn2=>?_;refine gy ?_;refine m9 0 ?_;refine m9 1 ?_;refine df ?_;refine af (ι:=Nat) (ka 2 (ka 3 (ka 6 (ka 16 (ka 17 kn))))) (kb 0 (kb 1 km)) (fun i=>⟨[(18,some (vI i))],[]⟩) (fun i=>i <= p.length /\ (∀ i',i' < i -> ∀ a',a' < l.length -> ∀ b',b' < l.length -> dm l (p.getD i' default) a' b' = false)) (fun i=>p.length - i) (0) (⟨b5h _,ar⟩) kk ?_;rintro i ⟨hi,hI⟩;refine w_5 ?_;refine hcd (fun h0=>?_) (fun h0=>?_)
 ·
  refine w_8 ?_;refine m9 2 ?_;refine ej ?_;refine af (ι:=Nat) (ka 2 (ka 3 (ka 6 (ka 8 (ka 9 (ka 16 (ka 17 (ka 18 (ka 25 kn))))))))) (kb 0 (kb 1 (kb 2 km))) (fun a=>⟨[(26,some (vI a))],[]⟩) (fun a=>a <= l.length /\ (∀ a',a' < a -> ∀ b',b' < l.length -> dm l (p.getD i default) a' b' = false)) (fun a=>l.length - a) (0) (⟨b5h _,ar⟩) kk ?_;rintro a ⟨ha,hA⟩;refine w_5 ?_;refine hcd (fun h1=>?_) (fun h1=>?_)
  ·
   refine nk ?_;refine af (ι:=Nat) (ka 2 (ka 3 (ka 6 (ka 8 (ka 9 (ka 10 (ka 16 (ka 17 (ka 18 (ka 25 (ka 26 (ka 31 kn)))))))))))) (kb 0 (kb 1 (kb 2 km))) (fun b=>⟨[(32,some (vI b))],[]⟩) (fun b=>b <= l.length /\ (∀ b',b' < b -> dm l (p.getD i default) a b' = false)) (fun b=>l.length - b) (0) (⟨b5h _,ar⟩) kk ?_;rintro b ⟨hb,hB⟩;refine w_5 ?_;refine hcd (fun h2=>?_) (fun h2=>?_)
   ·
    refine apj ?_;refine qcx y5 (a12 (l.getD a default) (l.getD b default) (p.getD i default).lhs (by rw [hrow _ b8i,hrow _ b8i]) (by rw [hrow _ b8i];omega)) ?_;refine qy ?_;refine aa rfl rfl (fun r3=>?_) (fun r3=>?_)
    ·
     have h3:=r3;(iterate 12 refine qy ?_ (hg:=(gtt r3)));refine qcx y5 (a12 (l.getD a default) (l.getD b default) (p.getD i default).rhs (by rw [hrow _ b8i,hrow _ b8i]) (by rw [hrow _ b8i];omega)) ?_ (hg:=(gtt r3));refine qy ?_ (hg:=(gtt r3));refine w_3 ?_;refine ag _ rfl (fun r4=>?_) (fun r4=>?_)
     · have h4:=d6 (bd r3 r4);refine w_9 ?_;refine hrr ?_;have he:=ary (m:=m) (x7 (P:=fun i a b=>dm l (p.getD i default) a b) (i:=i) (a:=a) (b:=b) b8i b8i b8i (aro b8j b8j) hI hA hB);exact f9 rfl rfl (by rw [he];exact CoL.refl _)
     have h4:=d5 (bd r3 r4);refine w_5 ?_;refine lpz (b + 1) kk ?_;exact ⟨by show b + 1 <= _;omega,aj hB (by first | exact yy b8j | exact a52 b8j)⟩
    have h3:=r3;(iterate 14 refine k9 (gft r3) ?_);refine w_9 ?_;refine lpz (b + 1) kk ?_
    exact ⟨by show b + 1 <= _;omega,aj hB (by first | exact yy b8j | exact a52 b8j)⟩
   refine w_5 ?_;refine lpz (a + 1) kk ?_;exact ⟨by show a + 1 <= _;omega,aj hA (fun b' hb'=>hB b' b8i)⟩
  refine w_5 ?_;refine lpz (i + 1) kk ?_;exact ⟨by show i + 1 <= _;omega,aj hI (fun a' ha'=>hA a' b8i)⟩
 obtain rfl:i = p.length:=by omega
 have hno:=x6 (P:=fun i a b=>dm l (p.getD i default) a b) (I:=p.length) (L:=l.length) hI;refine w_9 ?_;refine af (ι:=Nat) (ka 3 (ka 6 (ka 71 (ka 72 kn)))) (kb 0 (kb 1 km)) (fun k=>⟨[(73,some (vI k))],[]⟩) (fun k=>k <= m.length /\ (∀ i',i' < k -> ∀ a',a' < l.length -> ∀ b',b' < l.length -> dt l (m.getD i' default) a' b' = false)) (fun k=>m.length - k) (0) (⟨b5h _,ar⟩) kk ?_;rintro k ⟨hk,hK⟩;refine w_5 ?_;refine hcd (fun h5=>?_) (fun h5=>?_)
 ·
  refine w_8 ?_;refine m9 3 ?_;refine ej ?_;refine af (ι:=Nat) (ka 3 (ka 6 (ka 12 (ka 13 (ka 71 (ka 72 (ka 73 (ka 80 kn)))))))) (kb 0 (kb 1 (kb 3 km))) (fun c=>⟨[(81,some (vI c))],[]⟩) (fun c=>c <= l.length /\ (∀ a',a' < c -> ∀ b',b' < l.length -> dt l (m.getD k default) a' b' = false)) (fun c=>l.length - c) (0) (⟨b5h _,ar⟩) kk ?_;rintro c ⟨hc,hC⟩;refine w_5 ?_;refine hcd (fun h6=>?_) (fun h6=>?_)
  ·
   refine nk ?_;refine af (ι:=Nat) (ka 3 (ka 6 (ka 12 (ka 13 (ka 14 (ka 71 (ka 72 (ka 73 (ka 80 (ka 81 (ka 86 kn))))))))))) (kb 0 (kb 1 (kb 3 km))) (fun d=>⟨[(87,some (vI d))],[]⟩) (fun d=>d <= l.length /\ (∀ b',b' < d -> dt l (m.getD k default) c b' = false)) (fun d=>l.length - d) (0) (⟨b5h _,ar⟩) kk ?_;rintro d ⟨hd,hD⟩;refine w_5 ?_;refine hcd (fun h7=>?_) (fun h7=>?_)
   ·
    refine apj ?_;refine qcx y5 (a12 (l.getD c default) (l.getD d default) (m.getD k default).lhs (by rw [hrow _ b8i,hrow _ b8i]) (by rw [hrow _ b8i];omega)) ?_;refine qy ?_;refine aa rfl rfl (fun r8=>?_) (fun r8=>?_)
    ·
     have h8:=r8;(iterate 16 refine qy ?_ (hg:=(gtt r8)));refine rc rfl rfl rfl rfl rfl rfl (wgx Tryz.func132) (am6 (l.getD c default) (l.getD d default) ((m.getD k default).lhs ||| (m.getD k default).rhs) (by rw [hrow _ b8i,hrow _ b8i]) (by rw [hrow _ b8i];omega)) (⟨CoC.refl _,CoC.refl _,cci (by rw [bOr];rfl),trivial⟩) rfl (gtt r8) ?_;refine qcx a1g (a6k n l (d7 (l.getD c default) (l.getD d default) ((m.getD k default).lhs ||| (m.getD k default).rhs))) ?_ (hg:=(gtt r8));refine qy ?_ (hg:=(gtt r8));refine w_3 ?_;refine ag _ rfl (fun r9=>?_) (fun r9=>?_)
     · have h9:=d6 (bd r8 r9);refine w_9 ?_;refine hrr ?_;have he:=aux hno (x7 (P:=fun i a b=>dt l (m.getD i default) a b) (i:=k) (a:=c) (b:=d) b8i b8i b8i (atf b8j b8j) hK hC hD);exact f9 rfl rfl (by rw [he];exact CoL.refl _)
     have h9:=d5 (bd r8 r9);refine w_5 ?_;refine lpz (d + 1) kk ?_;exact ⟨by show d + 1 <= _;omega,aj hD (by first | exact adi b8j | exact a4v b8j)⟩
    have h8:=r8;(iterate 19 refine k9 (gft r8) ?_);refine w_9 ?_;refine lpz (d + 1) kk ?_
    exact ⟨by show d + 1 <= _;omega,aj hD (by first | exact adi b8j | exact a4v b8j)⟩
   refine w_5 ?_;refine lpz (c + 1) kk ?_;exact ⟨by show c + 1 <= _;omega,aj hC (fun b' hb'=>hD b' b8i)⟩
  refine w_5 ?_;refine lpz (k + 1) kk ?_;exact ⟨by show k + 1 <= _;omega,aj hK (fun a' ha'=>hC a' b8i)⟩
 refine w_7 ?_;refine hrr ?_;have he:=at0 hno (x6 (P:=fun i a b=>dt l (m.getD i default) a b) (I:=m.length) (L:=l.length) fun j hj=>hK j b8i);exact f9 rfl rfl (by rw [he];exact CoL.refl _)
end
section
def stV (n:Int) (i:Nat) (p:AS) (c:Nat):Int:=if bi p (c:Int) = true then (c:Int) else n + (i:Int) * n + (c:Int)
def stT (n:Int) (i:Nat) (p:AS) (k:Nat):Rw:=(List.range n.toNat).map fun c=>if c < k then stV n i p c else 0
def stR (n:Int) (i:Nat) (p:AS):Rw:=(List.range n.toNat).map fun c=>stV n i p c
def ak (n:Int) (ps:List AS):List Rw:=(List.range ps.length).map fun i=>stR n i (ps.getD i default)
def a2c (n:Int) (i:Nat) (p:AS):(stR n i p).length = n.toNat:=by unfold stR;simp
def mi (n:Int) (ps:List AS):(ak n ps).length = ps.length:=by unfold ak;simp
section
variable {i:Nat} {n:Int} {ps:List AS}
def a9r (h:i < ps.length):(ak n ps).getD i default = stR n i (ps.getD i default):=by
 unfold ak;rw [b5c,b5s,b6d h];rfl
variable {k:Nat}
def ahe (n:Int) (i:Nat) (p:AS) (h:n.toNat <= k):stT n i p k = stR n i p:=by
 unfold stT stR;refine b76 fun c hc=>?_;have:=b5r.1 hc;rw [if_pos b8i]
variable {p:AS}
def ac8 {c:Nat} (h:c < n.toNat):(stT n i p k).getD c default = if c < k then stV n i p c else 0:=by
 unfold stT;rw [b5c,b5s,b6d h];rfl
def ae5 {N:Nat} {f:Nat -> Nat -> PV} (hN:N = n.toNat) (hf:∀ a,f a 0 = .raw (.int .i64 0)):CoO (.arr true 1 3 N f) (.arr true 1 3 N (lf zC (stT n i p 0))) :=
 ⟨fun h=>h,rfl,rfl,rfl,fun a j ha hj=>by
  obtain rfl:j = 0:=by omega
  refine CoP.of_eq ?_;rw [hf];show _ = PV.raw (.int .i64 ((stT n i p 0).getD a default))
  rw [ac8 b8i,if_neg b8i]⟩
def a4g:∀ c,c < n.toNat -> (stT n i p (k + 1)).getD c default = if c = k then stV n i p k else (stT n i p k).getD c default:=fun c hc=>by
 rw [ac8 hc,ac8 hc];by_cases h:c = k
 · rw [if_pos h,if_pos b8i,h]
 rw [if_neg h];by_cases h2:c < k
 · rw [if_pos h2,if_pos b8i]
 rw [if_neg h2,if_neg b8i]
def alo {a b N:Nat} {x:Int} (h:bi p (k:Int) = true) (hN:N = n.toNat) (ha:a = k) (hb:b = k):
 CoO (.arr true 1 3 N (ew (ew (lf zC (stT n i p k)) a 0 [.raw (.int .i64 x)]) b 0 [.raw (.int .i64 (k:Int))])) (.arr true 1 3 N (lf zC (stT n i p (k + 1)))):=by
 subst ha hb;refine ⟨fun h=>h,rfl,rfl,rfl,fun c j hc hj=>CoP.of_eq ?_⟩;obtain rfl:j = 0:=by omega
 show _ = PV.raw (.int .i64 ((stT n i p (b + 1)).getD c default));rw [a4g c b8i];unfold ew;by_cases e:c = b
 · rw [if_pos ⟨e,by omega,by simp⟩,if_pos e]
   unfold stV;rw [if_pos h];rfl
 rw [if_neg (fun x=>e x.1),if_neg (fun x=>e x.1),if_neg e];rfl
def akp {a N:Nat} (h:¬ bi p (k:Int) = true) (hN:N = n.toNat) (ha:a = k):
 CoO (.arr true 1 3 N (ew (lf zC (stT n i p k)) a 0 [.raw (.int .i64 (n + (i:Int) * n + (k:Int)))])) (.arr true 1 3 N (lf zC (stT n i p (k + 1)))):=by
 subst ha;refine ⟨fun h=>h,rfl,rfl,rfl,fun c j hc hj=>CoP.of_eq ?_⟩;obtain rfl:j = 0:=by omega
 show _ = PV.raw (.int .i64 ((stT n i p (a + 1)).getD c default));rw [a4g c b8i];unfold ew;by_cases e:c = a
 · rw [if_pos ⟨e,by omega,by simp⟩,if_pos e]
   unfold stV;rw [if_neg h];rfl
 rw [if_neg (fun x=>e x.1),if_neg e];rfl
def aqy {s:AS}:(asI s).fdiv (2 ^ (min n.toNat 32)) = 0 <-> s >>> n.toNat = 0:=by
 rw [aq2,show (0:Int) = asI 0 from rfl,qi]
def ax1 (h0:0 <= n) (h1:n <= 16) (hi:i <= 64):0 <= (i:Int) * n /\ (i:Int) * n <= 1024:=by
 refine ⟨Int.mul_nonneg b8i h0, ?_⟩;have h2:(i:Int) * n <= (i:Int) * 16:=Int.mul_le_mul_of_nonneg_left h1 b8i;omega
def ez (n:Int) (ps:List AS):Int × List Rw × Int :=
 if n < 0 \/ 16 < n then (0,[],7) else if 64 < ps.length then (0,[],3) else if ps.all (fun p=>decide (p >>> n.toNat = 0)) = true then (n,ai (ak n ps),0) else (0,[],1)
def yi (h:n < 0 \/ 16 < n):ez n ps = (0,[],7):=if_pos h
def aef (h:¬ (n < 0 \/ 16 < n)) (h2:64 < ps.length):ez n ps = (0,[],3):=by unfold ez;rw [if_neg h,if_pos h2]
def ad0 (h:¬ (n < 0 \/ 16 < n)) (h2:¬ 64 < ps.length) (hi:i < ps.length) (h3:¬ (ps.getD i default) >>> n.toNat = 0):ez n ps = (0,[],1):=by
 unfold ez;rw [if_neg h,if_neg h2,if_neg (fun e=>absurd (s4 (l:=ps) (p:=fun p:AS=>decide (p >>> n.toNat = 0)) hi (decide_eq_false h3)) (by rw [e];decide))]
def a3w (h:¬ (n < 0 \/ 16 < n)) (h2:¬ 64 < ps.length) (h3:∀ j,j < ps.length -> (ps.getD j default) >>> n.toNat = 0):ez n ps = (n,ai (ak n ps),0):=by
 unfold ez;rw [if_neg h,if_neg h2,if_pos (w5 (l:=ps) (p:=fun p:AS=>decide (p >>> n.toNat = 0)) fun j hj=>decide_eq_true (h3 j hj))]
def an4 (hi:i < ps.length) (hk:n.toNat <= k):CoP (.sl n.toNat 1 false (lf zC (stT n i (ps.getD i default) k))) (lf rC (ak n ps) i 0):=by
 show CoP _ (zl ((ak n ps).getD i default));rw [a9r hi,ahe n i _ hk];exact CoP.sl (a2c _ _ _) (.inl rfl) (fun h=>h) fun a j ha hj=>CoP.refl _
end
end
section
open Go.Proofs
def axd (n:Int) (ps:List AS):a8 b98 53 [pI n,pP (asl ps)] (ae [pT (ez n ps).1 (ez n ps).2.1,pI (ez n ps).2.2]):=by
 refine hpx (nt:=73) Tryz.func53 ?_;refine sx7 ?_;refine m9 0 ?_;refine w_9 ?_;refine aa rfl rfl (fun r0=>?_) (fun r0=>?_)
 ·
  have h0:=tz1 r0;(iterate 2 refine k9 (gtf r0) ?_);refine df ?_;refine hrr ?_
  have he:=yi (n:=n) (ps:=ps) b8i;exact f9 rfl rfl (by rw [he];exact ⟨CoC.agg ⟨CoP.refl _,aw,trivial⟩,CoC.refl _,trivial⟩)
 have h0:=tz2 r0;(iterate 2 refine qy ?_ (hg:=(gff r0)));refine w_3 ?_;refine ag _ rfl (fun r1=>?_) (fun r1=>?_)
 · have h1:=tz1 (ab r0 r1);refine w_6 ?_;refine hrr ?_;have he:=yi (n:=n) (ps:=ps) b8i;exact f9 rfl rfl (by rw [he];exact ⟨CoC.agg ⟨CoP.refl _,aw,trivial⟩,CoC.refl _,trivial⟩)
 have h1:=tz2 (ab r0 r1);refine w_7 ?_;refine hcd (fun h2=>?_) (fun h2=>?_)
 · refine w_6 ?_;refine hrr ?_;have he:=aef (n:=n) (ps:=ps) b8i b8i;exact f9 rfl rfl (by rw [he];exact ⟨CoC.agg ⟨CoP.refl _,aw,trivial⟩,CoC.refl _,trivial⟩)
 refine w_5 ?_;refine m9 1 ?_;refine w_2 ?_;refine dx 1 1 900 true 1 97 (lf rC (ak n ps)) b8n rfl rfl (CoP.sl rfl (.inr rfl) (fun h=>h) (fun i j hi _=>absurd hi (b5i i))) (.inr rfl) rfl rfl ?_;refine w_8 ?_;refine af (ι:=Nat) (ka 0 (ka 4 (ka 6 (ka 26 (ka 27 kn))))) (kb 0 km) (fun i=>⟨[(28,some (vI i))],[(1,some (.box [.p (.raw (.int .i64 n)), .ref 900 i])),(900,some (.arr true 1 97 i (lf rC (ak n ps))))]⟩) (fun i=>i <= ps.length /\ ∀ j,j < i -> (ps.getD j default) >>> n.toNat = 0) (fun i=>ps.length - i) (0) (⟨b5h _,ar⟩) kk ?_;rintro i ⟨hi,hI⟩;refine w_5 ?_;refine hcd (fun h3=>?_) (fun h3=>?_)
 ·
  have hin:=ax1 (n:=n) (i:=i) b8i b8i b8i;refine a7t ?_;refine hcn (fun h4=>?_) (fun h4=>?_)
  · refine w_6 ?_;refine hrr ?_;have he:=ad0 (n:=n) (ps:=ps) (i:=i) b8i b8i b8i (fun e=>absurd (aqy.2 e) b8j);exact f9 rfl rfl (by rw [he];exact ⟨CoC.agg ⟨CoP.refl _,aw,trivial⟩,CoC.refl _,trivial⟩)
  refine w_4 ?_;refine m9 2 ?_;refine w_9 ?_;refine cj (ka 0 (ka 4 (ka 6 (ka 7 (ka 8 (ka 9 (ka 26 (ka 27 (ka 28 (ka 40 kn)))))))))) (kb 1 (kb 900 (kb 0 km))) (fun k=>⟨[(41,some (vI k))],[(2,some (.arr true 1 3 n.toNat (lf zC (stT n i (ps.getD i default) k))))]⟩) n.toNat ⟨tt,⟨⟨_,rfl,(ae5 rfl (fun _=>rfl))⟩,trivial⟩⟩ ?_;rintro k hk;refine w_5 ?_;refine hcd (fun h5=>?_) (fun h5=>?_)
  ·
   refine b0y ?_;refine hcd (fun h6=>?_) (fun h6=>?_)
   · refine ej ?_;exact lpx (k + 1) ⟨tt,⟨⟨_,rfl,(by first | exact alo ((mb b8i).1 b8j) rfl b8i b8i | exact akp (fun e=>absurd ((mb b8i).2 e) b8j) rfl b8i)⟩,uu⟩⟩
   refine w_5 ?_;exact lpx (k + 1) ⟨tt,⟨⟨_,rfl,(by first | exact alo ((mb b8i).1 b8j) rfl b8i b8i | exact akp (fun e=>absurd ((mb b8i).2 e) b8j) rfl b8i)⟩,uu⟩⟩
  refine br ?_;refine bm 9 rfl rfl rfl ?_;refine w_4 ?_;refine m9 3 ?_;refine r9 4 true ?_;refine w_7 ?_;refine lpz (i + 1) ⟨tt,⟨u9,⟨_,rfl,(fj (fun h=>h) (fun j hj=>by obtain rfl:j = 0:=b8i;exact an4 b8i b8i))⟩,uu⟩⟩ ?_;exact ⟨by show i + 1 <= _;omega,aj hI (aqy.1 b8j)⟩
 obtain rfl:i = ps.length:=by omega
 refine w_4 ?_;refine ji rfl rfl rfl rfl rfl rfl adw ((a8f n (ak n ps) (by rw [mi];omega))) (⟨⟨CoP.refl _,congrArg (HV.ref 900) (mi _ _).symm,trivial⟩,trivial⟩) ⟨⟨_,rfl,y8 rfl (mi _ _).symm⟩,trivial⟩ rfl rfl ?_;refine w_3 ?_;refine hrr ?_;have he:=a3w (n:=n) (ps:=ps) b8i b8i (fun j hj=>hI j b8i);exact f9 rfl rfl (by rw [he];exact CoL.refl _)
end
section
def bh (n:Int):Rw:=(List.range n.toNat).map fun (i:Nat)=>(i:Int)
def t6 (n:Int):(bh n).length = n.toNat:=by unfold bh;simp
section
variable {k:Nat} {n:Int}
def aph (h:k < n.toNat):CoP (.raw (.int .i64 (k:Int))) (lf zC (bh n) k 0):=by
 refine CoP.of_eq ?_;show _ = PV.raw (.int .i64 ((bh n).getD k default));unfold bh;rw [b5c,b5s,b6d h];rfl
def a5v {i:Nat} {p:AS} (h:k < n.toNat):(stR n i p).getD k default = stV n i p k:=by
 unfold stR;rw [b5c,b5s,b6d h];rfl
def ahm {i:Nat} {p:AS} (h:k < n.toNat) (hh:bi p (k:Int) = true):CoP (.raw (.int .i64 (k:Int))) (lf zC (stR n i p) k 0):=by
 refine CoP.of_eq ?_;show _ = PV.raw (.int .i64 ((stR n i p).getD k default));rw [a5v h];unfold stV;rw [if_pos hh]
def aha {i:Nat} {p:AS} (h:k < n.toNat) (hh:bi p (k:Int) = false):CoP (.raw (.int .i64 (n + (i:Int) * n + (k:Int)))) (lf zC (stR n i p) k 0):=by
 refine CoP.of_eq ?_;show _ = PV.raw (.int .i64 ((stR n i p).getD k default));rw [a5v h];unfold stV;rw [hh,if_neg b8n]
def alp {ps:List AS} {i:Nat} (hi:i < ps.length) (hk:k = n.toNat):CoP (.sl k 1 false (lf zC (stR n i (ps.getD i default)))) (lf rC (ak n ps) i 0):=by
 show CoP _ (zl ((ak n ps).getD i default));rw [a9r hi];exact CoP.sl (by rw [a2c,hk]) (.inl rfl) (fun h=>h) fun a j ha hj=>CoP.refl _
def ajf {s:AS} (h0:0 <= n) (h1:n <= 16):sub s (b6 n) <-> s >>> n.toNat = 0:=by
 unfold b6;rw [b6p b8i];exact zh b8i
def a2p (l:List Rw) (x:Fd) (a b:Nat):Bool:=ip (l.getD a default) (l.getD b default) x.lhs && !(l.any fun r=>decide (r = d7 (l.getD a default) (l.getD b default) x.rhs))
def ac6 {a b:Rw} {s:AS} {g:Nat -> Nat -> PV} {f:Nat -> Nat -> PV} {e:TypeId} (hf:∀ i j,f i j = lf zC b i j):CoO (.arr true 1 e (0 + b.length) (d8 0 g f)) (.arr true 1 e (0 + b.length) (lf zC (ja a b s 0))):=by
 rw [<- a9s];exact ⟨fun h=>h,rfl,rfl,rfl,fun i j _ _=>CoP.of_eq (by simp [d8,hf])⟩
def ag3 {a b:Rw} {s:AS} {m:Nat} (hk:k = b.length) (hm:m = b.length):CoC (.one (.sl m 1 false (lf zC (ja a b s k)))) (pZ (d7 a b s)):=by
 subst hk;rw [acv];exact ai9 ((jb a b s).trans hm.symm)
end
end
section
open Go.Proofs
def ay9 (n:Int) (h16:n <= 16):a8 b98 51 [pI n] (ae [pZ (bh n)]):=by
 refine hpx (nt:=15) Tryz.func51 ?_;refine w_8 ?_;refine eo 3 900 true 1 3 (lf zC (bh n)) b8n rfl (CoP.sl rfl (.inr rfl) (fun h=>h) (fun i j hi _=>absurd hi (b5i i))) (.inr rfl) rfl ?_;refine w_6 ?_;refine cj (ka 0 kn) km (fun i=>⟨[(3,some (.v (.one (.ref 900 i)))),(4,some (vI i))],[(900,some (.arr true 1 3 i (lf zC (bh n))))]⟩) n.toNat kk ?_;rintro i hi;refine w_7 ?_;refine hcd (fun h0=>?_) (fun h0=>?_)
 · refine w_6 ?_;refine m9 0 ?_;refine r9 1 true ?_;refine w_7 ?_;exact lpx (i + 1) ⟨tt,⟨⟨_,rfl,(fj (fun h=>h) (fun j hj=>by obtain rfl:j = 0:=b8i;exact aph b8i))⟩,trivial⟩⟩
 refine w_2 ?_;refine bm 3 rfl rfl rfl ?_;refine v_4 ?_;exact ⟨CoC.one (CoP.sl (by rw [t6];omega) (.inl rfl) (fun h=>h) fun a j ha hj=>CoP.refl _),trivial⟩
def arn (n:Int) (ps:List AS):a8 b98 84 [pI n,pP (asl ps)] (ae [pT (ez n ps).1 (ez n ps).2.1,pI (ez n ps).2.2]):=by
 refine hpx (nt:=68) Tryz.func84 ?_;refine sx7 ?_;refine m9 0 ?_;refine w_8 ?_;refine aa rfl rfl (fun r0=>?_) (fun r0=>?_)
 ·
  have h0:=tz1 r0;(iterate 2 refine k9 (gtf r0) ?_);refine w_9 ?_;refine hrr ?_
  have he:=yi (n:=n) (ps:=ps) b8i;exact f9 rfl rfl (by rw [he];exact ⟨CoC.agg ⟨CoP.refl _,aw,trivial⟩,CoC.refl _,trivial⟩)
 have h0:=tz2 r0;(iterate 2 refine qy ?_ (hg:=(gff r0)));refine w_2 ?_;refine ag _ rfl (fun r1=>?_) (fun r1=>?_)
 · have h1:=tz1 (ab r0 r1);refine w_6 ?_;refine hrr ?_;have he:=yi (n:=n) (ps:=ps) b8i;exact f9 rfl rfl (by rw [he];exact ⟨CoC.agg ⟨CoP.refl _,aw,trivial⟩,CoC.refl _,trivial⟩)
 have h1:=tz2 (ab r0 r1);refine w_8 ?_;refine hcd (fun h2=>?_) (fun h2=>?_)
 · refine w_6 ?_;refine hrr ?_;have he:=aef (n:=n) (ps:=ps) b8i b8i;exact f9 rfl rfl (by rw [he];exact ⟨CoC.agg ⟨CoP.refl _,aw,trivial⟩,CoC.refl _,trivial⟩)
 refine w_5 ?_;refine eo 6 900 true 1 97 (lf rC (ak n ps)) b8n rfl (CoP.sl rfl (.inr rfl) (fun h=>h) (fun i j hi _=>absurd hi (b5i i))) (.inr rfl) rfl ?_;refine w_6 ?_;refine af (ι:=Nat) (ka 0 (ka 1 (ka 4 kn))) (kb 0 km) (fun i=>⟨[(6,some (.v (.one (.ref 900 i)))),(7,some (vI i))],[(900,some (.arr true 1 97 i (lf rC (ak n ps))))]⟩) (fun i=>i <= ps.length /\ ∀ j,j < i -> (ps.getD j default) >>> n.toNat = 0) (fun i=>ps.length - i) (0) (⟨b5h _,ar⟩) kk ?_;rintro i ⟨hi,hI⟩;refine w_8 ?_;refine hcd (fun h3=>?_) (fun h3=>?_)
 ·
  have hin:=ax1 (n:=n) (i:=i) b8i b8i b8i;refine ej ?_;refine qcx sa (sj n) ?_;refine qcx a6f (aaq _ _) ?_;refine w_3 ?_;refine hcv (fun h4=>?_) (fun h4=>?_)
  · refine w_6 ?_;refine hrr ?_;have he:=ad0 (n:=n) (ps:=ps) (i:=i) b8i b8i b8i (fun e=>by have:=(ajf (n:=n) b8i b8i).2 e;simp_all);exact f9 rfl rfl (by rw [he];exact ⟨CoC.agg ⟨CoP.refl _,aw,trivial⟩,CoC.refl _,trivial⟩)
  refine w_5 ?_;refine eo 8 901 true 1 3 (lf zC (stR n i (ps.getD i default))) b8n rfl (CoP.sl rfl (.inr rfl) (fun h=>h) (fun i j hi _=>absurd hi (b5i i))) (.inr rfl) rfl ?_;refine w_6 ?_;refine cj (ka 0 (ka 1 (ka 4 (ka 6 (ka 7 kn))))) (kb 900 (kb 0 km)) (fun k=>⟨[(8,some (.v (.one (.ref 901 k)))),(9,some (vI k))],[(901,some (.arr true 1 3 k (lf zC (stR n i (ps.getD i default)))))]⟩) n.toNat kk ?_;rintro k hk;refine w_7 ?_;refine hcd (fun h5=>?_) (fun h5=>?_)
  ·
   refine df ?_;refine qcx tn (a7k (ps.getD i default) (k:Int)) ?_;refine bq ?_;refine hcb (fun h6=>?_) (fun h6=>?_)
   · refine w_3 ?_;refine m9 1 ?_;refine r9 2 true ?_;refine w_7 ?_;exact lpx (k + 1) ⟨tt,⟨⟨_,rfl,(by first | exact (fj (fun h=>h) (fun j hj=>by obtain rfl:j = 0:=b8i;exact ahm b8i b8j)) | exact (fj (fun h=>h) (fun j hj=>by obtain rfl:j = 0:=b8i;exact aha b8i b8j)))⟩,uu⟩⟩
   refine w_9 ?_;refine m9 3 ?_;refine r9 4 true ?_;refine w_7 ?_;exact lpx (k + 1) ⟨tt,⟨⟨_,rfl,(by first | exact (fj (fun h=>h) (fun j hj=>by obtain rfl:j = 0:=b8i;exact ahm b8i b8j)) | exact (fj (fun h=>h) (fun j hj=>by obtain rfl:j = 0:=b8i;exact aha b8i b8j)))⟩,uu⟩⟩
  refine br ?_;refine bm 8 rfl rfl rfl ?_;refine w_3 ?_;refine m9 5 ?_;refine r9 6 true ?_;refine w_7 ?_;refine lpz (i + 1) ⟨tt,⟨⟨_,rfl,(fj (fun h=>h) (fun j hj=>by obtain rfl:j = 0:=b8i;exact alp b8i b8i))⟩,uu⟩⟩ ?_;exact ⟨by show i + 1 <= _;omega,aj hI ((ajf b8i b8i).1 (by first | assumption | exact axg b8j))⟩
 obtain rfl:i = ps.length:=by omega
 refine w_2 ?_;refine bm 6 rfl rfl rfl ?_;refine w_3 ?_;refine rc rfl rfl rfl rfl rfl rfl a7q (a3y n (ak n ps) (by rw [mi];omega)) (⟨CoC.refl _,CoC.one (CoP.sl (by rw [mi]) (.inl rfl) (fun h=>h) fun a j ha hj=>CoP.refl _),trivial⟩) rfl rfl ?_;refine w_3 ?_;refine hrr ?_;have he:=a3w (n:=n) (ps:=ps) b8i b8i (fun j hj=>hI j b8i);exact f9 rfl rfl (by rw [he];exact CoL.refl _)
end
section
def Wel (n:Int) (l:List Rw):Prop:=∀ r,r ∈ l -> r.length = n.toNat /\ ∀ z,z ∈ r -> 0 <= z
section
variable {l:List Rw}
def y9 {i:Nat} (h:i < l.length):l.getD i default ∈ l:=by
 rw [b5c,b5b h];exact b5l h
def kf {n:Int} (h:tok n l = true):Wel n l:=by
 obtain ⟨h0,h1,h2,h3⟩:=eu h;unfold tok at h;rw [b5j,decide_eq_true_iff,decide_eq_true_iff] at h;rintro r hr;obtain ⟨i,hi,rfl⟩:=b5z hr;have e:l.getD i default = l[i]:=by rw [b5c,b5b hi];rfl
 rw [<- e];refine ⟨h3 i hi,fun z hz=>?_⟩;have:=h.2 i hi;unfold lc at this;rw [b5j,b5j] at this;have h4:=this.1.2;rw [b6j,b6v] at h4;have:=h4 z hz;rw [decide_eq_true_iff] at this;omega
def ag1 {n:Int} (h:tok n l = true):k6 l:=by
 unfold tok at h;rw [b5j,decide_eq_true_iff,decide_eq_true_iff] at h
 have hs:∀ d i:Nat,i + d + 1 < l.length -> ltZ (l.getD i default) (l.getD (i + d + 1) default) = true:=by
  intro d
  induction d with
  | zero =>
   intro i hi;have:=h.2 (i + 1) hi;unfold lc at this;rw [b5j,b6r,decide_eq_true_iff] at this
   rcases this.2 with h5 | h5
   · omega
   exact h5
  | succ d ih =>
   intro i hi;have h1:=ih i b8i;have:=h.2 (i + d + 1 + 1) b8i;unfold lc at this;rw [b5j,b6r,decide_eq_true_iff] at this
   rcases this.2 with h5 | h5
   · omega
   exact gw h1 h5
 unfold k6;rw [b7d];intro i j hi hj hij;obtain ⟨d,rfl⟩:∃ d,j = i + d + 1:=⟨j - i - 1,by omega⟩;have:=hs d i hj;rwa [b5c,b5b hi,b5c,b5b hj] at this
def aks {n:Int} (h0:0 <= n) (h1:n <= 16) (h2:l.length <= 256) (hw:Wel n l) (ho:k6 l):tok n l = true:=by
 refine aj7 h0 h1 h2 fun i hi=>?_;obtain ⟨h3,h4⟩:=hw _ (y9 hi);refine a1k b8i ?_ ?_
 · rw [b6v]
   intro z hz;have:=h4 z hz;rw [decide_eq_true_iff];omega
 rcases b6m i with h | h
 · exact .inl h
 right;have:=b7d.1 ho (i - 1) i b8i hi b8i;rw [b5c,b5b b8i,b5c,b5b hi];exact this
def a0o {n:Int} (h0:0 <= n) (h1:n <= 16) (h2:(ai l).length <= 256) (hw:Wel n l):tok n (ai l) = true :=
 aks h0 h1 h2 (fun r hr=>hw r (ec.1 hr)) (er l)
def inV (l:List Rw) (M:Nat -> Nat -> Int) (z:Int):Prop:=∃ i r,i < l.length /\ r < (l.getD i default).length /\ M i r = z
def agh {z:Int}:inV l (bf l) z <-> ∃ r,r ∈ l /\ z ∈ r:=by
 constructor
 · rintro ⟨i,r,hi,hr,rfl⟩
   refine ⟨_,y9 hi, ?_⟩;show (l.getD i default).getD r default ∈ _;rw [b5c (l:=l.getD i default),b5b hr];exact b5l hr
 rintro ⟨r,hr,hz⟩;obtain ⟨i,hi,rfl⟩:=b5z hr;obtain ⟨k,hk,rfl⟩:=b5z hz;have e:l.getD i default = l[i]:=by rw [b5c,b5b hi];rfl
 refine ⟨i,k,hi,by rw [e];exact hk, ?_⟩;show (l.getD i default).getD k default = _;rw [e,b5c,b5b hk];rfl
def a51 {M:Nat -> Nat -> Int} {z:Int}:(∃ r,r ∈ d4 l M /\ z ∈ r) <-> inV l M z:=by
 constructor
 · rintro ⟨r,hr,hz⟩
   unfold d4 at hr;rw [b5w] at hr;obtain ⟨i,hi,rfl⟩:=hr;rw [b5w] at hz;obtain ⟨k,hk,rfl⟩:=hz;exact ⟨i,k,b5r.1 hi,b5r.1 hk,rfl⟩
 rintro ⟨i,k,hi,hk,rfl⟩;refine ⟨(List.range (l.getD i default).length).map (M i), ?_,b5w.2 ⟨k,b5r.2 hk,rfl⟩⟩;unfold d4;exact b5w.2 ⟨i,b5r.2 hi,rfl⟩
end
section
variable {l:List Rw} {a b:Nat} (ha:a < l.length) (hb:b < l.length)
def aj2 (x y:Int):loI x y = x \/ loI x y = y:=by unfold loI;split <;> simp
def aqx (x y:Int):hiI x y = x \/ hiI x y = y:=by unfold hiI;split <;> simp
include ha hb in
def b07 {M:Nat -> Nat -> Int} {j:Nat} (hja:j < (l.getD a default).length) (hjb:j < (l.getD b default).length) {z:Int} (h:inV l (eqM M a b j) z):inV l M z:=by
 obtain ⟨i,r,hi,hr,he⟩:=h;unfold eqM at he;split at he
 · rcases aj2 (M a j) (M b j) with h | h
   · exact ⟨a,j,ha,hja,by rw [<- he,h]⟩
   exact ⟨b,j,hb,hjb,by rw [<- he,h]⟩
 exact ⟨i,r,hi,hr,he⟩
include ha hb in
def aeh:∀ {js:List Nat} {M:Nat -> Nat -> Int},(∀ j,j ∈ js -> j < (l.getD a default).length /\ j < (l.getD b default).length) -> ∀ {z:Int},inV l (eqMs M a b js) z -> inV l M z
 | [],_,_,_,h=>h
 | j :: js,M,hj,z,h=>b07 ha hb (hj j b8l).1 (hj j b8l).2 (aeh (js:=js) (M:=eqM M a b j) (fun k hk=>hj k (by simp [hk])) h)
include ha hb in
def a9e:∀ {js:List Nat} {M:Nat -> Nat -> Int},(∀ j,j ∈ js -> j < (l.getD a default).length /\ j < (l.getD b default).length) -> (∃ j,j ∈ js /\ ¬ M a j = M b j) -> ∃ z,inV l M z /\ ¬ inV l (eqMs M a b js) z
 | [],_,_,⟨_,h,_⟩=>by simp at h
 | j :: js,M,hj,⟨k,hk,hne⟩=>by
  by_cases e:M a j = M b j
  · have e2:eqMs M a b (j :: js) = eqMs M a b js:=by
     show eqMs (eqM M a b j) a b js = _;rw [qk e]
    rw [e2];refine a9e (fun k hk=>hj k (by simp [hk])) ⟨k, ?_,hne⟩
    rcases b5k.1 hk with h | h
    · subst h;exact absurd e hne
    exact h
  refine ⟨hiI (M a j) (M b j), ?_,fun h=>?_⟩
  · rcases aqx (M a j) (M b j) with h | h
    · exact ⟨a,j,ha,(hj j b8l).1,h.symm⟩
    exact ⟨b,j,hb,(hj j b8l).2,h.symm⟩
  obtain ⟨i,r,hi,hr,he⟩:=aeh ha hb (fun k hk=>hj k (by simp [hk])) (show inV l (eqMs (eqM M a b j) a b js) _ from h);unfold eqM at he;split at he
  · unfold hiI loI at he
    split at he <;> split at he <;> omega
  rename_i h2;exact h2 he
end
def a7b (Z:List Int) (l:List Rw):Nat:=Z.countP fun z=>l.any fun r=>decide (z ∈ r)
def muC (Z:List Int) (l:List Rw):Nat:=a7b Z l * 300 + (300 - l.length)
def Cov (Z:List Int) (l:List Rw):Prop:=∀ r,r ∈ l -> ∀ z,z ∈ r -> z ∈ Z
def tv {l:List Rw} {z:Int}:(l.any fun r=>decide (z ∈ r)) = true <-> ∃ r,r ∈ l /\ z ∈ r:=by
 rw [b6c];exact ⟨fun ⟨r,h,h2⟩=>⟨r,h,of_decide_eq_true h2⟩,fun ⟨r,h,h2⟩=>⟨r,h,decide_eq_true h2⟩⟩
def countP_lt' {p q:Int -> Bool}:∀ {Z:List Int},(∀ z,p z = true -> q z = true) -> (∃ z,z ∈ Z /\ q z = true /\ p z = false) -> Z.countP p < Z.countP q
 | [],_,⟨_,h,_⟩=>by simp at h
 | x :: Z,h,⟨z,hz,hq,hp⟩=>by
  have hm:Z.countP p <= Z.countP q:=List.countP_mono_left fun z _=>h z;rw [b7j,b7j]
  rcases b5k.1 hz with rfl | hz
  · rw [hq,hp]
    simp only [if_true,b88,if_false];omega
  have:=countP_lt' (Z:=Z) h ⟨z,hz,hq,hp⟩;by_cases e:p x = true
  · rw [e,h x e];omega
  rw [if_neg e];omega
def as4 {Z:List Int} {l l':List Rw} (h:∀ z,(∃ r,r ∈ l' /\ z ∈ r) -> ∃ r,r ∈ l /\ z ∈ r) (h2:∃ z,z ∈ Z /\ (∃ r,r ∈ l /\ z ∈ r) /\ ¬ ∃ r,r ∈ l' /\ z ∈ r):a7b Z l' < a7b Z l:=by
 refine countP_lt' (fun z hz=>tv.2 (h z (tv.1 hz))) ?_;obtain ⟨z,h3,h4,h5⟩:=h2;exact ⟨z,h3,tv.2 h4,by rw [b5m];exact fun e=>h5 (tv.1 e)⟩
def aui {Z:List Int} {l l':List Rw} (h:∀ z,(∃ r,r ∈ l' /\ z ∈ r) -> ∃ r,r ∈ l /\ z ∈ r):a7b Z l' <= a7b Z l :=
 List.countP_mono_left fun z _ hz=>tv.2 (h z (tv.1 hz))
end
section
def acr {r:Rw}:∀ {l:List Rw},r ∉ l -> (gq r l).length = l.length + 1
 | [],_=>rfl
 | y :: l,h=>by
  unfold gq;have h1:¬ r = y:=fun e=>h (by rw [e];simp);have h2:=acr (l:=l) (r:=r) fun e=>h (by simp [e]);rw [if_neg h1];split
  · simp
  simp only [b6k];omega
def al2 {l:List Rw} {r:Rw} (ho:k6 l):ai (l ++ [r]) = gq r l:=by
 have e:l = ai l:=abq ho fun _=>Iff.rfl
 have:ai (l ++ [r]) = gq r (ai l):=by
  unfold ai;rw [b7p];rfl
 rw [this,<- e]
section
variable {n:Int} {l:List Rw} {a b:Nat} {x:Fd}
abbrev fdL (l:List Rw) (a b:Nat) (x:Fd):List Rw:=ai (d4 l (eqMs (bf l) a b (b7 x.rhs)))
def ai7 (hT:tok n l = true) (hu:inU n x = true) (ha:a < l.length) (hb:b < l.length) (hs:dm l x a b = true) :
 fdE n l a b x = (n,fdL l a b x,0) /\ tok n (fdL l a b x) = true /\ (∀ z,(∃ r,r ∈ fdL l a b x /\ z ∈ r) -> ∃ r,r ∈ l /\ z ∈ r) /\ ∀ Z,Cov Z l -> muC Z (fdL l a b x) < muC Z l:=by
 obtain ⟨h0,h1,h2,h3⟩:=eu hT;have hw:=kf hT;unfold dm at hs;rw [b5j,b6j] at hs;obtain ⟨hl,hr⟩:=hs
 have hj:∀ j,j ∈ b7 x.rhs -> j < (l.getD a default).length /\ j < (l.getD b default).length:=fun j hj=>by
  have:=a2d h0 h1 hu hj;exact ⟨by rw [h3 a ha];exact this,by rw [h3 b hb];exact this⟩
 have hV:∀ z,(∃ r,r ∈ fdL l a b x /\ z ∈ r) -> ∃ r,r ∈ l /\ z ∈ r:=fun z ⟨r,hr,hz⟩=>agh.1 (aeh ha hb hj (a51.1 ⟨r,ec.1 hr,hz⟩));have hlen:(fdL l a b x).length <= l.length:=b6i (w9 _) (b81 (j3 _ _));refine ⟨if_pos hl,a0o h0 h1 (b6i hlen h2) (fun r hr=>⟨?_,fun z hz=>?_⟩),hV,fun Z hZ=>?_⟩
 · unfold d4 at hr
   rw [b5w] at hr;obtain ⟨i,hi,rfl⟩:=hr;rw [b64,b8e];exact h3 i (b5r.1 hi)
 · obtain ⟨r2,h5,h6⟩:=hV z ⟨r,ec.2 hr,hz⟩
   exact (hw r2 h5).2 z h6
 have hne:∃ j,j ∈ b7 x.rhs /\ ¬ bf l a j = bf l b j:=by
  apply Classical.byContradiction;intro hno;rw [xh] at hr
  · cases hr
  intro i hi hh;apply Classical.byContradiction;intro e
  have hi2:i < 32:=by
   have:=h3 a ha;omega
  rw [ef hi2] at hh;exact hno ⟨i,vn.2 ⟨hi2,hh⟩,e⟩
 obtain ⟨z,hz1,hz2⟩:=a9e ha hb hj hne;have hz3:=agh.1 hz1;have:=as4 (Z:=Z) hV ⟨z,by obtain ⟨r,h7,h8⟩:=hz3;exact hZ r h7 z h8,hz3,fun ⟨r,h7,h8⟩=>hz2 (a51.1 ⟨r,ec.1 h7,h8⟩)⟩;unfold muC;omega
abbrev mvL (l:List Rw) (a b:Nat) (x:Fd):List Rw:=ai (l ++ [d7 (l.getD a default) (l.getD b default) (x.lhs ||| x.rhs)])
def b03 (hT:tok n l = true) (ha:a < l.length) (hb:b < l.length) (hs:dt l x a b = true) :
 mvE n l a b x = (0,[],3) \/ (mvE n l a b x = (n,mvL l a b x,0) /\ tok n (mvL l a b x) = true /\ (∀ z,(∃ r,r ∈ mvL l a b x /\ z ∈ r) -> ∃ r,r ∈ l /\ z ∈ r) /\ ∀ Z,Cov Z l -> muC Z (mvL l a b x) < muC Z l):=by
 obtain ⟨h0,h1,h2,h3⟩:=eu hT;have hw:=kf hT;unfold dt at hs;rw [b5j,b6j] at hs;obtain ⟨hl,hr⟩:=hs;have hno:=agc hr;have hE:mvE n l a b x = pj n l (d7 (l.getD a default) (l.getD b default) (x.lhs ||| x.rhs)):=if_pos hl;by_cases hbig:256 < (mvL l a b x).length
 · left
   rw [hE];exact if_pos hbig
 right
 have hmem:∀ z,z ∈ d7 (l.getD a default) (l.getD b default) (x.lhs ||| x.rhs) -> z ∈ l.getD a default \/ z ∈ l.getD b default:=fun z hz=>by
  unfold d7 at hz;rw [b5w] at hz;obtain ⟨i,hi,rfl⟩:=hz;have hi:=b5r.1 hi;have hi2:i < (l.getD a default).length:=by rw [h3 a ha,<- h3 b hb];exact hi
  split
  · left
    rw [b5c (l:=l.getD a default),b5b hi2];exact b5l hi2
  right;rw [b5c (l:=l.getD b default),b5b hi];exact b5l hi
 have hV:∀ z,(∃ r,r ∈ mvL l a b x /\ z ∈ r) -> ∃ r,r ∈ l /\ z ∈ r:=fun z ⟨r,hr,hz⟩=>by
  rcases b60.1 (ec.1 hr) with h | h
  · exact ⟨r,h,hz⟩
  rw [b61] at h;subst h
  rcases hmem z hz with h | h
  · exact ⟨_,y9 ha,h⟩
  exact ⟨_,y9 hb,h⟩
 refine ⟨by rw [hE];exact if_neg hbig,a0o h0 h1 (Nat.le_of_not_lt fun e=>hbig e) (fun r hr=>⟨?_,fun z hz=>?_⟩),hV,fun Z hZ=>?_⟩
 · rcases b60.1 hr with h | h
   · exact (hw r h).1
   rw [b61] at h;subst h;rw [jb];exact h3 b hb
 · obtain ⟨r2,h5,h6⟩:=hV z ⟨r,ec.2 hr,hz⟩
   exact (hw r2 h5).2 z h6
 have e:(mvL l a b x).length = l.length + 1:=by
  show (ai _).length = _;rw [al2 (ag1 hT),acr hno]
 have:=aui (Z:=Z) hV;unfold muC;omega
end
def ami {α:Type} {f:Nat -> Option α}:∀ {n:Nat} {x:α},(List.range n).findSome? f = some x -> ∃ k,k < n /\ f k = some x:=fun {n x} h=>by
 obtain ⟨k,hk,e⟩:=b85 h;exact ⟨k,b5r.1 hk,e⟩
def yp {P:Nat -> Nat -> Nat -> Bool} {I L i a b:Nat} (h:eg P I L = some (i,a,b)):i < I /\ a < L /\ b < L /\ P i a b = true:=by
 obtain ⟨i',hi,h⟩:=ami h;obtain ⟨a',ha,h⟩:=ami h;rw [Option.map_eq_some_iff] at h;obtain ⟨b',hb,e⟩:=h;simp only [b5f] at e;obtain ⟨rfl,rfl,rfl⟩:=e;exact ⟨hi,ha,b5r.1 (List.mem_of_find?_eq_some hb),by simpa using List.find?_some hb⟩
def sv (l:List Rw) (p m:List Fd) (s:St):Prop:=s.2.2.1 < l.length /\ s.2.2.2 < l.length /\ ((s.1 = false /\ s.2.1 < p.length /\ dm l (p.getD s.2.1 default) s.2.2.1 s.2.2.2 = true) \/ (s.1 = true /\ s.2.1 < m.length /\ dt l (m.getD s.2.1 default) s.2.2.1 s.2.2.2 = true))
section
variable {l:List Rw} {m p:List Fd}
def a1t {s:St} (h:dc l p m = some s):sv l p m s:=by
 unfold dc at h;split at h
 · rename_i x e
   simp only [b5a] at h;subst h;obtain ⟨i,a,b⟩:=x;obtain ⟨h1,h2,h3,h4⟩:=yp e;exact ⟨h2,h3, .inl ⟨rfl,h1,h4⟩⟩
 rw [Option.map_eq_some_iff] at h;obtain ⟨⟨i,a,b⟩,e,rfl⟩:=h;obtain ⟨h1,h2,h3,h4⟩:=yp e;exact ⟨h2,h3, .inr ⟨rfl,h1,h4⟩⟩
def ci (n:Int) (l:List Rw) (p m:List Fd) (s:St):Int × List Rw × Int:=if s.1 = true then mvE n l s.2.2.1 s.2.2.2 (m.getD s.2.1 default) else fdE n l s.2.2.1 s.2.2.2 (p.getD s.2.1 default)
def adg {n:Int} {s:St} (hT:tok n l = true) (hp:p.all (inU n) = true) (h:sv l p m s):
 ci n l p m s = (0,[],3) \/ ∃ l',ci n l p m s = (n,l',0) /\ tok n l' = true /\ (∀ Z,Cov Z l -> Cov Z l' /\ muC Z l' < muC Z l):=by
 obtain ⟨ha,hb,h | h⟩:=h
 · obtain ⟨h1,h2,h3⟩:=h
   have hu:inU n (p.getD s.2.1 default) = true:=b5u.1 hp _ (by rw [b5c,b5b h2];exact b5l h2);obtain ⟨e,h4,h5,h6⟩:=ai7 hT hu ha hb h3;exact .inr ⟨_,by unfold ci;rw [if_neg (by rw [h1];decide)];exact e,h4,fun Z hZ=>⟨fun r hr z hz=>by obtain ⟨r2,h7,h8⟩:=h5 z ⟨r,hr,hz⟩;exact hZ r2 h7 z h8,h6 Z hZ⟩⟩
 obtain ⟨h1,h2,h3⟩:=h
 rcases b03 hT ha hb h3 with e | ⟨e,h4,h5,h6⟩
 · exact .inl (by unfold ci;rw [if_pos h1];exact e)
 exact .inr ⟨_,by unfold ci;rw [if_pos h1];exact e,h4,fun Z hZ=>⟨fun r hr z hz=>by obtain ⟨r2,h7,h8⟩:=h5 z ⟨r,hr,hz⟩;exact hZ r2 h7 z h8,h6 Z hZ⟩⟩
def fv:Nat -> Int -> List Rw -> List Fd -> List Fd -> List St -> List St × (Int × List Rw) × Int
 | 0,_,_,_,_,_=>([],(0,[]),0)
 | f + 1,n,l,p,m,acc =>
  match dc l p m with
  | none=>(acc,(n,l),0)
  | some s=>match ci n l p m s with
   | (n',l',e)=>if e = 0 then fv f n' l' p m (acc ++ [s]) else ([],(0,[]),e)
variable {acc:List St}
def a5q {f:Nat} {n:Int} (hf:0 < f) (h:dc l p m = none):fv f n l p m acc = (acc,(n,l),0):=by
 obtain ⟨g,rfl⟩:∃ g,f = g + 1:=⟨f - 1,by omega⟩;unfold fv;rw [h]
def a5z {f:Nat} {n:Int} {s:St} (hf:0 < f) (h:dc l p m = some s) {n' e:Int} {l':List Rw} (h2:ci n l p m s = (n',l',e)) (he:¬ e = 0):fv f n l p m acc = ([],(0,[]),e):=by
 obtain ⟨g,rfl⟩:∃ g,f = g + 1:=⟨f - 1,by omega⟩;unfold fv;rw [h];simp only;rw [h2];simp only;rw [if_neg he]
def xa {f:Nat} {n:Int} {s:St} (hf:0 < f) (h:dc l p m = some s) {n':Int} {l':List Rw} (h2:ci n l p m s = (n',l',0)):fv f n l p m acc = fv (f - 1) n' l' p m (acc ++ [s]):=by
 obtain ⟨g,rfl⟩:∃ g,f = g + 1:=⟨f - 1,by omega⟩;rw [Nat.add_sub_cancel]
 conv=>lhs;unfold fv
 rw [h];simp only;rw [h2];simp only;rw [if_pos trivial]
end
end
section
open Go.Proofs
def avz (n:Int) (l:List Rw) (p m:List Fd) (s:St) (hT:tok n l = true) (hp:p.all (inU n) = true) (h:sv l p m s) :
 a8 b98 91 [pT n l,pP (fdl p),pP (fdl m),s.pc] (ae [pT (ci n l p m s).1 (ci n l p m s).2.1,pI (ci n l p m s).2.2]):=by
 obtain ⟨mu,i,a,b⟩:=s;obtain ⟨ha,hb,h | h⟩:=h
 · obtain ⟨h1,h2,h3⟩:=h
   cases h1;exact ag6 n l p m i a b hT ha hb h2 (b5u.1 hp _ (by rw [b5c,b5b h2];exact b5l h2))
 obtain ⟨h1,h2,h3⟩:=h;cases h1;exact ah3 n l p m i a b hT ha hb h2
abbrev St.c (s:St):Nat -> PV:=fun j=>[.raw (.bool s.1), .raw (.int .i64 (s.2.1:Int)), .raw (.int .i64 (s.2.2.1:Int)), .raw (.int .i64 (s.2.2.2:Int))].getD j .any
abbrev stl (l:List St):PV:=psl 4 St.c l
abbrev ckE (n:Int) (l:List Rw) (p m:List Fd):Int:=if tok n l = true then bw n p m else 1
section
variable {l:List Rw} {m p:List Fd} {n:Int}
def a72 (h:ckE n l p m = 0):tok n l = true /\ bw n p m = 0 /\ p.all (inU n) = true:=by
 unfold ckE at h;by_cases e:tok n l = true
 · rw [if_pos e] at h
   exact ⟨e,h,(oj h).2.2.2.1⟩
 rw [if_neg e] at h;omega
def gc (F:Nat) (n:Int) (l:List Rw) (p m:List Fd):List St × (Int × List Rw) × Int:=if ckE n l p m = 0 then fv F n l p m [] else ([],(0,[]),ckE n l p m)
variable {F:Nat}
def a42 (h:¬ ckE n l p m = 0):gc F n l p m = ([],(0,[]),ckE n l p m):=if_neg h
def qe (h:ckE n l p m = 0):gc F n l p m = fv F n l p m []:=if_pos h
def ahd {α:Type} {o:Option α} (h:o.isSome = false):o = none:=by cases o <;> simp_all
def agu {α:Type} {o:Option α} (d:α) (h:o.isSome = true):o = some (o.getD d):=by cases o <;> simp_all
def adj (l:List Rw):Cov l.flatten l:=fun r hr z hz=>List.mem_flatten.2 ⟨r,hr,hz⟩
structure StI (F:Nat) (n:Int) (l:List Rw) (p m:List Fd) (x:Nat × List Rw × List St):Prop where
 t:tok n x.2.1 = true
 c:Cov l.flatten x.2.1
 u:muC l.flatten x.2.1 < x.1
 b:x.2.2.length + x.1 <= F
 e:fv x.1 n x.2.1 p m x.2.2 = fv F n l p m []
theorem StI.start (hT:tok n l = true) (hF:muC l.flatten l < F):StI F n l p m (F,l,[]):=⟨hT,adj l,hF,by simp,rfl⟩
variable {x:Nat × List Rw × List St}
theorem StI.next {s:St} (h:StI F n l p m x) (hp:p.all (inU n) = true) (hS:dc x.2.1 p m = some s) (he:(ci n x.2.1 p m s).2.2 = 0):
 (ci n x.2.1 p m s).1 = n /\ StI F n l p m (x.1 - 1,(ci n x.2.1 p m s).2.1,x.2.2 ++ [s]):=by
 have hu:=h.u;have hb:=h.b
 rcases adg h.t hp (a1t hS) with e | ⟨l',e,h1,h2⟩
 · rw [e] at he;exact absurd he b8n
 have hq:=h2 _ h.c;refine ⟨by rw [e], ?_⟩;rw [e];exact ⟨h1,hq.1,by show muC _ l' < _;omega,by simp only [b5x,b6w];omega,by rw [<- h.e,xa b8i hS e]⟩
theorem StI.fin (h:StI F n l p m x) (hS:dc x.2.1 p m = none):fv F n l p m [] = (x.2.2,(n,x.2.1),0):=by
 have hu:=h.u;rw [<- h.e,a5q b8i hS]
theorem StI.err {s:St} (h:StI F n l p m x) (hS:dc x.2.1 p m = some s) (he:¬ (ci n x.2.1 p m s).2.2 = 0):fv F n l p m [] = ([],(0,[]),(ci n x.2.1 p m s).2.2):=by
 have hu:=h.u;rw [<- h.e];exact a5z b8i hS rfl he
end
end
section
open Go.Proofs
def ayj (F:Nat) (n:Int) (l:List Rw) (p m:List Fd) (hF:tok n l = true -> muC l.flatten l < F) (hFb:F <= 4000000000):a8 b98 86 [pT n l,pP (fdl p),pP (fdl m)] (ae [pP (stl (gc F n l p m).1),pT (gc F n l p m).2.1.1 (gc F n l p m).2.1.2,pI (gc F n l p m).2.2]):=by
 refine hpx (nt:=53) Tryz.func86 ?_;refine sx7 ?_;refine m9 0 ?_;refine qy ?_;refine m9 1 ?_;refine w_8 ?_;refine qcx ad5 (a3s n l p m) ?_;refine w_7 ?_;refine hcn (fun h0=>?_) (fun h0=>?_)
 · refine w_8 ?_;refine hrr ?_;have he:=a42 (F:=F) (n:=n) (l:=l) (p:=p) (m:=m) b8j;exact f9 rfl rfl (by rw [he];exact ⟨CoC.one (CoP.sl rfl (.inr rfl) (fun _=>rfl) (fun i j hi _=>absurd hi (b5i i))),CoC.agg ⟨CoP.refl _,aw,trivial⟩,CoC.refl _,trivial⟩)
 have hck:ckE n l p m = 0:=by assumption
 obtain ⟨hT,hbe,hpa⟩:=a72 hck;obtain ⟨hn0,hn16,hl256,hrow⟩:=eu hT;have hbig:∀ i,i < l.length -> (l.getD i default).length <= 17592186044416:=fun i hi=>by rw [hrow i hi];omega
 refine w_4 ?_;refine qcx a7w (api n l hbig b8i) ?_;refine w_6 ?_;refine eo 10 900 true 4 85 (lf St.c []) b8n rfl (CoP.sl rfl (.inr rfl) (fun h=>h) (fun i j hi _=>absurd hi (b5i i))) (.inr rfl) rfl ?_;refine a4b ?_;refine af (ι:=Nat × List Rw × List St) (ka 1 (ka 2 (ka 3 (ka 7 kn)))) (kb 1 km) (fun x=>⟨[(10,some (.v (.one (.ref 900 x.2.2.length))))],[(0,some (.box [.p (.raw (.int .i64 n)), .p (rl x.2.1)])),(900,some (.arr true 4 85 x.2.2.length (lf St.c x.2.2)))]⟩) (fun x=>StI F n l p m x) (fun x=>x.1) ((F,l,[])) (StI.start hT (hF hT)) kk ?_;rintro x hX;have hXu:=hX.u;have hXb:=hX.b;refine w_6 ?_;refine qcx (wgx Tryz.func126) (ay2 n x.2.1 p m hX.t) ?_;refine w_3 ?_;refine m9 2 ?_;refine w_9 ?_;refine hcv (fun h1=>?_) (fun h1=>?_)
 · have hS:=ahd (by simpa using h1);refine w_9 ?_;refine bm 6 rfl rfl rfl ?_;refine hrr ?_;have he:=(qe hck).trans (hX.fin hS);exact f9 rfl rfl (by rw [he];exact CoL.refl _)
 have hS:=agu (false,0,0,0) (by simpa using h1);refine w_7 ?_;refine qcx ae4 (avz n x.2.1 p m ((dc x.2.1 p m).getD (false,0,0,0)) hX.t hpa (a1t hS)) ?_;refine w_3 ?_;refine m9 3 ?_;refine w_9 ?_;refine hcn (fun h2=>?_) (fun h2=>?_)
 · refine w_8 ?_;refine hrr ?_;have he:=(qe hck).trans (hX.err hS b8j);exact f9 rfl rfl (by rw [he];exact ⟨CoC.one (CoP.sl rfl (.inr rfl) (fun _=>rfl) (fun i j hi _=>absurd hi (b5i i))),CoC.agg ⟨CoP.refl _,aw,trivial⟩,CoC.refl _,trivial⟩)
 have hnx:=hX.next hpa hS b8j
 refine w_4 ?_;refine m9 4 ?_;refine r9 5 true ?_;refine w_5 ?_;refine ⟨(x.1 - 1,(ci n x.2.1 p m ((dc x.2.1 p m).getD (false,0,0,0))).2.1,x.2.2 ++ [((dc x.2.1 p m).getD (false,0,0,0))]), ?_, ?_, ?_⟩
 · exact hnx.2
 · show x.1 - 1 < x.1
   omega
 exact ⟨⟨⟨_,rfl,(j0 rfl)⟩,tt⟩,⟨⟨_,rfl,⟨CoP.of_eq (by rw [hnx.1]),CoH.refl _,trivial⟩⟩,⟨_,rfl,(qp rfl (fun j hj=>by match j,hj with | 0,_=>exact CoP.refl _ | 1,_=>exact CoP.refl _ | 2,_=>exact CoP.refl _ | 3,_=>exact CoP.refl _) rfl)⟩,uu⟩⟩
end
section
def ad7:∀ {l:List Rw},(∀ r,r ∈ l -> r.length <= 16) -> l.flatten.length <= 16 * l.length
 | [],_=>by simp
 | r :: l,h=>by
  have h1:=h r b8l;have h2:=ad7 (l:=l) fun r hr=>h r (by simp [hr]);simp only [List.flatten_cons,b5x,b6k];omega
abbrev FU:Nat:=1300000
def adn {n:Int} {l:List Rw} (h:tok n l = true):muC l.flatten l < FU:=by
 obtain ⟨h0,h1,h2,h3⟩:=eu h;have h4:=ad7 (l:=l) fun r hr=>by have:=(kf h r hr).1;omega
 have h5:a7b l.flatten l <= l.flatten.length:=List.countP_le_length;unfold muC;show _ < 1300000;omega
def ay4 {n:Int} {i:Nat} {p:AS} {k a N:Nat} (h:bi p (k:Int) = true) (hN:N = n.toNat) (ha:a = k) :
 CoO (.arr true 1 3 N (ew (lf zC (stT n i p k)) a 0 [.raw (.int .i64 (k:Int))])) (.arr true 1 3 N (lf zC (stT n i p (k + 1)))):=by
 subst ha;refine ⟨fun h=>h,rfl,rfl,rfl,fun c j hc hj=>CoP.of_eq ?_⟩;obtain rfl:j = 0:=by omega
 show _ = PV.raw (.int .i64 ((stT n i p (a + 1)).getD c default));rw [a4g c b8i];unfold ew;by_cases e:c = a
 · rw [if_pos ⟨e,by omega,by simp⟩,if_pos e]
   unfold stV;rw [if_pos h];rfl
 rw [if_neg (fun x=>e x.1),if_neg e];rfl
def an0 {k:Nat} (h:k < 32):bi (jm 32) (k:Int) = true:=by
 rw [ef h,oh 32 k h];exact decide_eq_true h
def am4 {n:Int} {k:Nat} (h1:n <= 16) (hk:n.toNat <= k):stT n 0 (jm 32) k = bh n:=by
 rw [ahe _ _ _ hk];unfold stR bh;refine b76 fun c hc=>?_;have:=b5r.1 hc;unfold stV;rw [if_pos (an0 b8i)]
def al0 {n:Int} {k:Nat} (h1:n <= 16) (hk:n.toNat <= k):CoC (.one (.sl n.toNat 1 false (lf zC (stT n 0 (jm 32) k)))) (pZ (bh n)):=by
 rw [am4 h1 hk];exact ai9 (t6 n)
abbrev vm (n:Int) (x:Fd):List AS:=[x.lhs ||| x.rhs,x.lhs ||| (b6 n &&& ~~~x.rhs)]
def b3o (n:Int) (p m:List Fd) (x:Fd):Bool × Int :=
 if bw n p m = 0 then
  if inU n x = true then
   if (ez n (vm n x)).2.2 = 0 then
    if (gc FU (ez n (vm n x)).1 (ez n (vm n x)).2.1 p m).2.2 = 0 then ((gc FU (ez n (vm n x)).1 (ez n (vm n x)).2.1 p m).2.1.2.any (fun r=>decide (r = bh n)),0)
    else (false,(gc FU (ez n (vm n x)).1 (ez n (vm n x)).2.1 p m).2.2)
   else (false,(ez n (vm n x)).2.2)
  else (false,1)
 else (false,bw n p m)
end
section
def axl {r:Rw} {g f:Nat -> Nat -> PV} (hf:∀ i j,f i j = lf zC r i j):CoP (.sl (0 + r.length) 1 false (d8 0 g f)) (zl r) :=
 CoP.sl (b5q _).symm (.inl rfl) (fun h=>h) fun i j hi hj=>CoP.of_eq (by simp [d8,hf])
def aj3 {l:List Rw} {i k:Nat} {g f:Nat -> Nat -> PV} {e et:TypeId} (hk:k = (l.getD i default).length) (hf:∀ a b,f a b = lf zC (l.getD i default) a b) :
 CoO (.nest e et 1 (i + 1) (nc (nM l) i k) (ph (mg (bf l)) i (d8 0 g f)) none) (.nest e et 1 (i + 1) (nM l) (mg (bf l)) none):=by
 have e:d8 0 g f = lf zC (l.getD i default):=by funext a b;simp [d8,hf]
 rw [e];exact aa6 hk rfl
end
section
open Go.Proofs
def a7r:goodFn b98 133:=wgx Tryz.func133
def ac2 (l:List Rw) (hl:∀ i,i < l.length -> (l.getD i default).length <= 17592186044416) (hl2:l.length <= 5864062014805):cq b98 133 [.one (.p (rl l))] [] (.v (.one (.ref 901 l.length))) [(901, .arr true 1 97 l.length (lf rC l))] []:=by
 refine hfx (nt:=21) Tryz.func133 ?_;refine cu ?_;refine bv 0 rfl fun hn=>?_;refine w_7 ?_;refine eo 3 901 true 1 97 (lf rC l) b8n rfl (CoP.sl rfl (.inr rfl) (fun h=>h) (fun i j hi _=>absurd hi (b5i i))) (.inr rfl) rfl ?_;refine w_6 ?_;refine cj (ka 0 kn) km (fun i=>⟨[(3,some (.v (.one (.ref 901 i)))),(4,some (vI i))],[(901,some (.arr true 1 97 i (lf rC l)))]⟩) l.length kk ?_;rintro i hi;refine w_8 ?_;refine hcd (fun h0=>?_) (fun h0=>?_)
 · have hli:=hl i b8i;refine w_3 ?_;refine ais [0,1,2,3,4,5,6] [7,8,9] rfl ?_;refine amn (E:=rh) s8 ?_;refine qy ?_;refine m9 0 ?_;refine w_4 ?_;refine r9 1 true ?_;refine bq ?_;refine azw ?_;refine alh 17 rfl rfl rfl ?_;refine asq ?_;refine amn (E:=rh) (L1:=[7,8,9]) (L2:=[]) s8 ?_;refine m9 2 ?_;refine r9 3 true ?_;refine w_2 ?_;refine azd ?_;refine w_5 ?_;exact lpx (i + 1) ⟨tt,⟨⟨_,rfl,(fj (fun h=>h) (fun j hj=>by obtain rfl:j = 0:=b8i;exact axl (fun _ _=>rfl)))⟩,trivial⟩⟩
 obtain rfl:i = l.length:=by omega
 refine w_6 ?_;refine hrr ?_;exact ⟨_,_,rfl,b8k,CoR.refl _,uu⟩
def akl (l:List Rw) (hl:∀ i,i < l.length -> (l.getD i default).length <= 17592186044416) (hl2:l.length <= 5864062014805):cq b98 133 [.one (.p (rl l))] [] (.v (.one (.ref 901 l.length))) [(901, .nest 97 3 1 l.length (nM l) (mg (bf l)) none)] []:=by
 refine hfx (nt:=21) Tryz.func133 ?_;refine cu ?_;refine bv 0 rfl fun hn=>?_;refine w_7 ?_;refine alg 3 901 97 3 1 (nM l) (mg (bf l)) b8n rfl rfl ?_;refine w_6 ?_;refine cj (ka 0 kn) km (fun i=>⟨[(3,some (.v (.one (.ref 901 i)))),(4,some (vI i))],[(901,some (.nest 97 3 1 i (nM l) (mg (bf l)) none))]⟩) l.length kk ?_;rintro i hi;refine w_8 ?_;refine hcd (fun h0=>?_) (fun h0=>?_)
 · have hli:=hl i b8i;refine w_5 ?_;refine m9 0 ?_;refine w_4 ?_;refine r9 1 true ?_;refine m9 2 ?_;refine r9 3 true ?_;refine w_2 ?_;refine aa3 901 0 rfl rfl ?_;refine w_5 ?_;exact lpx (i + 1) ⟨tt,⟨⟨_,rfl,(aj3 (b5q _) (fun _ _=>rfl))⟩,trivial⟩⟩
 obtain rfl:i = l.length:=by omega
 refine w_6 ?_;refine hrr ?_;exact ⟨_,_,rfl,b8k,CoR.refl _,uu⟩
end
section
def amo {s:AS} {n:Nat} (hn:n <= 32) (h:∀ j,j ∈ b7 s -> j < n):f3 s n = b7 s:=by
 have h2:∀ d,n + d <= 32 -> f3 s (n + d) = f3 s n:=by
  intro d
  induction d with
  | zero=>intro _;rfl
  | succ d ih =>
   intro hd
   have hf:bi s ((n + d:Nat):Int) = false:=by
    rw [ef b8i,b5m];intro e;have:=h _ (vn.2 ⟨by omega,e⟩);omega
   rw [<- ih b8i];exact a21 (i:=n + d) (show n + d < 32 by omega) hf
 have:=h2 (32 - n) b8i;rw [<- this,show n + (32 - n) = 32 by omega];rfl
def oe {M:Nat -> Nat -> Int} {a b j:Nat} {js:List Nat}:eqMs M a b (js ++ [j]) = eqM (eqMs M a b js) a b j:=by
 unfold eqMs;rw [b7p];rfl
def aod {l:List Rw} {M:Nat -> Nat -> Int} {n:Nat} (hn:n = l.length):CoP (.sl n 1 false (w7 1 (nM l) (mg M))) (rl (d4 l M)):=by
 obtain ⟨_,_,_,h1,h2⟩:=ag5 (l:=l) (M:=M) (e:=25) hn;exact CoP.sl h1 (.inl rfl) (fun h=>h) h2
end
end Go.Hx

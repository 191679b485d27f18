/- A part of the proof: X12 Ch9 X13 Ch10 X14 Ch11 Ch12 Ch13 X15 Ch14 Ch17 X20 Ch18. -/
import Derived.Test.YteklilhbjjofbaaGreatDoorLb23
set_option linter.all false
set_option maxRecDepth 100000
set_option maxHeartbeats 1000000
namespace Go.Hx
section
open Go.Proofs
def auc (n:Int) (l:List Rw) (p m:List Fd) (hT:tok n l = true):a8 b62 126 [pT n l,pP (fdl p),pP (fdl m)] (ah [St.pc ((cz l p m).getD (false,0,0,0)),pB (cz l p m).isSome]):=by
 refine hpx (nt:=132) Tryz.func126 ?_;refine c7 ?_;obtain ⟨hn0,hn16,hl256,hrow⟩:=ew hT;refine ca 1 rfl fun hn1=>?_;refine ca 2 rfl fun hn2=>?_;refine gy ?_;refine m9 0 ?_;refine m9 1 ?_;refine dm ?_;refine am (ι:=Nat) (ka 2 (ka 3 (ka 6 (ka 16 (ka 17 kn))))) (kb 0 (kb 1 km)) (fun i=>⟨[(18,some (vI i))],[]⟩) (fun i=>i <= p.length /\ (∀ i',i' < i -> ∀ a',a' < l.length -> ∀ b',b' < l.length -> d7 l (p.getD i' default) a' b' = false)) (fun i=>p.length - i) (0) (⟨b2b _,bc⟩) kk ?_;rintro i ⟨hi,hI⟩;refine w_5 ?_;refine hcd (fun h0=>?_) (fun h0=>?_)
 ·
  refine w_8 ?_;refine m9 2 ?_;refine dn ?_;refine am (ι:=Nat) (ka 2 (ka 3 (ka 6 (ka 8 (ka 9 (ka 16 (ka 17 (ka 18 (ka 25 kn))))))))) (kb 0 (kb 1 (kb 2 km))) (fun a=>⟨[(26,some (vI a))],[]⟩) (fun a=>a <= l.length /\ (∀ a',a' < a -> ∀ b',b' < l.length -> d7 l (p.getD i default) a' b' = false)) (fun a=>l.length - a) (0) (⟨b2b _,bc⟩) kk ?_;rintro a ⟨ha,hA⟩;refine w_5 ?_;refine hcd (fun h1=>?_) (fun h1=>?_)
  ·
   refine og ?_;refine am (ι:=Nat) (ka 2 (ka 3 (ka 6 (ka 8 (ka 9 (ka 10 (ka 16 (ka 17 (ka 18 (ka 25 (ka 26 (ka 31 kn)))))))))))) (kb 0 (kb 1 (kb 2 km))) (fun b=>⟨[(32,some (vI b))],[]⟩) (fun b=>b <= l.length /\ (∀ b',b' < b -> d7 l (p.getD i default) a b' = false)) (fun b=>l.length - b) (0) (⟨b2b _,bc⟩) kk ?_;rintro b ⟨hb,hB⟩;refine w_5 ?_;refine hcd (fun h2=>?_) (fun h2=>?_)
   ·
    refine alt ?_;refine qcx wu (z7 (l.getD a default) (l.getD b default) (p.getD i default).lhs (by rw [hrow _ b5c,hrow _ b5c]) (by rw [hrow _ b5c];omega)) ?_;refine qy ?_;refine ag rfl rfl (fun r3=>?_) (fun r3=>?_)
    ·
     have h3:=r3;(iterate 12 refine qy ?_ (hg:=(gtt r3)));refine qcx wu (z7 (l.getD a default) (l.getD b default) (p.getD i default).rhs (by rw [hrow _ b5c,hrow _ b5c]) (by rw [hrow _ b5c];omega)) ?_ (hg:=(gtt r3));refine qy ?_ (hg:=(gtt r3));refine w_3 ?_;refine al _ rfl (fun r4=>?_) (fun r4=>?_)
     · have h4:=dq (cn r3 r4);refine w_9 ?_;refine hrr ?_;have he:=aru (m:=m) (v6 (P:=fun i a b=>d7 l (p.getD i default) a b) (i:=i) (a:=a) (b:=b) b5c b5c b5c (apr b5d b5d) hI hA hB);exact f9 rfl rfl (by rw [he];exact CoL.refl _)
     have h4:=dt (cn r3 r4);refine w_5 ?_;refine lpz (b + 1) kk ?_;exact ⟨by show b + 1 <= _;omega,az hB (by first | exact xx b5d | exact a38 b5d)⟩
    have h3:=r3;(iterate 14 refine k9 (gft r3) ?_);refine w_9 ?_;refine lpz (b + 1) kk ?_
    exact ⟨by show b + 1 <= _;omega,az hB (by first | exact xx b5d | exact a38 b5d)⟩
   refine w_5 ?_;refine lpz (a + 1) kk ?_;exact ⟨by show a + 1 <= _;omega,az hA (fun b' hb'=>hB b' b5c)⟩
  refine w_5 ?_;refine lpz (i + 1) kk ?_;exact ⟨by show i + 1 <= _;omega,az hI (fun a' ha'=>hA a' b5c)⟩
 obtain rfl:i = p.length:=by omega
 have hno:=vg (P:=fun i a b=>d7 l (p.getD i default) a b) (I:=p.length) (L:=l.length) hI;refine w_9 ?_;refine am (ι:=Nat) (ka 3 (ka 6 (ka 71 (ka 72 kn)))) (kb 0 (kb 1 km)) (fun k=>⟨[(73,some (vI k))],[]⟩) (fun k=>k <= m.length /\ (∀ i',i' < k -> ∀ a',a' < l.length -> ∀ b',b' < l.length -> dg l (m.getD i' default) a' b' = false)) (fun k=>m.length - k) (0) (⟨b2b _,bc⟩) kk ?_;rintro k ⟨hk,hK⟩;refine w_5 ?_;refine hcd (fun h5=>?_) (fun h5=>?_)
 ·
  refine w_8 ?_;refine m9 3 ?_;refine dn ?_;refine am (ι:=Nat) (ka 3 (ka 6 (ka 12 (ka 13 (ka 71 (ka 72 (ka 73 (ka 80 kn)))))))) (kb 0 (kb 1 (kb 3 km))) (fun c=>⟨[(81,some (vI c))],[]⟩) (fun c=>c <= l.length /\ (∀ a',a' < c -> ∀ b',b' < l.length -> dg l (m.getD k default) a' b' = false)) (fun c=>l.length - c) (0) (⟨b2b _,bc⟩) kk ?_;rintro c ⟨hc,hC⟩;refine w_5 ?_;refine hcd (fun h6=>?_) (fun h6=>?_)
  ·
   refine og ?_;refine am (ι:=Nat) (ka 3 (ka 6 (ka 12 (ka 13 (ka 14 (ka 71 (ka 72 (ka 73 (ka 80 (ka 81 (ka 86 kn))))))))))) (kb 0 (kb 1 (kb 3 km))) (fun d=>⟨[(87,some (vI d))],[]⟩) (fun d=>d <= l.length /\ (∀ b',b' < d -> dg l (m.getD k default) c b' = false)) (fun d=>l.length - d) (0) (⟨b2b _,bc⟩) kk ?_;rintro d ⟨hd,hD⟩;refine w_5 ?_;refine hcd (fun h7=>?_) (fun h7=>?_)
   ·
    refine alt ?_;refine qcx wu (z7 (l.getD c default) (l.getD d default) (m.getD k default).lhs (by rw [hrow _ b5c,hrow _ b5c]) (by rw [hrow _ b5c];omega)) ?_;refine qy ?_;refine ag rfl rfl (fun r8=>?_) (fun r8=>?_)
    ·
     have h8:=r8;(iterate 16 refine qy ?_ (hg:=(gtt r8)));refine rc rfl rfl rfl rfl rfl rfl (wgx Tryz.func132) (aju (l.getD c default) (l.getD d default) ((m.getD k default).lhs ||| (m.getD k default).rhs) (by rw [hrow _ b5c,hrow _ b5c]) (by rw [hrow _ b5c];omega)) (⟨CoC.refl _,CoC.refl _,cci (by rw [bOr];rfl),trivial⟩) rfl (gtt r8) ?_;refine qcx zo (a4s n l (cq (l.getD c default) (l.getD d default) ((m.getD k default).lhs ||| (m.getD k default).rhs))) ?_ (hg:=(gtt r8));refine qy ?_ (hg:=(gtt r8));refine w_3 ?_;refine al _ rfl (fun r9=>?_) (fun r9=>?_)
     · have h9:=dq (cn r8 r9);refine w_9 ?_;refine hrr ?_;have he:=aps hno (v6 (P:=fun i a b=>dg l (m.getD i default) a b) (i:=k) (a:=c) (b:=d) b5c b5c b5c (aph b5d b5d) hK hC hD);exact f9 rfl rfl (by rw [he];exact CoL.refl _)
     have h9:=dt (cn r8 r9);refine w_5 ?_;refine lpz (d + 1) kk ?_;exact ⟨by show d + 1 <= _;omega,az hD (by first | exact a9e b5d | exact a2g b5d)⟩
    have h8:=r8;(iterate 19 refine k9 (gft r8) ?_);refine w_9 ?_;refine lpz (d + 1) kk ?_
    exact ⟨by show d + 1 <= _;omega,az hD (by first | exact a9e b5d | exact a2g b5d)⟩
   refine w_5 ?_;refine lpz (c + 1) kk ?_;exact ⟨by show c + 1 <= _;omega,az hC (fun b' hb'=>hD b' b5c)⟩
  refine w_5 ?_;refine lpz (k + 1) kk ?_;exact ⟨by show k + 1 <= _;omega,az hK (fun a' ha'=>hC a' b5c)⟩
 refine w_7 ?_;refine hrr ?_;have he:=aqg hno (vg (P:=fun i a b=>dg l (m.getD i default) a b) (I:=m.length) (L:=l.length) fun j hj=>hK j b5c);exact f9 rfl rfl (by rw [he];exact CoL.refl _)
end
section
def stV (n:Int) (i:Nat) (p:AS) (c:Nat):Int:=if ci p (c:Int) = true then (c:Int) else n + (i:Int) * n + (c:Int)
def stT (n:Int) (i:Nat) (p:AS) (k:Nat):Rw:=(List.range n.toNat).map fun c=>if c < k then stV n i p c else 0
def stR (n:Int) (i:Nat) (p:AS):Rw:=(List.range n.toNat).map fun c=>stV n i p c
def ai (n:Int) (ps:List AS):List Rw:=(List.range ps.length).map fun i=>stR n i (ps.getD i default)
def a7g (n:Int) (i:Nat) (p:AS):(stR n i p).length = n.toNat:=by unfold stR;simp
def l5 (n:Int) (ps:List AS):(ai n ps).length = ps.length:=by unfold ai;simp
section
variable {i:Nat} {n:Int} {ps:List AS}
def a7u (h:i < ps.length):(ai n ps).getD i default = stR n i (ps.getD i default):=by
 unfold ai;rw [b26,b2p,b38 h];rfl
variable {k:Nat}
def aej (n:Int) (i:Nat) (p:AS) (h:n.toNat <= k):stT n i p k = stR n i p:=by
 unfold stT stR;refine b3x fun c hc=>?_;have:=b2v.1 hc;rw [if_pos b5c]
variable {p:AS}
def abo {c:Nat} (h:c < n.toNat):(stT n i p k).getD c default = if c < k then stV n i p c else 0:=by
 unfold stT;rw [b26,b2p,b38 h];rfl
def abk {N:Nat} {f:Nat -> Nat -> PV} (hN:N = n.toNat) (hf:∀ a,f a 0 = .raw (.int .i64 0)):CoO (.arr true 1 3 N f) (.arr true 1 3 N (lf zC (stT n i p 0))) :=
 ⟨fun h=>h,rfl,rfl,rfl,fun a j ha hj=>by
  obtain rfl:j = 0:=by omega
  refine CoP.of_eq ?_;rw [hf];show _ = PV.raw (.int .i64 ((stT n i p 0).getD a default))
  rw [abo b5c,if_neg b5c]⟩
def a33:∀ c,c < n.toNat -> (stT n i p (k + 1)).getD c default = if c = k then stV n i p k else (stT n i p k).getD c default:=fun c hc=>by
 rw [abo hc,abo hc];by_cases h:c = k
 · rw [if_pos h,if_pos b5c,h]
 rw [if_neg h];by_cases h2:c < k
 · rw [if_pos h2,if_pos b5c]
 rw [if_neg h2,if_neg b5c]
def ajv {a b N:Nat} {x:Int} (h:ci p (k:Int) = true) (hN:N = n.toNat) (ha:a = k) (hb:b = k):
 CoO (.arr true 1 3 N (dw (dw (lf zC (stT n i p k)) a 0 [.raw (.int .i64 x)]) b 0 [.raw (.int .i64 (k:Int))])) (.arr true 1 3 N (lf zC (stT n i p (k + 1)))):=by
 subst ha hb;refine ⟨fun h=>h,rfl,rfl,rfl,fun c j hc hj=>CoP.of_eq ?_⟩;obtain rfl:j = 0:=by omega
 show _ = PV.raw (.int .i64 ((stT n i p (b + 1)).getD c default));rw [a33 c b5c];unfold dw;by_cases e:c = b
 · rw [if_pos ⟨e,by omega,by simp⟩,if_pos e]
   unfold stV;rw [if_pos h];rfl
 rw [if_neg (fun x=>e x.1),if_neg (fun x=>e x.1),if_neg e];rfl
def akn {a N:Nat} (h:¬ ci p (k:Int) = true) (hN:N = n.toNat) (ha:a = k):
 CoO (.arr true 1 3 N (dw (lf zC (stT n i p k)) a 0 [.raw (.int .i64 (n + (i:Int) * n + (k:Int)))])) (.arr true 1 3 N (lf zC (stT n i p (k + 1)))):=by
 subst ha;refine ⟨fun h=>h,rfl,rfl,rfl,fun c j hc hj=>CoP.of_eq ?_⟩;obtain rfl:j = 0:=by omega
 show _ = PV.raw (.int .i64 ((stT n i p (a + 1)).getD c default));rw [a33 c b5c];unfold dw;by_cases e:c = a
 · rw [if_pos ⟨e,by omega,by simp⟩,if_pos e]
   unfold stV;rw [if_neg h];rfl
 rw [if_neg (fun x=>e x.1),if_neg e];rfl
def aop {s:AS}:(asI s).fdiv (2 ^ (min n.toNat 32)) = 0 <-> s >>> n.toNat = 0:=by
 rw [amn,show (0:Int) = asI 0 from rfl,oi]
def aua (h0:0 <= n) (h1:n <= 16) (hi:i <= 64):0 <= (i:Int) * n /\ (i:Int) * n <= 1024:=by
 refine ⟨Int.mul_nonneg b5c h0, ?_⟩;have h2:(i:Int) * n <= (i:Int) * 16:=Int.mul_le_mul_of_nonneg_left h1 b5c;omega
def ej (n:Int) (ps:List AS):Int × List Rw × Int :=
 if n < 0 \/ 16 < n then (0,[],7) else if 64 < ps.length then (0,[],3) else if ps.all (fun p=>decide (p >>> n.toNat = 0)) = true then (n,ae (ai n ps),0) else (0,[],1)
def y8 (h:n < 0 \/ 16 < n):ej n ps = (0,[],7):=if_pos h
def ack (h:¬ (n < 0 \/ 16 < n)) (h2:64 < ps.length):ej n ps = (0,[],3):=by unfold ej;rw [if_neg h,if_pos h2]
def a9j (h:¬ (n < 0 \/ 16 < n)) (h2:¬ 64 < ps.length) (hi:i < ps.length) (h3:¬ (ps.getD i default) >>> n.toNat = 0):ej n ps = (0,[],1):=by
 unfold ej;rw [if_neg h,if_neg h2,if_neg (fun e=>absurd (a43 (l:=ps) (p:=fun p:AS=>decide (p >>> n.toNat = 0)) hi (decide_eq_false h3)) (by rw [e];decide))]
def a3f (h:¬ (n < 0 \/ 16 < n)) (h2:¬ 64 < ps.length) (h3:∀ j,j < ps.length -> (ps.getD j default) >>> n.toNat = 0):ej n ps = (n,ae (ai n ps),0):=by
 unfold ej;rw [if_neg h,if_neg h2,if_pos (a8z (l:=ps) (p:=fun p:AS=>decide (p >>> n.toNat = 0)) fun j hj=>decide_eq_true (h3 j hj))]
def akz (hi:i < ps.length) (hk:n.toNat <= k):CoP (.sl n.toNat 1 false (lf zC (stT n i (ps.getD i default) k))) (lf rC (ai n ps) i 0):=by
 show CoP _ (zl ((ai n ps).getD i default));rw [a7u hi,aej n i _ hk];exact CoP.sl (a7g _ _ _) (.inl rfl) (fun h=>h) fun a j ha hj=>CoP.refl _
end
end
section
open Go.Proofs
def avg (n:Int) (ps:List AS):a8 b62 53 [pI n,pP (asl ps)] (ah [pT (ej n ps).1 (ej n ps).2.1,pI (ej n ps).2.2]):=by
 refine hpx (nt:=73) Tryz.func53 ?_;refine sx7 ?_;refine m9 0 ?_;refine w_9 ?_;refine ag rfl rfl (fun r0=>?_) (fun r0=>?_)
 ·
  have h0:=tz1 r0;(iterate 2 refine k9 (gtf r0) ?_);refine dm ?_;refine hrr ?_
  have he:=y8 (n:=n) (ps:=ps) b5c;exact f9 rfl rfl (by rw [he];exact ⟨CoC.agg ⟨CoP.refl _,aw,trivial⟩,CoC.refl _,trivial⟩)
 have h0:=tz2 r0;(iterate 2 refine qy ?_ (hg:=(gff r0)));refine w_3 ?_;refine al _ rfl (fun r1=>?_) (fun r1=>?_)
 · have h1:=tz1 (af r0 r1);refine w_6 ?_;refine hrr ?_;have he:=y8 (n:=n) (ps:=ps) b5c;exact f9 rfl rfl (by rw [he];exact ⟨CoC.agg ⟨CoP.refl _,aw,trivial⟩,CoC.refl _,trivial⟩)
 have h1:=tz2 (af r0 r1);refine w_7 ?_;refine hcd (fun h2=>?_) (fun h2=>?_)
 · refine w_6 ?_;refine hrr ?_;have he:=ack (n:=n) (ps:=ps) b5c b5c;exact f9 rfl rfl (by rw [he];exact ⟨CoC.agg ⟨CoP.refl _,aw,trivial⟩,CoC.refl _,trivial⟩)
 refine w_5 ?_;refine m9 1 ?_;refine w_2 ?_;refine er 1 1 900 true 1 97 (lf rC (ai n ps)) b5i rfl rfl (CoP.sl rfl (.inr rfl) (fun h=>h) (fun i j hi _=>absurd hi (b2c i))) (.inr rfl) rfl rfl ?_;refine w_8 ?_;refine am (ι:=Nat) (ka 0 (ka 4 (ka 6 (ka 26 (ka 27 kn))))) (kb 0 km) (fun i=>⟨[(28,some (vI i))],[(1,some (.box [.p (.raw (.int .i64 n)), .ref 900 i])),(900,some (.arr true 1 97 i (lf rC (ai n ps))))]⟩) (fun i=>i <= ps.length /\ ∀ j,j < i -> (ps.getD j default) >>> n.toNat = 0) (fun i=>ps.length - i) (0) (⟨b2b _,bc⟩) kk ?_;rintro i ⟨hi,hI⟩;refine w_5 ?_;refine hcd (fun h3=>?_) (fun h3=>?_)
 ·
  have hin:=aua (n:=n) (i:=i) b5c b5c b5c;refine a2k ?_;refine hcn (fun h4=>?_) (fun h4=>?_)
  · refine w_6 ?_;refine hrr ?_;have he:=a9j (n:=n) (ps:=ps) (i:=i) b5c b5c b5c (fun e=>absurd (aop.2 e) b5d);exact f9 rfl rfl (by rw [he];exact ⟨CoC.agg ⟨CoP.refl _,aw,trivial⟩,CoC.refl _,trivial⟩)
  refine w_4 ?_;refine m9 2 ?_;refine w_9 ?_;refine ce (ka 0 (ka 4 (ka 6 (ka 7 (ka 8 (ka 9 (ka 26 (ka 27 (ka 28 (ka 40 kn)))))))))) (kb 1 (kb 900 (kb 0 km))) (fun k=>⟨[(41,some (vI k))],[(2,some (.arr true 1 3 n.toNat (lf zC (stT n i (ps.getD i default) k))))]⟩) n.toNat ⟨tt,⟨⟨_,rfl,(abk rfl (fun _=>rfl))⟩,trivial⟩⟩ ?_;rintro k hk;refine w_5 ?_;refine hcd (fun h5=>?_) (fun h5=>?_)
  ·
   refine ayv ?_;refine hcd (fun h6=>?_) (fun h6=>?_)
   · refine dn ?_;exact lpx (k + 1) ⟨tt,⟨⟨_,rfl,(by first | exact ajv ((l4 b5c).1 b5d) rfl b5c b5c | exact akn (fun e=>absurd ((l4 b5c).2 e) b5d) rfl b5c)⟩,uu⟩⟩
   refine w_5 ?_;exact lpx (k + 1) ⟨tt,⟨⟨_,rfl,(by first | exact ajv ((l4 b5c).1 b5d) rfl b5c b5c | exact akn (fun e=>absurd ((l4 b5c).2 e) b5d) rfl b5c)⟩,uu⟩⟩
  refine cu ?_;refine bo 9 rfl rfl rfl ?_;refine w_4 ?_;refine m9 3 ?_;refine r9 4 true ?_;refine w_7 ?_;refine lpz (i + 1) ⟨tt,⟨u9,⟨_,rfl,(fk (fun h=>h) (fun j hj=>by obtain rfl:j = 0:=b5c;exact akz b5c b5c))⟩,uu⟩⟩ ?_;exact ⟨by show i + 1 <= _;omega,az hI (aop.1 b5d)⟩
 obtain rfl:i = ps.length:=by omega
 refine w_4 ?_;refine fl rfl rfl rfl rfl rfl rfl acq ((a5q n (ai n ps) (by rw [l5];omega))) (⟨⟨CoP.refl _,congrArg (HV.ref 900) (l5 _ _).symm,trivial⟩,trivial⟩) ⟨⟨_,rfl,x3 rfl (l5 _ _).symm⟩,trivial⟩ rfl rfl ?_;refine w_3 ?_;refine hrr ?_;have he:=a3f (n:=n) (ps:=ps) b5c b5c (fun j hj=>hI j b5c);exact f9 rfl rfl (by rw [he];exact CoL.refl _)
end
section
def br (n:Int):Rw:=(List.range n.toNat).map fun (i:Nat)=>(i:Int)
def a48 (n:Int):(br n).length = n.toNat:=by unfold br;simp
section
variable {k:Nat} {n:Int}
def alk (h:k < n.toNat):CoP (.raw (.int .i64 (k:Int))) (lf zC (br n) k 0):=by
 refine CoP.of_eq ?_;show _ = PV.raw (.int .i64 ((br n).getD k default));unfold br;rw [b26,b2p,b38 h];rfl
def a9z {i:Nat} {p:AS} (h:k < n.toNat):(stR n i p).getD k default = stV n i p k:=by
 unfold stR;rw [b26,b2p,b38 h];rfl
def afo {i:Nat} {p:AS} (h:k < n.toNat) (hh:ci p (k:Int) = true):CoP (.raw (.int .i64 (k:Int))) (lf zC (stR n i p) k 0):=by
 refine CoP.of_eq ?_;show _ = PV.raw (.int .i64 ((stR n i p).getD k default));rw [a9z h];unfold stV;rw [if_pos hh]
def afn {i:Nat} {p:AS} (h:k < n.toNat) (hh:ci p (k:Int) = false):CoP (.raw (.int .i64 (n + (i:Int) * n + (k:Int)))) (lf zC (stR n i p) k 0):=by
 refine CoP.of_eq ?_;show _ = PV.raw (.int .i64 ((stR n i p).getD k default));rw [a9z h];unfold stV;rw [hh,if_neg b5i]
def akg {ps:List AS} {i:Nat} (hi:i < ps.length) (hk:k = n.toNat):CoP (.sl k 1 false (lf zC (stR n i (ps.getD i default)))) (lf rC (ai n ps) i 0):=by
 show CoP _ (zl ((ai n ps).getD i default));rw [a7u hi];exact CoP.sl (by rw [a7g,hk]) (.inl rfl) (fun h=>h) fun a j ha hj=>CoP.refl _
def ah3 {s:AS} (h0:0 <= n) (h1:n <= 16):sub s (bi n) <-> s >>> n.toNat = 0:=by
 unfold bi;rw [b3o b5c];exact xn b5c
def a17 (l:List Rw) (x:Fd) (a b:Nat):Bool:=gu (l.getD a default) (l.getD b default) x.lhs && !(l.any fun r=>decide (r = cq (l.getD a default) (l.getD b default) x.rhs))
def aa6 {a b:Rw} {s:AS} {g:Nat -> Nat -> PV} {f:Nat -> Nat -> PV} {e:TypeId} (hf:∀ i j,f i j = lf zC b i j):CoO (.arr true 1 e (0 + b.length) (d6 0 g f)) (.arr true 1 e (0 + b.length) (lf zC (iz a b s 0))):=by
 rw [<- a7j];exact ⟨fun h=>h,rfl,rfl,rfl,fun i j _ _=>CoP.of_eq (by simp [d6,hf])⟩
def aeg {a b:Rw} {s:AS} {m:Nat} (hk:k = b.length) (hm:m = b.length):CoC (.one (.sl m 1 false (lf zC (iz a b s k)))) (pZ (cq a b s)):=by
 subst hk;rw [aaw];exact ahp ((iw a b s).trans hm.symm)
end
end
section
open Go.Proofs
def a9w:goodFn b62 51:=wgx Tryz.func51
def a9l (n:Int) (h16:n <= 16):a8 b62 51 [pI n] (ah [pZ (br n)]):=by
 refine hpx (nt:=15) Tryz.func51 ?_;refine w_8 ?_;refine fe 3 900 true 1 3 (lf zC (br n)) b5i rfl (CoP.sl rfl (.inr rfl) (fun h=>h) (fun i j hi _=>absurd hi (b2c i))) (.inr rfl) rfl ?_;refine w_6 ?_;refine ce (ka 0 kn) km (fun i=>⟨[(3,some (.v (.one (.ref 900 i)))),(4,some (vI i))],[(900,some (.arr true 1 3 i (lf zC (br n))))]⟩) n.toNat kk ?_;rintro i hi;refine w_7 ?_;refine hcd (fun h0=>?_) (fun h0=>?_)
 · refine w_6 ?_;refine m9 0 ?_;refine r9 1 true ?_;refine w_7 ?_;exact lpx (i + 1) ⟨tt,⟨⟨_,rfl,(fk (fun h=>h) (fun j hj=>by obtain rfl:j = 0:=b5c;exact alk b5c))⟩,trivial⟩⟩
 refine w_2 ?_;refine bo 3 rfl rfl rfl ?_;refine v_4 ?_;exact ⟨CoC.one (CoP.sl (by rw [a48];omega) (.inl rfl) (fun h=>h) fun a j ha hj=>CoP.refl _),trivial⟩
def aqj (n:Int) (ps:List AS):a8 b62 84 [pI n,pP (asl ps)] (ah [pT (ej n ps).1 (ej n ps).2.1,pI (ej n ps).2.2]):=by
 refine hpx (nt:=68) Tryz.func84 ?_;refine sx7 ?_;refine m9 0 ?_;refine w_8 ?_;refine ag rfl rfl (fun r0=>?_) (fun r0=>?_)
 ·
  have h0:=tz1 r0;(iterate 2 refine k9 (gtf r0) ?_);refine w_9 ?_;refine hrr ?_
  have he:=y8 (n:=n) (ps:=ps) b5c;exact f9 rfl rfl (by rw [he];exact ⟨CoC.agg ⟨CoP.refl _,aw,trivial⟩,CoC.refl _,trivial⟩)
 have h0:=tz2 r0;(iterate 2 refine qy ?_ (hg:=(gff r0)));refine w_2 ?_;refine al _ rfl (fun r1=>?_) (fun r1=>?_)
 · have h1:=tz1 (af r0 r1);refine w_6 ?_;refine hrr ?_;have he:=y8 (n:=n) (ps:=ps) b5c;exact f9 rfl rfl (by rw [he];exact ⟨CoC.agg ⟨CoP.refl _,aw,trivial⟩,CoC.refl _,trivial⟩)
 have h1:=tz2 (af r0 r1);refine w_8 ?_;refine hcd (fun h2=>?_) (fun h2=>?_)
 · refine w_6 ?_;refine hrr ?_;have he:=ack (n:=n) (ps:=ps) b5c b5c;exact f9 rfl rfl (by rw [he];exact ⟨CoC.agg ⟨CoP.refl _,aw,trivial⟩,CoC.refl _,trivial⟩)
 refine w_5 ?_;refine fe 6 900 true 1 97 (lf rC (ai n ps)) b5i rfl (CoP.sl rfl (.inr rfl) (fun h=>h) (fun i j hi _=>absurd hi (b2c i))) (.inr rfl) rfl ?_;refine w_6 ?_;refine am (ι:=Nat) (ka 0 (ka 1 (ka 4 kn))) (kb 0 km) (fun i=>⟨[(6,some (.v (.one (.ref 900 i)))),(7,some (vI i))],[(900,some (.arr true 1 97 i (lf rC (ai n ps))))]⟩) (fun i=>i <= ps.length /\ ∀ j,j < i -> (ps.getD j default) >>> n.toNat = 0) (fun i=>ps.length - i) (0) (⟨b2b _,bc⟩) kk ?_;rintro i ⟨hi,hI⟩;refine w_8 ?_;refine hcd (fun h3=>?_) (fun h3=>?_)
 ·
  have hin:=aua (n:=n) (i:=i) b5c b5c b5c;refine dn ?_;refine qcx tv (tz n) ?_;refine qcx a3z (a8y _ _) ?_;refine w_3 ?_;refine hcv (fun h4=>?_) (fun h4=>?_)
  · refine w_6 ?_;refine hrr ?_;have he:=a9j (n:=n) (ps:=ps) (i:=i) b5c b5c b5c (fun e=>by have:=(ah3 (n:=n) b5c b5c).2 e;simp_all);exact f9 rfl rfl (by rw [he];exact ⟨CoC.agg ⟨CoP.refl _,aw,trivial⟩,CoC.refl _,trivial⟩)
  refine w_5 ?_;refine fe 8 901 true 1 3 (lf zC (stR n i (ps.getD i default))) b5i rfl (CoP.sl rfl (.inr rfl) (fun h=>h) (fun i j hi _=>absurd hi (b2c i))) (.inr rfl) rfl ?_;refine w_6 ?_;refine ce (ka 0 (ka 1 (ka 4 (ka 6 (ka 7 kn))))) (kb 900 (kb 0 km)) (fun k=>⟨[(8,some (.v (.one (.ref 901 k)))),(9,some (vI k))],[(901,some (.arr true 1 3 k (lf zC (stR n i (ps.getD i default)))))]⟩) n.toNat kk ?_;rintro k hk;refine w_7 ?_;refine hcd (fun h5=>?_) (fun h5=>?_)
  ·
   refine dm ?_;refine qcx wh (aao (ps.getD i default) (k:Int)) ?_;refine ck ?_;refine hcb (fun h6=>?_) (fun h6=>?_)
   · refine w_3 ?_;refine m9 1 ?_;refine r9 2 true ?_;refine w_7 ?_;exact lpx (k + 1) ⟨tt,⟨⟨_,rfl,(by first | exact (fk (fun h=>h) (fun j hj=>by obtain rfl:j = 0:=b5c;exact afo b5c b5d)) | exact (fk (fun h=>h) (fun j hj=>by obtain rfl:j = 0:=b5c;exact afn b5c b5d)))⟩,uu⟩⟩
   refine w_9 ?_;refine m9 3 ?_;refine r9 4 true ?_;refine w_7 ?_;exact lpx (k + 1) ⟨tt,⟨⟨_,rfl,(by first | exact (fk (fun h=>h) (fun j hj=>by obtain rfl:j = 0:=b5c;exact afo b5c b5d)) | exact (fk (fun h=>h) (fun j hj=>by obtain rfl:j = 0:=b5c;exact afn b5c b5d)))⟩,uu⟩⟩
  refine cu ?_;refine bo 8 rfl rfl rfl ?_;refine w_3 ?_;refine m9 5 ?_;refine r9 6 true ?_;refine w_7 ?_;refine lpz (i + 1) ⟨tt,⟨⟨_,rfl,(fk (fun h=>h) (fun j hj=>by obtain rfl:j = 0:=b5c;exact akg b5c b5c))⟩,uu⟩⟩ ?_;exact ⟨by show i + 1 <= _;omega,az hI ((ah3 b5c b5c).1 (by first | assumption | exact az8 b5d))⟩
 obtain rfl:i = ps.length:=by omega
 refine w_2 ?_;refine bo 6 rfl rfl rfl ?_;refine w_3 ?_;refine rc rfl rfl rfl rfl rfl rfl a74 (a2o n (ai n ps) (by rw [l5];omega)) (⟨CoC.refl _,CoC.one (CoP.sl (by rw [l5]) (.inl rfl) (fun h=>h) fun a j ha hj=>CoP.refl _),trivial⟩) rfl rfl ?_;refine w_3 ?_;refine hrr ?_;have he:=a3f (n:=n) (ps:=ps) b5c b5c (fun j hj=>hI j b5c);exact f9 rfl rfl (by rw [he];exact CoL.refl _)
end
section
def Wel (n:Int) (l:List Rw):Prop:=∀ r,r ∈ l -> r.length = n.toNat /\ ∀ z,z ∈ r -> 0 <= z
section
variable {l:List Rw}
def x2 {i:Nat} (h:i < l.length):l.getD i default ∈ l:=by
 rw [b26,b25 h];exact b2l h
def jt {n:Int} (h:tok n l = true):Wel n l:=by
 obtain ⟨h0,h1,h2,h3⟩:=ew h;unfold tok at h;rw [b2h,decide_eq_true_iff,decide_eq_true_iff] at h;rintro r hr;obtain ⟨i,hi,rfl⟩:=b34 hr;have e:l.getD i default = l[i]:=by rw [b26,b25 hi];rfl
 rw [<- e];refine ⟨h3 i hi,fun z hz=>?_⟩;have:=h.2 i hi;unfold jv at this;rw [b2h,b2h] at this;have h4:=this.1.2;rw [b39,b3n] at h4;have:=h4 z hz;rw [decide_eq_true_iff] at this;omega
def ars {n:Int} (h:tok n l = true):jn l:=by
 unfold tok at h;rw [b2h,decide_eq_true_iff,decide_eq_true_iff] at h
 have hs:∀ d i:Nat,i + d + 1 < l.length -> ltZ (l.getD i default) (l.getD (i + d + 1) default) = true:=by
  intro d
  induction d with
  | zero =>
   intro i hi;have:=h.2 (i + 1) hi;unfold jv at this;rw [b2h,b3p,decide_eq_true_iff] at this
   rcases this.2 with h5 | h5
   · omega
   exact h5
  | succ d ih =>
   intro i hi;have h1:=ih i b5c;have:=h.2 (i + d + 1 + 1) b5c;unfold jv at this;rw [b2h,b3p,decide_eq_true_iff] at this
   rcases this.2 with h5 | h5
   · omega
   exact gm h1 h5
 unfold jn;rw [b44];intro i j hi hj hij;obtain ⟨d,rfl⟩:∃ d,j = i + d + 1:=⟨j - i - 1,by omega⟩;have:=hs d i hj;rwa [b26,b25 hi,b26,b25 hj] at this
def ajy {n:Int} (h0:0 <= n) (h1:n <= 16) (h2:l.length <= 256) (hw:Wel n l) (ho:jn l):tok n l = true:=by
 refine ah2 h0 h1 h2 fun i hi=>?_;obtain ⟨h3,h4⟩:=hw _ (x2 hi);refine a0i b5c ?_ ?_
 · rw [b3n]
   intro z hz;have:=h4 z hz;rw [decide_eq_true_iff];omega
 rcases b3h i with h | h
 · exact .inl h
 right;have:=b44.1 ho (i - 1) i b5c hi b5c;rw [b26,b25 b5c,b26,b25 hi];exact this
def zm {n:Int} (h0:0 <= n) (h1:n <= 16) (h2:(ae l).length <= 256) (hw:Wel n l):tok n (ae l) = true :=
 ajy h0 h1 h2 (fun r hr=>hw r (dy.1 hr)) (ef l)
def inV (l:List Rw) (M:Nat -> Nat -> Int) (z:Int):Prop:=∃ i r,i < l.length /\ r < (l.getD i default).length /\ M i r = z
def afp {z:Int}:inV l (be l) z <-> ∃ r,r ∈ l /\ z ∈ r:=by
 constructor
 · rintro ⟨i,r,hi,hr,rfl⟩
   refine ⟨_,x2 hi, ?_⟩;show (l.getD i default).getD r default ∈ _;rw [b26 (l:=l.getD i default),b25 hr];exact b2l hr
 rintro ⟨r,hr,hz⟩;obtain ⟨i,hi,rfl⟩:=b34 hr;obtain ⟨k,hk,rfl⟩:=b34 hz;have e:l.getD i default = l[i]:=by rw [b26,b25 hi];rfl
 refine ⟨i,k,hi,by rw [e];exact hk, ?_⟩;show (l.getD i default).getD k default = _;rw [e,b26,b25 hk];rfl
def a2x {M:Nat -> Nat -> Int} {z:Int}:(∃ r,r ∈ cj l M /\ z ∈ r) <-> inV l M z:=by
 constructor
 · rintro ⟨r,hr,hz⟩
   unfold cj at hr;rw [b32] at hr;obtain ⟨i,hi,rfl⟩:=hr;rw [b32] at hz;obtain ⟨k,hk,rfl⟩:=hz;exact ⟨i,k,b2v.1 hi,b2v.1 hk,rfl⟩
 rintro ⟨i,k,hi,hk,rfl⟩;refine ⟨(List.range (l.getD i default).length).map (M i), ?_,b32.2 ⟨k,b2v.2 hk,rfl⟩⟩;unfold cj;exact b32.2 ⟨i,b2v.2 hi,rfl⟩
end
section
variable {l:List Rw} {a b:Nat} (ha:a < l.length) (hb:b < l.length)
def aha (x y:Int):loI x y = x \/ loI x y = y:=by unfold loI;split <;> simp
def aow (x y:Int):hiI x y = x \/ hiI x y = y:=by unfold hiI;split <;> simp
include ha hb in
def awo {M:Nat -> Nat -> Int} {j:Nat} (hja:j < (l.getD a default).length) (hjb:j < (l.getD b default).length) {z:Int} (h:inV l (eqM M a b j) z):inV l M z:=by
 obtain ⟨i,r,hi,hr,he⟩:=h;unfold eqM at he;split at he
 · rcases aha (M a j) (M b j) with h | h
   · exact ⟨a,j,ha,hja,by rw [<- he,h]⟩
   exact ⟨b,j,hb,hjb,by rw [<- he,h]⟩
 exact ⟨i,r,hi,hr,he⟩
include ha hb in
def ad4:∀ {js:List Nat} {M:Nat -> Nat -> Int},(∀ j,j ∈ js -> j < (l.getD a default).length /\ j < (l.getD b default).length) -> ∀ {z:Int},inV l (eqMs M a b js) z -> inV l M z
 | [],_,_,_,h=>h
 | j :: js,M,hj,z,h=>awo ha hb (hj j b5f).1 (hj j b5f).2 (ad4 (js:=js) (M:=eqM M a b j) (fun k hk=>hj k (by simp [hk])) h)
include ha hb in
def a82:∀ {js:List Nat} {M:Nat -> Nat -> Int},(∀ j,j ∈ js -> j < (l.getD a default).length /\ j < (l.getD b default).length) -> (∃ j,j ∈ js /\ ¬ M a j = M b j) -> ∃ z,inV l M z /\ ¬ inV l (eqMs M a b js) z
 | [],_,_,⟨_,h,_⟩=>by simp at h
 | j :: js,M,hj,⟨k,hk,hne⟩=>by
  by_cases e:M a j = M b j
  · have e2:eqMs M a b (j :: js) = eqMs M a b js:=by
     show eqMs (eqM M a b j) a b js = _;rw [o9 e]
    rw [e2];refine a82 (fun k hk=>hj k (by simp [hk])) ⟨k, ?_,hne⟩
    rcases b2f.1 hk with h | h
    · subst h;exact absurd e hne
    exact h
  refine ⟨hiI (M a j) (M b j), ?_,fun h=>?_⟩
  · rcases aow (M a j) (M b j) with h | h
    · exact ⟨a,j,ha,(hj j b5f).1,h.symm⟩
    exact ⟨b,j,hb,(hj j b5f).2,h.symm⟩
  obtain ⟨i,r,hi,hr,he⟩:=ad4 ha hb (fun k hk=>hj k (by simp [hk])) (show inV l (eqMs (eqM M a b j) a b js) _ from h);unfold eqM at he;split at he
  · unfold hiI loI at he
    split at he <;> split at he <;> omega
  rename_i h2;exact h2 he
end
def a6o (Z:List Int) (l:List Rw):Nat:=Z.countP fun z=>l.any fun r=>decide (z ∈ r)
def muC (Z:List Int) (l:List Rw):Nat:=a6o Z l * 300 + (300 - l.length)
def Cov (Z:List Int) (l:List Rw):Prop:=∀ r,r ∈ l -> ∀ z,z ∈ r -> z ∈ Z
def s5 {l:List Rw} {z:Int}:(l.any fun r=>decide (z ∈ r)) = true <-> ∃ r,r ∈ l /\ z ∈ r:=by
 rw [b3a];exact ⟨fun ⟨r,h,h2⟩=>⟨r,h,of_decide_eq_true h2⟩,fun ⟨r,h,h2⟩=>⟨r,h,decide_eq_true h2⟩⟩
def countP_lt' {p q:Int -> Bool}:∀ {Z:List Int},(∀ z,p z = true -> q z = true) -> (∃ z,z ∈ Z /\ q z = true /\ p z = false) -> Z.countP p < Z.countP q
 | [],_,⟨_,h,_⟩=>by simp at h
 | x :: Z,h,⟨z,hz,hq,hp⟩=>by
  have hm:Z.countP p <= Z.countP q:=List.countP_mono_left fun z _=>h z;rw [b4f,b4f]
  rcases b2f.1 hz with rfl | hz
  · rw [hq,hp]
    simp only [if_true,b52,if_false];omega
  have:=countP_lt' (Z:=Z) h ⟨z,hz,hq,hp⟩;by_cases e:p x = true
  · rw [e,h x e];omega
  rw [if_neg e];omega
def ap9 {Z:List Int} {l l':List Rw} (h:∀ z,(∃ r,r ∈ l' /\ z ∈ r) -> ∃ r,r ∈ l /\ z ∈ r) (h2:∃ z,z ∈ Z /\ (∃ r,r ∈ l /\ z ∈ r) /\ ¬ ∃ r,r ∈ l' /\ z ∈ r):a6o Z l' < a6o Z l:=by
 refine countP_lt' (fun z hz=>s5.2 (h z (s5.1 hz))) ?_;obtain ⟨z,h3,h4,h5⟩:=h2;exact ⟨z,h3,s5.2 h4,by rw [b2e];exact fun e=>h5 (s5.1 e)⟩
def apa {Z:List Int} {l l':List Rw} (h:∀ z,(∃ r,r ∈ l' /\ z ∈ r) -> ∃ r,r ∈ l /\ z ∈ r):a6o Z l' <= a6o Z l :=
 List.countP_mono_left fun z _ hz=>s5.2 (h z (s5.1 hz))
end
section
def acf {r:Rw}:∀ {l:List Rw},r ∉ l -> (fz r l).length = l.length + 1
 | [],_=>rfl
 | y :: l,h=>by
  unfold fz;have h1:¬ r = y:=fun e=>h (by rw [e];simp);have h2:=acf (l:=l) (r:=r) fun e=>h (by simp [e]);rw [if_neg h1];split
  · simp
  simp only [b3m];omega
def ajk {l:List Rw} {r:Rw} (ho:jn l):ae (l ++ [r]) = fz r l:=by
 have e:l = ae l:=a9a ho fun _=>Iff.rfl
 have:ae (l ++ [r]) = fz r (ae l):=by
  unfold ae;rw [b4l];rfl
 rw [this,<- e]
section
variable {n:Int} {l:List Rw} {a b:Nat} {x:Fd}
abbrev fdL (l:List Rw) (a b:Nat) (x:Fd):List Rw:=ae (cj l (eqMs (be l) a b (b6 x.rhs)))
def ag3 (hT:tok n l = true) (hu:inU n x = true) (ha:a < l.length) (hb:b < l.length) (hs:d7 l x a b = true) :
 fdE n l a b x = (n,fdL l a b x,0) /\ tok n (fdL l a b x) = true /\ (∀ z,(∃ r,r ∈ fdL l a b x /\ z ∈ r) -> ∃ r,r ∈ l /\ z ∈ r) /\ ∀ Z,Cov Z l -> muC Z (fdL l a b x) < muC Z l:=by
 obtain ⟨h0,h1,h2,h3⟩:=ew hT;have hw:=jt hT;unfold d7 at hs;rw [b2h,b39] at hs;obtain ⟨hl,hr⟩:=hs
 have hj:∀ j,j ∈ b6 x.rhs -> j < (l.getD a default).length /\ j < (l.getD b default).length:=fun j hj=>by
  have:=a0v h0 h1 hu hj;exact ⟨by rw [h3 a ha];exact this,by rw [h3 b hb];exact this⟩
 have hV:∀ z,(∃ r,r ∈ fdL l a b x /\ z ∈ r) -> ∃ r,r ∈ l /\ z ∈ r:=fun z ⟨r,hr,hz⟩=>afp.1 (ad4 ha hb hj (a2x.1 ⟨r,dy.1 hr,hz⟩));have hlen:(fdL l a b x).length <= l.length:=b37 (uj _) (b4v (i9 _ _));refine ⟨if_pos hl,zm h0 h1 (b37 hlen h2) (fun r hr=>⟨?_,fun z hz=>?_⟩),hV,fun Z hZ=>?_⟩
 · unfold cj at hr
   rw [b32] at hr;obtain ⟨i,hi,rfl⟩:=hr;rw [b33,List.length_range];exact h3 i (b2v.1 hi)
 · obtain ⟨r2,h5,h6⟩:=hV z ⟨r,dy.2 hr,hz⟩
   exact (hw r2 h5).2 z h6
 have hne:∃ j,j ∈ b6 x.rhs /\ ¬ be l a j = be l b j:=by
  apply Classical.byContradiction;intro hno;rw [w9] at hr
  · cases hr
  intro i hi hh;apply Classical.byContradiction;intro e
  have hi2:i < 32:=by
   have:=h3 a ha;omega
  rw [ge hi2] at hh;exact hno ⟨i,uz.2 ⟨hi2,hh⟩,e⟩
 obtain ⟨z,hz1,hz2⟩:=a82 ha hb hj hne;have hz3:=afp.1 hz1;have:=ap9 (Z:=Z) hV ⟨z,by obtain ⟨r,h7,h8⟩:=hz3;exact hZ r h7 z h8,hz3,fun ⟨r,h7,h8⟩=>hz2 (a2x.1 ⟨r,dy.1 h7,h8⟩)⟩;unfold muC;omega
abbrev mvL (l:List Rw) (a b:Nat) (x:Fd):List Rw:=ae (l ++ [cq (l.getD a default) (l.getD b default) (x.lhs ||| x.rhs)])
def aw3 (hT:tok n l = true) (ha:a < l.length) (hb:b < l.length) (hs:dg l x a b = true) :
 mvE n l a b x = (0,[],3) \/ (mvE n l a b x = (n,mvL l a b x,0) /\ tok n (mvL l a b x) = true /\ (∀ z,(∃ r,r ∈ mvL l a b x /\ z ∈ r) -> ∃ r,r ∈ l /\ z ∈ r) /\ ∀ Z,Cov Z l -> muC Z (mvL l a b x) < muC Z l):=by
 obtain ⟨h0,h1,h2,h3⟩:=ew hT;have hw:=jt hT;unfold dg at hs;rw [b2h,b39] at hs;obtain ⟨hl,hr⟩:=hs;have hno:=ae6 hr;have hE:mvE n l a b x = ny n l (cq (l.getD a default) (l.getD b default) (x.lhs ||| x.rhs)):=if_pos hl;by_cases hbig:256 < (mvL l a b x).length
 · left
   rw [hE];exact if_pos hbig
 right
 have hmem:∀ z,z ∈ cq (l.getD a default) (l.getD b default) (x.lhs ||| x.rhs) -> z ∈ l.getD a default \/ z ∈ l.getD b default:=fun z hz=>by
  unfold cq at hz;rw [b32] at hz;obtain ⟨i,hi,rfl⟩:=hz;have hi:=b2v.1 hi;have hi2:i < (l.getD a default).length:=by rw [h3 a ha,<- h3 b hb];exact hi
  split
  · left
    rw [b26 (l:=l.getD a default),b25 hi2];exact b2l hi2
  right;rw [b26 (l:=l.getD b default),b25 hi];exact b2l hi
 have hV:∀ z,(∃ r,r ∈ mvL l a b x /\ z ∈ r) -> ∃ r,r ∈ l /\ z ∈ r:=fun z ⟨r,hr,hz⟩=>by
  rcases b2u.1 (dy.1 hr) with h | h
  · exact ⟨r,h,hz⟩
  rw [b2q] at h;subst h
  rcases hmem z hz with h | h
  · exact ⟨_,x2 ha,h⟩
  exact ⟨_,x2 hb,h⟩
 refine ⟨by rw [hE];exact if_neg hbig,zm h0 h1 (Nat.le_of_not_lt fun e=>hbig e) (fun r hr=>⟨?_,fun z hz=>?_⟩),hV,fun Z hZ=>?_⟩
 · rcases b2u.1 hr with h | h
   · exact (hw r h).1
   rw [b2q] at h;subst h;rw [iw];exact h3 b hb
 · obtain ⟨r2,h5,h6⟩:=hV z ⟨r,dy.2 hr,hz⟩
   exact (hw r2 h5).2 z h6
 have e:(mvL l a b x).length = l.length + 1:=by
  show (ae _).length = _;rw [ajk (ars hT),acf hno]
 have:=apa (Z:=Z) hV;unfold muC;omega
end
def aia {α:Type} {f:Nat -> Option α}:∀ {n:Nat} {x:α},(List.range n).findSome? f = some x -> ∃ k,k < n /\ f k = some x:=fun {n x} h=>by
 obtain ⟨k,hk,e⟩:=b4y h;exact ⟨k,b2v.1 hk,e⟩
def yd {P:Nat -> Nat -> Nat -> Bool} {I L i a b:Nat} (h:dp P I L = some (i,a,b)):i < I /\ a < L /\ b < L /\ P i a b = true:=by
 obtain ⟨i',hi,h⟩:=aia h;obtain ⟨a',ha,h⟩:=aia h;rw [Option.map_eq_some_iff] at h;obtain ⟨b',hb,e⟩:=h;simp only [b2a] at e;obtain ⟨rfl,rfl,rfl⟩:=e;exact ⟨hi,ha,b2v.1 (List.mem_of_find?_eq_some hb),by simpa using List.find?_some hb⟩
def qo (l:List Rw) (p m:List Fd) (s:St):Prop:=s.2.2.1 < l.length /\ s.2.2.2 < l.length /\ ((s.1 = false /\ s.2.1 < p.length /\ d7 l (p.getD s.2.1 default) s.2.2.1 s.2.2.2 = true) \/ (s.1 = true /\ s.2.1 < m.length /\ dg l (m.getD s.2.1 default) s.2.2.1 s.2.2.2 = true))
section
variable {l:List Rw} {m p:List Fd}
def a19 {s:St} (h:cz l p m = some s):qo l p m s:=by
 unfold cz at h;split at h
 · rename_i x e
   simp only [b24] at h;subst h;obtain ⟨i,a,b⟩:=x;obtain ⟨h1,h2,h3,h4⟩:=yd e;exact ⟨h2,h3, .inl ⟨rfl,h1,h4⟩⟩
 rw [Option.map_eq_some_iff] at h;obtain ⟨⟨i,a,b⟩,e,rfl⟩:=h;obtain ⟨h1,h2,h3,h4⟩:=yd e;exact ⟨h2,h3, .inr ⟨rfl,h1,h4⟩⟩
def bu (n:Int) (l:List Rw) (p m:List Fd) (s:St):Int × List Rw × Int:=if s.1 = true then mvE n l s.2.2.1 s.2.2.2 (m.getD s.2.1 default) else fdE n l s.2.2.1 s.2.2.2 (p.getD s.2.1 default)
def abv {n:Int} {s:St} (hT:tok n l = true) (hp:p.all (inU n) = true) (h:qo l p m s):
 bu n l p m s = (0,[],3) \/ ∃ l',bu n l p m s = (n,l',0) /\ tok n l' = true /\ (∀ Z,Cov Z l -> Cov Z l' /\ muC Z l' < muC Z l):=by
 obtain ⟨ha,hb,h | h⟩:=h
 · obtain ⟨h1,h2,h3⟩:=h
   have hu:inU n (p.getD s.2.1 default) = true:=b3d.1 hp _ (by rw [b26,b25 h2];exact b2l h2);obtain ⟨e,h4,h5,h6⟩:=ag3 hT hu ha hb h3;exact .inr ⟨_,by unfold bu;rw [if_neg (by rw [h1];decide)];exact e,h4,fun Z hZ=>⟨fun r hr z hz=>by obtain ⟨r2,h7,h8⟩:=h5 z ⟨r,hr,hz⟩;exact hZ r2 h7 z h8,h6 Z hZ⟩⟩
 obtain ⟨h1,h2,h3⟩:=h
 rcases aw3 hT ha hb h3 with e | ⟨e,h4,h5,h6⟩
 · exact .inl (by unfold bu;rw [if_pos h1];exact e)
 exact .inr ⟨_,by unfold bu;rw [if_pos h1];exact e,h4,fun Z hZ=>⟨fun r hr z hz=>by obtain ⟨r2,h7,h8⟩:=h5 z ⟨r,hr,hz⟩;exact hZ r2 h7 z h8,h6 Z hZ⟩⟩
def f5:Nat -> Int -> List Rw -> List Fd -> List Fd -> List St -> List St × (Int × List Rw) × Int
 | 0,_,_,_,_,_=>([],(0,[]),0)
 | f + 1,n,l,p,m,acc =>
  match cz l p m with
  | none=>(acc,(n,l),0)
  | some s=>match bu n l p m s with
   | (n',l',e)=>if e = 0 then f5 f n' l' p m (acc ++ [s]) else ([],(0,[]),e)
variable {acc:List St}
def a59 {f:Nat} {n:Int} (hf:0 < f) (h:cz l p m = none):f5 f n l p m acc = (acc,(n,l),0):=by
 obtain ⟨g,rfl⟩:∃ g,f = g + 1:=⟨f - 1,by omega⟩;unfold f5;rw [h]
def a5h {f:Nat} {n:Int} {s:St} (hf:0 < f) (h:cz l p m = some s) {n' e:Int} {l':List Rw} (h2:bu n l p m s = (n',l',e)) (he:¬ e = 0):f5 f n l p m acc = ([],(0,[]),e):=by
 obtain ⟨g,rfl⟩:∃ g,f = g + 1:=⟨f - 1,by omega⟩;unfold f5;rw [h];simp only;rw [h2];simp only;rw [if_neg he]
def vd {f:Nat} {n:Int} {s:St} (hf:0 < f) (h:cz l p m = some s) {n':Int} {l':List Rw} (h2:bu n l p m s = (n',l',0)):f5 f n l p m acc = f5 (f - 1) n' l' p m (acc ++ [s]):=by
 obtain ⟨g,rfl⟩:∃ g,f = g + 1:=⟨f - 1,by omega⟩;rw [Nat.add_sub_cancel]
 conv=>lhs;unfold f5
 rw [h];simp only;rw [h2];simp only;rw [if_pos trivial]
end
end
section
open Go.Proofs
def at1 (n:Int) (l:List Rw) (p m:List Fd) (s:St) (hT:tok n l = true) (hp:p.all (inU n) = true) (h:qo l p m s) :
 a8 b62 91 [pT n l,pP (fdl p),pP (fdl m),s.pc] (ah [pT (bu n l p m s).1 (bu n l p m s).2.1,pI (bu n l p m s).2.2]):=by
 obtain ⟨mu,i,a,b⟩:=s;obtain ⟨ha,hb,h | h⟩:=h
 · obtain ⟨h1,h2,h3⟩:=h
   cases h1;exact afg n l p m i a b hT ha hb h2 (b3d.1 hp _ (by rw [b26,b25 h2];exact b2l h2))
 obtain ⟨h1,h2,h3⟩:=h;cases h1;exact afc n l p m i a b hT ha hb h2
abbrev St.c (s:St):Nat -> PV:=fun j=>[.raw (.bool s.1), .raw (.int .i64 (s.2.1:Int)), .raw (.int .i64 (s.2.2.1:Int)), .raw (.int .i64 (s.2.2.2:Int))].getD j .any
abbrev stl (l:List St):PV:=psl 4 St.c l
abbrev ckE (n:Int) (l:List Rw) (p m:List Fd):Int:=if tok n l = true then bj n p m else 1
section
variable {l:List Rw} {m p:List Fd} {n:Int}
def a5a (h:ckE n l p m = 0):tok n l = true /\ bj n p m = 0 /\ p.all (inU n) = true:=by
 unfold ckE at h;by_cases e:tok n l = true
 · rw [if_pos e] at h
   exact ⟨e,h,(ov h).2.2.2.1⟩
 rw [if_neg e] at h;omega
def fh (F:Nat) (n:Int) (l:List Rw) (p m:List Fd):List St × (Int × List Rw) × Int:=if ckE n l p m = 0 then f5 F n l p m [] else ([],(0,[]),ckE n l p m)
variable {F:Nat}
def a3m (h:¬ ckE n l p m = 0):fh F n l p m = ([],(0,[]),ckE n l p m):=if_neg h
def oo (h:ckE n l p m = 0):fh F n l p m = f5 F n l p m []:=if_pos h
def aer {α:Type} {o:Option α} (h:o.isSome = false):o = none:=by cases o <;> simp_all
def ae8 {α:Type} {o:Option α} (d:α) (h:o.isSome = true):o = some (o.getD d):=by cases o <;> simp_all
def ab8 (l:List Rw):Cov l.flatten l:=fun r hr z hz=>List.mem_flatten.2 ⟨r,hr,hz⟩
structure StI (F:Nat) (n:Int) (l:List Rw) (p m:List Fd) (x:Nat × List Rw × List St):Prop where
 t:tok n x.2.1 = true
 c:Cov l.flatten x.2.1
 u:muC l.flatten x.2.1 < x.1
 b:x.2.2.length + x.1 <= F
 e:f5 x.1 n x.2.1 p m x.2.2 = f5 F n l p m []
theorem StI.start (hT:tok n l = true) (hF:muC l.flatten l < F):StI F n l p m (F,l,[]):=⟨hT,ab8 l,hF,by simp,rfl⟩
variable {x:Nat × List Rw × List St}
theorem StI.next {s:St} (h:StI F n l p m x) (hp:p.all (inU n) = true) (hS:cz x.2.1 p m = some s) (he:(bu n x.2.1 p m s).2.2 = 0):
 (bu n x.2.1 p m s).1 = n /\ StI F n l p m (x.1 - 1,(bu n x.2.1 p m s).2.1,x.2.2 ++ [s]):=by
 have hu:=h.u;have hb:=h.b
 rcases abv h.t hp (a19 hS) with e | ⟨l',e,h1,h2⟩
 · rw [e] at he;exact absurd he b5i
 have hq:=h2 _ h.c;refine ⟨by rw [e], ?_⟩;rw [e];exact ⟨h1,hq.1,by show muC _ l' < _;omega,by simp only [b2s,b46];omega,by rw [<- h.e,vd b5c hS e]⟩
theorem StI.fin (h:StI F n l p m x) (hS:cz x.2.1 p m = none):f5 F n l p m [] = (x.2.2,(n,x.2.1),0):=by
 have hu:=h.u;rw [<- h.e,a59 b5c hS]
theorem StI.err {s:St} (h:StI F n l p m x) (hS:cz x.2.1 p m = some s) (he:¬ (bu n x.2.1 p m s).2.2 = 0):f5 F n l p m [] = ([],(0,[]),(bu n x.2.1 p m s).2.2):=by
 have hu:=h.u;rw [<- h.e];exact a5h b5c hS rfl he
end
end
section
open Go.Proofs
def aty (F:Nat) (n:Int) (l:List Rw) (p m:List Fd) (hF:tok n l = true -> muC l.flatten l < F) (hFb:F <= 4000000000):a8 b62 86 [pT n l,pP (fdl p),pP (fdl m)] (ah [pP (stl (fh F n l p m).1),pT (fh F n l p m).2.1.1 (fh F n l p m).2.1.2,pI (fh F n l p m).2.2]):=by
 refine hpx (nt:=53) Tryz.func86 ?_;refine sx7 ?_;refine m9 0 ?_;refine qy ?_;refine m9 1 ?_;refine w_8 ?_;refine qcx aa0 (a3s n l p m) ?_;refine w_7 ?_;refine hcn (fun h0=>?_) (fun h0=>?_)
 · refine w_8 ?_;refine hrr ?_;have he:=a3m (F:=F) (n:=n) (l:=l) (p:=p) (m:=m) b5d;exact f9 rfl rfl (by rw [he];exact ⟨CoC.one (CoP.sl rfl (.inr rfl) (fun _=>rfl) (fun i j hi _=>absurd hi (b2c i))),CoC.agg ⟨CoP.refl _,aw,trivial⟩,CoC.refl _,trivial⟩)
 have hck:ckE n l p m = 0:=by assumption
 obtain ⟨hT,hbe,hpa⟩:=a5a hck;obtain ⟨hn0,hn16,hl256,hrow⟩:=ew hT;have hbig:∀ i,i < l.length -> (l.getD i default).length <= 17592186044416:=fun i hi=>by rw [hrow i hi];omega
 refine w_4 ?_;refine qcx a6t (ali n l hbig b5c) ?_;refine w_6 ?_;refine fe 10 900 true 4 85 (lf St.c []) b5i rfl (CoP.sl rfl (.inr rfl) (fun h=>h) (fun i j hi _=>absurd hi (b2c i))) (.inr rfl) rfl ?_;refine a2q ?_;refine am (ι:=Nat × List Rw × List St) (ka 1 (ka 2 (ka 3 (ka 7 kn)))) (kb 1 km) (fun x=>⟨[(10,some (.v (.one (.ref 900 x.2.2.length))))],[(0,some (.box [.p (.raw (.int .i64 n)), .p (rl x.2.1)])),(900,some (.arr true 4 85 x.2.2.length (lf St.c x.2.2)))]⟩) (fun x=>StI F n l p m x) (fun x=>x.1) ((F,l,[])) (StI.start hT (hF hT)) kk ?_;rintro x hX;have hXu:=hX.u;have hXb:=hX.b;refine w_6 ?_;refine qcx (wgx Tryz.func126) (auc n x.2.1 p m hX.t) ?_;refine w_3 ?_;refine m9 2 ?_;refine w_9 ?_;refine hcv (fun h1=>?_) (fun h1=>?_)
 · have hS:=aer (by simpa using h1);refine w_9 ?_;refine bo 6 rfl rfl rfl ?_;refine hrr ?_;have he:=(oo hck).trans (hX.fin hS);exact f9 rfl rfl (by rw [he];exact CoL.refl _)
 have hS:=ae8 (false,0,0,0) (by simpa using h1);refine w_7 ?_;refine qcx ace (at1 n x.2.1 p m ((cz x.2.1 p m).getD (false,0,0,0)) hX.t hpa (a19 hS)) ?_;refine w_3 ?_;refine m9 3 ?_;refine w_9 ?_;refine hcn (fun h2=>?_) (fun h2=>?_)
 · refine w_8 ?_;refine hrr ?_;have he:=(oo hck).trans (hX.err hS b5d);exact f9 rfl rfl (by rw [he];exact ⟨CoC.one (CoP.sl rfl (.inr rfl) (fun _=>rfl) (fun i j hi _=>absurd hi (b2c i))),CoC.agg ⟨CoP.refl _,aw,trivial⟩,CoC.refl _,trivial⟩)
 have hnx:=hX.next hpa hS b5d
 refine w_4 ?_;refine m9 4 ?_;refine r9 5 true ?_;refine w_5 ?_;refine ⟨(x.1 - 1,(bu n x.2.1 p m ((cz x.2.1 p m).getD (false,0,0,0))).2.1,x.2.2 ++ [((cz x.2.1 p m).getD (false,0,0,0))]), ?_, ?_, ?_⟩
 · exact hnx.2
 · show x.1 - 1 < x.1
   omega
 exact ⟨⟨⟨_,rfl,(ju rfl)⟩,tt⟩,⟨⟨_,rfl,⟨CoP.of_eq (by rw [hnx.1]),CoH.refl _,trivial⟩⟩,⟨_,rfl,(vv rfl (fun j hj=>by match j,hj with | 0,_=>exact CoP.refl _ | 1,_=>exact CoP.refl _ | 2,_=>exact CoP.refl _ | 3,_=>exact CoP.refl _) rfl)⟩,uu⟩⟩
end
section
def ac4:∀ {l:List Rw},(∀ r,r ∈ l -> r.length <= 16) -> l.flatten.length <= 16 * l.length
 | [],_=>by simp
 | r :: l,h=>by
  have h1:=h r b5f;have h2:=ac4 (l:=l) fun r hr=>h r (by simp [hr]);simp only [List.flatten_cons,b2s,b3m];omega
abbrev FU:Nat:=1300000
def aar {n:Int} {l:List Rw} (h:tok n l = true):muC l.flatten l < FU:=by
 obtain ⟨h0,h1,h2,h3⟩:=ew h;have h4:=ac4 (l:=l) fun r hr=>by have:=(jt h r hr).1;omega
 have h5:a6o l.flatten l <= l.flatten.length:=List.countP_le_length;unfold muC;show _ < 1300000;omega
def at3 {n:Int} {i:Nat} {p:AS} {k a N:Nat} (h:ci p (k:Int) = true) (hN:N = n.toNat) (ha:a = k) :
 CoO (.arr true 1 3 N (dw (lf zC (stT n i p k)) a 0 [.raw (.int .i64 (k:Int))])) (.arr true 1 3 N (lf zC (stT n i p (k + 1)))):=by
 subst ha;refine ⟨fun h=>h,rfl,rfl,rfl,fun c j hc hj=>CoP.of_eq ?_⟩;obtain rfl:j = 0:=by omega
 show _ = PV.raw (.int .i64 ((stT n i p (a + 1)).getD c default));rw [a33 c b5c];unfold dw;by_cases e:c = a
 · rw [if_pos ⟨e,by omega,by simp⟩,if_pos e]
   unfold stV;rw [if_pos h];rfl
 rw [if_neg (fun x=>e x.1),if_neg e];rfl
def aim {k:Nat} (h:k < 32):ci (j3 32) (k:Int) = true:=by
 rw [ge h,qj 32 k h];exact decide_eq_true h
def aiq {n:Int} {k:Nat} (h1:n <= 16) (hk:n.toNat <= k):stT n 0 (j3 32) k = br n:=by
 rw [aej _ _ _ hk];unfold stR br;refine b3x fun c hc=>?_;have:=b2v.1 hc;unfold stV;rw [if_pos (aim b5c)]
def ai1 {n:Int} {k:Nat} (h1:n <= 16) (hk:n.toNat <= k):CoC (.one (.sl n.toNat 1 false (lf zC (stT n 0 (j3 32) k)))) (pZ (br n)):=by
 rw [aiq h1 hk];exact ahp (a48 n)
abbrev uy (n:Int) (x:Fd):List AS:=[x.lhs ||| x.rhs,x.lhs ||| (bi n &&& ~~~x.rhs)]
def b0h (n:Int) (p m:List Fd) (x:Fd):Bool × Int :=
 if bj n p m = 0 then
  if inU n x = true then
   if (ej n (uy n x)).2.2 = 0 then
    if (fh FU (ej n (uy n x)).1 (ej n (uy n x)).2.1 p m).2.2 = 0 then ((fh FU (ej n (uy n x)).1 (ej n (uy n x)).2.1 p m).2.1.2.any (fun r=>decide (r = br n)),0)
    else (false,(fh FU (ej n (uy n x)).1 (ej n (uy n x)).2.1 p m).2.2)
   else (false,(ej n (uy n x)).2.2)
  else (false,1)
 else (false,bj n p m)
end
section
def aud {r:Rw} {g f:Nat -> Nat -> PV} (hf:∀ i j,f i j = lf zC r i j):CoP (.sl (0 + r.length) 1 false (d6 0 g f)) (zl r) :=
 CoP.sl (b2r _).symm (.inl rfl) (fun h=>h) fun i j hi hj=>CoP.of_eq (by simp [d6,hf])
def agx {l:List Rw} {i k:Nat} {g f:Nat -> Nat -> PV} {e et:TypeId} (hk:k = (l.getD i default).length) (hf:∀ a b,f a b = lf zC (l.getD i default) a b) :
 CoO (.nest e et 1 (i + 1) (lq (nM l) i k) (np (mg (be l)) i (d6 0 g f)) none) (.nest e et 1 (i + 1) (nM l) (mg (be l)) none):=by
 have e:d6 0 g f = lf zC (l.getD i default):=by funext a b;simp [d6,hf]
 rw [e];exact a7r hk rfl
end
section
open Go.Proofs
def a7d:goodFn b62 133:=wgx Tryz.func133
def a9m (l:List Rw) (hl:∀ i,i < l.length -> (l.getD i default).length <= 17592186044416) (hl2:l.length <= 5864062014805):c4 b62 133 [.one (.p (rl l))] [] (.v (.one (.ref 901 l.length))) [(901, .arr true 1 97 l.length (lf rC l))] []:=by
 refine hfx (nt:=21) Tryz.func133 ?_;refine c7 ?_;refine ca 0 rfl fun hn=>?_;refine w_7 ?_;refine fe 3 901 true 1 97 (lf rC l) b5i rfl (CoP.sl rfl (.inr rfl) (fun h=>h) (fun i j hi _=>absurd hi (b2c i))) (.inr rfl) rfl ?_;refine w_6 ?_;refine ce (ka 0 kn) km (fun i=>⟨[(3,some (.v (.one (.ref 901 i)))),(4,some (vI i))],[(901,some (.arr true 1 97 i (lf rC l)))]⟩) l.length kk ?_;rintro i hi;refine w_8 ?_;refine hcd (fun h0=>?_) (fun h0=>?_)
 · have hli:=hl i b5c;refine w_3 ?_;refine agv [0,1,2,3,4,5,6] [7,8,9] rfl ?_;refine aix (E:=ph) qe ?_;refine qy ?_;refine m9 0 ?_;refine w_4 ?_;refine r9 1 true ?_;refine ck ?_;refine axg ?_;refine jd 17 rfl rfl rfl ?_;refine n4 ?_;refine aix (E:=ph) (L1:=[7,8,9]) (L2:=[]) qe ?_;refine m9 2 ?_;refine r9 3 true ?_;refine w_2 ?_;refine avt ?_;refine w_5 ?_;exact lpx (i + 1) ⟨tt,⟨⟨_,rfl,(fk (fun h=>h) (fun j hj=>by obtain rfl:j = 0:=b5c;exact aud (fun _ _=>rfl)))⟩,trivial⟩⟩
 obtain rfl:i = l.length:=by omega
 refine w_6 ?_;refine hrr ?_;exact ⟨_,_,rfl,b5e,CoR.refl _,uu⟩
def ahw (l:List Rw) (hl:∀ i,i < l.length -> (l.getD i default).length <= 17592186044416) (hl2:l.length <= 5864062014805):c4 b62 133 [.one (.p (rl l))] [] (.v (.one (.ref 901 l.length))) [(901, .nest 97 3 1 l.length (nM l) (mg (be l)) none)] []:=by
 refine hfx (nt:=21) Tryz.func133 ?_;refine c7 ?_;refine ca 0 rfl fun hn=>?_;refine w_7 ?_;refine aib 3 901 97 3 1 (nM l) (mg (be l)) b5i rfl rfl ?_;refine w_6 ?_;refine ce (ka 0 kn) km (fun i=>⟨[(3,some (.v (.one (.ref 901 i)))),(4,some (vI i))],[(901,some (.nest 97 3 1 i (nM l) (mg (be l)) none))]⟩) l.length kk ?_;rintro i hi;refine w_8 ?_;refine hcd (fun h0=>?_) (fun h0=>?_)
 · have hli:=hl i b5c;refine w_5 ?_;refine m9 0 ?_;refine w_4 ?_;refine r9 1 true ?_;refine m9 2 ?_;refine r9 3 true ?_;refine w_2 ?_;refine a7l 901 0 rfl rfl ?_;refine w_5 ?_;exact lpx (i + 1) ⟨tt,⟨⟨_,rfl,(agx (b2r _) (fun _ _=>rfl))⟩,trivial⟩⟩
 obtain rfl:i = l.length:=by omega
 refine w_6 ?_;refine hrr ?_;exact ⟨_,_,rfl,b5e,CoR.refl _,uu⟩
end
section
def akr {s:AS} {n:Nat} (hn:n <= 32) (h:∀ j,j ∈ b6 s -> j < n):ek s n = b6 s:=by
 have h2:∀ d,n + d <= 32 -> ek s (n + d) = ek s n:=by
  intro d
  induction d with
  | zero=>intro _;rfl
  | succ d ih =>
   intro hd
   have hf:ci s ((n + d:Nat):Int) = false:=by
    rw [ge b5c,b2e];intro e;have:=h _ (uz.2 ⟨by omega,e⟩);omega
   rw [<- ih b5c];exact a0k (i:=n + d) (show n + d < 32 by omega) hf
 have:=h2 (32 - n) b5c;rw [<- this,show n + (32 - n) = 32 by omega];rfl
def mn {M:Nat -> Nat -> Int} {a b j:Nat} {js:List Nat}:eqMs M a b (js ++ [j]) = eqM (eqMs M a b js) a b j:=by
 unfold eqMs;rw [b4l];rfl
def ao2 {l:List Rw} {M:Nat -> Nat -> Int} {n:Nat} (hn:n = l.length):CoP (.sl n 1 false (ud 1 (nM l) (mg M))) (rl (cj l M)):=by
 obtain ⟨_,_,_,h1,h2⟩:=aen (l:=l) (M:=M) (e:=25) hn;exact CoP.sl h1 (.inl rfl) (fun h=>h) h2
end
end Go.Hx

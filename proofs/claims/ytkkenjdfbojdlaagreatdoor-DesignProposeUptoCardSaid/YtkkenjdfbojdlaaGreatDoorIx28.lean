/- A part of the proof: X12 Ch9 X13 Ch10 X14 Ch11 Ch12 Ch13 X15 Ch14 Ch17 X20 Ch18. -/
import Derived.Test.YtkkenjdfbojdlaaGreatDoorIx15
import Derived.Test.YtkkenjdfbojdlaaGreatDoorIx21
import Derived.Test.YtkkenjdfbojdlaaGreatDoorIx27
set_option linter.all false
set_option maxRecDepth 100000
set_option maxHeartbeats 1000000
namespace Go.Hx
section
open Go.Proofs
def bcr (n:Int) (l:List Rw) (p m:List Fd) (hT:tok n l = true):a6 brj 201 [pT n l,pP (fdl p),pP (fdl m)] (a8 [St.pc ((ez l p m).getD (false,0,0,0)),pB (ez l p m).isSome]):=by
 refine hpx (nt:=132) Tryz.func201 ?_;refine cg ?_;obtain ⟨hn0,hn16,hl256,hrow⟩:=jn hT;refine ca 1 rfl fun hn1=>?_;refine ca 2 rfl fun hn2=>?_;refine gy ?_;refine m9 0 ?_;refine m9 1 ?_;refine bz ?_;refine ae (ι:=Nat) (ka 2 (ka 3 (ka 6 (ka 16 (ka 17 kn))))) (kb 0 (kb 1 km)) (fun i=>⟨[(18,some (vI i))],[]⟩) (fun i=>i <= p.length /\ (∀ i',i' < i -> ∀ a',a' < l.length -> ∀ b',b' < l.length -> fc l (p.getD i' default) a' b' = false)) (fun i=>p.length - i) (0) (⟨bms _,bq⟩) kk ?_;rintro i ⟨hi,hI⟩;refine w_5 ?_;refine hcd (fun h0=>?_) (fun h0=>?_)
 ·
  refine w_8 ?_;refine m9 2 ?_;refine cq ?_;refine ae (ι:=Nat) (ka 2 (ka 3 (ka 6 (ka 8 (ka 9 (ka 16 (ka 17 (ka 18 (ka 25 kn))))))))) (kb 0 (kb 1 (kb 2 km))) (fun a=>⟨[(26,some (vI a))],[]⟩) (fun a=>a <= l.length /\ (∀ a',a' < a -> ∀ b',b' < l.length -> fc l (p.getD i default) a' b' = false)) (fun a=>l.length - a) (0) (⟨bms _,bq⟩) kk ?_;rintro a ⟨ha,hA⟩;refine w_5 ?_;refine hcd (fun h1=>?_) (fun h1=>?_)
  ·
   refine pg ?_;refine ae (ι:=Nat) (ka 2 (ka 3 (ka 6 (ka 8 (ka 9 (ka 10 (ka 16 (ka 17 (ka 18 (ka 25 (ka 26 (ka 31 kn)))))))))))) (kb 0 (kb 1 (kb 2 km))) (fun b=>⟨[(32,some (vI b))],[]⟩) (fun b=>b <= l.length /\ (∀ b',b' < b -> fc l (p.getD i default) a b' = false)) (fun b=>l.length - b) (0) (⟨bms _,bq⟩) kk ?_;rintro b ⟨hb,hB⟩;refine w_5 ?_;refine hcd (fun h2=>?_) (fun h2=>?_)
   ·
    refine am5 ?_;refine qcx a35 (a7r (l.getD a default) (l.getD b default) (p.getD i default).lhs (by rw [hrow _ bqx,hrow _ bqx]) (by rw [hrow _ bqx];omega)) ?_;refine qy ?_;refine ai rfl rfl (fun r3=>?_) (fun r3=>?_)
    ·
     have h3:=r3;(iterate 12 refine qy ?_ (hg:=(gtt r3)));refine qcx a35 (a7r (l.getD a default) (l.getD b default) (p.getD i default).rhs (by rw [hrow _ bqx,hrow _ bqx]) (by rw [hrow _ bqx];omega)) ?_ (hg:=(gtt r3));refine qy ?_ (hg:=(gtt r3));refine w_3 ?_;refine aj _ rfl (fun r4=>?_) (fun r4=>?_)
     · have h4:=cu (bt r3 r4);refine w_9 ?_;refine hrr ?_;have he:=bbg (m:=m) (a2i (P:=fun i a b=>fc l (p.getD i default) a b) (i:=i) (a:=a) (b:=b) bqx bqx bqx (bac bqy bqy) hI hA hB);exact f9 rfl rfl (by rw [he];exact CoL.refl _)
     have h4:=ct (bt r3 r4);refine w_5 ?_;refine lpz (b + 1) kk ?_;exact ⟨by show b + 1 <= _;omega,aw hB (by first | exact a48 bqy | exact aat bqy)⟩
    have h3:=r3;(iterate 14 refine k9 (gft r3) ?_);refine rq rfl rfl rfl rfl rfl ?_ (hp:=r3);refine w_8 ?_;refine lpz (b + 1) kk ?_
    exact ⟨by show b + 1 <= _;omega,aw hB (by first | exact a48 bqy | exact aat bqy)⟩
   refine w_5 ?_;refine lpz (a + 1) kk ?_;exact ⟨by show a + 1 <= _;omega,aw hA (fun b' hb'=>hB b' bqx)⟩
  refine w_5 ?_;refine lpz (i + 1) kk ?_;exact ⟨by show i + 1 <= _;omega,aw hI (fun a' ha'=>hA a' bqx)⟩
 obtain rfl:i = p.length:=by omega
 have hno:=a2j (P:=fun i a b=>fc l (p.getD i default) a b) (I:=p.length) (L:=l.length) hI;refine w_9 ?_;refine ae (ι:=Nat) (ka 3 (ka 6 (ka 71 (ka 72 kn)))) (kb 0 (kb 1 km)) (fun k=>⟨[(73,some (vI k))],[]⟩) (fun k=>k <= m.length /\ (∀ i',i' < k -> ∀ a',a' < l.length -> ∀ b',b' < l.length -> ff l (m.getD i' default) a' b' = false)) (fun k=>m.length - k) (0) (⟨bms _,bq⟩) kk ?_;rintro k ⟨hk,hK⟩;refine w_5 ?_;refine hcd (fun h5=>?_) (fun h5=>?_)
 ·
  refine w_8 ?_;refine m9 3 ?_;refine cq ?_;refine ae (ι:=Nat) (ka 3 (ka 6 (ka 12 (ka 13 (ka 71 (ka 72 (ka 73 (ka 80 kn)))))))) (kb 0 (kb 1 (kb 3 km))) (fun c=>⟨[(81,some (vI c))],[]⟩) (fun c=>c <= l.length /\ (∀ a',a' < c -> ∀ b',b' < l.length -> ff l (m.getD k default) a' b' = false)) (fun c=>l.length - c) (0) (⟨bms _,bq⟩) kk ?_;rintro c ⟨hc,hC⟩;refine w_5 ?_;refine hcd (fun h6=>?_) (fun h6=>?_)
  ·
   refine pg ?_;refine ae (ι:=Nat) (ka 3 (ka 6 (ka 12 (ka 13 (ka 14 (ka 71 (ka 72 (ka 73 (ka 80 (ka 81 (ka 86 kn))))))))))) (kb 0 (kb 1 (kb 3 km))) (fun d=>⟨[(87,some (vI d))],[]⟩) (fun d=>d <= l.length /\ (∀ b',b' < d -> ff l (m.getD k default) c b' = false)) (fun d=>l.length - d) (0) (⟨bms _,bq⟩) kk ?_;rintro d ⟨hd,hD⟩;refine w_5 ?_;refine hcd (fun h7=>?_) (fun h7=>?_)
   ·
    refine am5 ?_;refine qcx a35 (a7r (l.getD c default) (l.getD d default) (m.getD k default).lhs (by rw [hrow _ bqx,hrow _ bqx]) (by rw [hrow _ bqx];omega)) ?_;refine qy ?_;refine ai rfl rfl (fun r8=>?_) (fun r8=>?_)
    ·
     have h8:=r8;(iterate 16 refine qy ?_ (hg:=(gtt r8)));refine rc rfl rfl rfl rfl rfl rfl (wgx Tryz.func226) (awv (l.getD c default) (l.getD d default) ((m.getD k default).lhs ||| (m.getD k default).rhs) (by rw [hrow _ bqx,hrow _ bqx]) (by rw [hrow _ bqx];omega)) (⟨CoC.refl _,CoC.refl _,cci (by rw [bOr];rfl),trivial⟩) rfl (gtt r8) ?_;refine qcx ahf (atd n l (dy (l.getD c default) (l.getD d default) ((m.getD k default).lhs ||| (m.getD k default).rhs))) ?_ (hg:=(gtt r8));refine qy ?_ (hg:=(gtt r8));refine w_3 ?_;refine aj _ rfl (fun r9=>?_) (fun r9=>?_)
     · have h9:=cu (bt r8 r9);refine w_9 ?_;refine hrr ?_;have he:=b8a hno (a2i (P:=fun i a b=>ff l (m.getD i default) a b) (i:=k) (a:=c) (b:=d) bqx bqx bqx (b5t bqy bqy) hK hC hD);exact f9 rfl rfl (by rw [he];exact CoL.refl _)
     have h9:=ct (bt r8 r9);refine w_5 ?_;refine lpz (d + 1) kk ?_;exact ⟨by show d + 1 <= _;omega,aw hD (by first | exact ao8 bqy | exact abo bqy)⟩
    have h8:=r8;(iterate 19 refine k9 (gft r8) ?_);refine rq rfl rfl rfl rfl rfl ?_ (hp:=r8);refine w_8 ?_;refine lpz (d + 1) kk ?_
    exact ⟨by show d + 1 <= _;omega,aw hD (by first | exact ao8 bqy | exact abo bqy)⟩
   refine w_5 ?_;refine lpz (c + 1) kk ?_;exact ⟨by show c + 1 <= _;omega,aw hC (fun b' hb'=>hD b' bqx)⟩
  refine w_5 ?_;refine lpz (k + 1) kk ?_;exact ⟨by show k + 1 <= _;omega,aw hK (fun a' ha'=>hC a' bqx)⟩
 refine w_7 ?_;refine hrr ?_;have he:=b64 hno (a2j (P:=fun i a b=>ff l (m.getD i default) a b) (I:=m.length) (L:=l.length) fun j hj=>hK j bqx);exact f9 rfl rfl (by rw [he];exact CoL.refl _)
end
section
def stV (n:Int) (i:Nat) (p:AS) (c:Nat):Int:=if d9 p (c:Int) = true then (c:Int) else n + (i:Int) * n + (c:Int)
def stT (n:Int) (i:Nat) (p:AS) (k:Nat):Rw:=(List.range n.toNat).map fun c=>if c < k then stV n i p c else 0
def stR (n:Int) (i:Nat) (p:AS):Rw:=(List.range n.toNat).map fun c=>stV n i p c
def bo (n:Int) (ps:List AS):List Rw:=(List.range ps.length).map fun i=>stR n i (ps.getD i default)
def agl (n:Int) (i:Nat) (p:AS):(stR n i p).length = n.toNat:=by unfold stR;simp
def ru (n:Int) (ps:List AS):(bo n ps).length = ps.length:=by unfold bo;simp
section
variable {i:Nat} {n:Int} {ps:List AS}
def ahk (h:i < ps.length):(bo n ps).getD i default = stR n i (ps.getD i default):=by
 unfold bo;rw [bmm,bnc,boa h];rfl
variable {k:Nat}
def aqm (n:Int) (i:Nat) (p:AS) (h:n.toNat <= k):stT n i p k = stR n i p:=by
 unfold stT stR;refine bp2 fun c hc=>?_;have:=bn3.1 hc;rw [if_pos bqx]
variable {p:AS}
def akb {c:Nat} (h:c < n.toNat):(stT n i p k).getD c default = if c < k then stV n i p c else 0:=by
 unfold stT;rw [bmm,bnc,boa h];rfl
def ap2 {N:Nat} {f:Nat -> Nat -> PV} (hN:N = n.toNat) (hf:∀ a,f a 0 = .raw (.int .i64 0)):CoO (.arr true 1 3 N f) (.arr true 1 3 N (lf zC (stT n i p 0))) :=
 ⟨fun h=>h,rfl,rfl,rfl,fun a j ha hj=>by
  obtain rfl:j = 0:=by omega
  refine CoP.of_eq ?_;rw [hf];show _ = PV.raw (.int .i64 ((stT n i p 0).getD a default))
  rw [akb bqx,if_neg bqx]⟩
def aax:∀ c,c < n.toNat -> (stT n i p (k + 1)).getD c default = if c = k then stV n i p k else (stT n i p k).getD c default:=fun c hc=>by
 rw [akb hc,akb hc];by_cases h:c = k
 · rw [if_pos h,if_pos bqx,h]
 rw [if_neg h];by_cases h2:c < k
 · rw [if_pos h2,if_pos bqx]
 rw [if_neg h2,if_neg bqx]
def azc {a b N:Nat} {x:Int} (h:d9 p (k:Int) = true) (hN:N = n.toNat) (ha:a = k) (hb:b = k):
 CoO (.arr true 1 3 N (eu (eu (lf zC (stT n i p k)) a 0 [.raw (.int .i64 x)]) b 0 [.raw (.int .i64 (k:Int))])) (.arr true 1 3 N (lf zC (stT n i p (k + 1)))):=by
 subst ha hb;refine ⟨fun h=>h,rfl,rfl,rfl,fun c j hc hj=>CoP.of_eq ?_⟩;obtain rfl:j = 0:=by omega
 show _ = PV.raw (.int .i64 ((stT n i p (b + 1)).getD c default));rw [aax c bqx];unfold eu;by_cases e:c = b
 · rw [if_pos ⟨e,by omega,by simp⟩,if_pos e]
   unfold stV;rw [if_pos h];rfl
 rw [if_neg (fun x=>e x.1),if_neg (fun x=>e x.1),if_neg e];rfl
def axn {a N:Nat} (h:¬ d9 p (k:Int) = true) (hN:N = n.toNat) (ha:a = k):
 CoO (.arr true 1 3 N (eu (lf zC (stT n i p k)) a 0 [.raw (.int .i64 (n + (i:Int) * n + (k:Int)))])) (.arr true 1 3 N (lf zC (stT n i p (k + 1)))):=by
 subst ha;refine ⟨fun h=>h,rfl,rfl,rfl,fun c j hc hj=>CoP.of_eq ?_⟩;obtain rfl:j = 0:=by omega
 show _ = PV.raw (.int .i64 ((stT n i p (a + 1)).getD c default));rw [aax c bqx];unfold eu;by_cases e:c = a
 · rw [if_pos ⟨e,by omega,by simp⟩,if_pos e]
   unfold stV;rw [if_neg h];rfl
 rw [if_neg (fun x=>e x.1),if_neg e];rfl
def b5i {s:AS}:(asI s).fdiv (2 ^ (min n.toNat 32)) = 0 <-> s >>> n.toNat = 0:=by
 rw [y9,show (0:Int) = asI 0 from rfl,c7]
def bec (h0:0 <= n) (h1:n <= 16) (hi:i <= 64):0 <= (i:Int) * n /\ (i:Int) * n <= 1024:=by
 refine ⟨Int.mul_nonneg bqx h0, ?_⟩;have h2:(i:Int) * n <= (i:Int) * 16:=Int.mul_le_mul_of_nonneg_left h1 bqx;omega
def gv (n:Int) (ps:List AS):Int × List Rw × Int :=
 if n < 0 \/ 16 < n then (0,[],7) else if 64 < ps.length then (0,[],3) else if ps.all (fun p=>decide (p >>> n.toNat = 0)) = true then (n,au (bo n ps),0) else (0,[],1)
def a4i (h:n < 0 \/ 16 < n):gv n ps = (0,[],7):=if_pos h
def aou (h:¬ (n < 0 \/ 16 < n)) (h2:64 < ps.length):gv n ps = (0,[],3):=by unfold gv;rw [if_neg h,if_pos h2]
def ami (h:¬ (n < 0 \/ 16 < n)) (h2:¬ 64 < ps.length) (hi:i < ps.length) (h3:¬ (ps.getD i default) >>> n.toNat = 0):gv n ps = (0,[],1):=by
 unfold gv;rw [if_neg h,if_neg h2,if_neg (fun e=>absurd (adp (l:=ps) (p:=fun p:AS=>decide (p >>> n.toNat = 0)) hi (decide_eq_false h3)) (by rw [e];decide))]
def abz (h:¬ (n < 0 \/ 16 < n)) (h2:¬ 64 < ps.length) (h3:∀ j,j < ps.length -> (ps.getD j default) >>> n.toNat = 0):gv n ps = (n,au (bo n ps),0):=by
 unfold gv;rw [if_neg h,if_neg h2,if_pos (ajl (l:=ps) (p:=fun p:AS=>decide (p >>> n.toNat = 0)) fun j hj=>decide_eq_true (h3 j hj))]
def b3g (hi:i < ps.length) (hk:n.toNat <= k):CoP (.sl n.toNat 1 false (lf zC (stT n i (ps.getD i default) k))) (lf rC (bo n ps) i 0):=by
 show CoP _ (zl ((bo n ps).getD i default));rw [ahk hi,aqm n i _ hk];exact CoP.sl (agl _ _ _) (.inl rfl) (fun h=>h) fun a j ha hj=>CoP.refl _
end
end
section
open Go.Proofs
def bfj (n:Int) (ps:List AS):a6 brj 128 [pI n,pP (asl ps)] (a8 [pT (gv n ps).1 (gv n ps).2.1,pI (gv n ps).2.2]):=by
 refine hpx (nt:=73) Tryz.func128 ?_;refine sx7 ?_;refine m9 0 ?_;refine w_9 ?_;refine ai rfl rfl (fun r0=>?_) (fun r0=>?_)
 ·
  have h0:=tz1 r0;(iterate 2 refine k9 (gtf r0) ?_);refine rq rfl rfl rfl rfl rfl ?_ (hp:=r0);refine w_9 ?_;refine hrr ?_
  have he:=a4i (n:=n) (ps:=ps) bqx;exact f9 rfl rfl (by rw [he];exact ⟨CoC.agg ⟨CoP.refl _,be,trivial⟩,CoC.refl _,trivial⟩)
 have h0:=tz2 r0;(iterate 2 refine qy ?_ (hg:=(gff r0)));refine w_3 ?_;refine aj _ rfl (fun r1=>?_) (fun r1=>?_)
 · have h1:=tz1 (av r0 r1);refine w_6 ?_;refine hrr ?_;have he:=a4i (n:=n) (ps:=ps) bqx;exact f9 rfl rfl (by rw [he];exact ⟨CoC.agg ⟨CoP.refl _,be,trivial⟩,CoC.refl _,trivial⟩)
 have h1:=tz2 (av r0 r1);refine w_7 ?_;refine hcd (fun h2=>?_) (fun h2=>?_)
 · refine w_6 ?_;refine hrr ?_;have he:=aou (n:=n) (ps:=ps) bqx bqx;exact f9 rfl rfl (by rw [he];exact ⟨CoC.agg ⟨CoP.refl _,be,trivial⟩,CoC.refl _,trivial⟩)
 refine w_5 ?_;refine m9 1 ?_;refine w_2 ?_;refine sn 1 1 900 true 1 84 (lf rC (bo n ps)) br2 rfl rfl (CoP.sl rfl (.inr rfl) (fun h=>h) (fun i j hi _=>absurd hi (bmq i))) (.inr rfl) rfl rfl ?_;refine w_8 ?_;refine ae (ι:=Nat) (ka 0 (ka 4 (ka 6 (ka 26 (ka 27 kn))))) (kb 0 km) (fun i=>⟨[(28,some (vI i))],[(1,some (.box [.p (.raw (.int .i64 n)), .ref 900 i])),(900,some (.arr true 1 84 i (lf rC (bo n ps))))]⟩) (fun i=>i <= ps.length /\ ∀ j,j < i -> (ps.getD j default) >>> n.toNat = 0) (fun i=>ps.length - i) (0) (⟨bms _,bq⟩) kk ?_;rintro i ⟨hi,hI⟩;refine w_5 ?_;refine hcd (fun h3=>?_) (fun h3=>?_)
 ·
  have hin:=bec (n:=n) (i:=i) bqx bqx bqx;refine a2o ?_;refine hcn (fun h4=>?_) (fun h4=>?_)
  · refine w_6 ?_;refine hrr ?_;have he:=ami (n:=n) (ps:=ps) (i:=i) bqx bqx bqx (fun e=>absurd (b5i.2 e) bqy);exact f9 rfl rfl (by rw [he];exact ⟨CoC.agg ⟨CoP.refl _,be,trivial⟩,CoC.refl _,trivial⟩)
  refine w_4 ?_;refine m9 2 ?_;refine w_9 ?_;refine b7 (ka 0 (ka 4 (ka 6 (ka 7 (ka 8 (ka 9 (ka 26 (ka 27 (ka 28 (ka 40 kn)))))))))) (kb 1 (kb 900 (kb 0 km))) (fun k=>⟨[(41,some (vI k))],[(2,some (.arr true 1 3 n.toNat (lf zC (stT n i (ps.getD i default) k))))]⟩) n.toNat ⟨tt,⟨⟨_,rfl,(ap2 rfl (fun _=>rfl))⟩,trivial⟩⟩ ?_;rintro k hk;refine w_5 ?_;refine hcd (fun h5=>?_) (fun h5=>?_)
  ·
   refine bkv ?_;refine hcd (fun h6=>?_) (fun h6=>?_)
   · refine cq ?_;exact lpx (k + 1) ⟨tt,⟨⟨_,rfl,(by first | exact azc ((ve bqx).1 bqy) rfl bqx bqx | exact axn (fun e=>absurd ((ve bqx).2 e) bqy) rfl bqx)⟩,uu⟩⟩
   refine w_5 ?_;exact lpx (k + 1) ⟨tt,⟨⟨_,rfl,(by first | exact azc ((ve bqx).1 bqy) rfl bqx bqx | exact axn (fun e=>absurd ((ve bqx).2 e) bqy) rfl bqx)⟩,uu⟩⟩
  refine dj ?_;refine al 9 rfl rfl rfl ?_;refine w_4 ?_;refine m9 3 ?_;refine r9 4 true ?_;refine w_7 ?_;refine lpz (i + 1) ⟨tt,⟨u9,⟨_,rfl,(rt (fun h=>h) (fun j hj=>by obtain rfl:j = 0:=bqx;exact b3g bqx bqx))⟩,uu⟩⟩ ?_;exact ⟨by show i + 1 <= _;omega,aw hI (b5i.1 bqy)⟩
 obtain rfl:i = ps.length:=by omega
 refine w_4 ?_;refine fj rfl rfl rfl rfl rfl rfl afz ((afy n (bo n ps) (by rw [ru];omega))) (⟨⟨CoP.refl _,congrArg (HV.ref 900) (ru _ _).symm,trivial⟩,trivial⟩) ⟨⟨_,rfl,dg rfl (ru _ _).symm⟩,trivial⟩ rfl rfl ?_;refine w_3 ?_;refine hrr ?_;have he:=abz (n:=n) (ps:=ps) bqx bqx (fun j hj=>hI j bqx);exact f9 rfl rfl (by rw [he];exact CoL.refl _)
end
section
def df (n:Int):Rw:=(List.range n.toNat).map fun (i:Nat)=>(i:Int)
def ade (n:Int):(df n).length = n.toNat:=by unfold df;simp
section
variable {k:Nat} {n:Int}
def b3l (h:k < n.toNat):CoP (.raw (.int .i64 (k:Int))) (lf zC (df n) k 0):=by
 refine CoP.of_eq ?_;show _ = PV.raw (.int .i64 ((df n).getD k default));unfold df;rw [bmm,bnc,boa h];rfl
def am0 {i:Nat} {p:AS} (h:k < n.toNat):(stR n i p).getD k default = stV n i p k:=by
 unfold stR;rw [bmm,bnc,boa h];rfl
def asw {i:Nat} {p:AS} (h:k < n.toNat) (hh:d9 p (k:Int) = true):CoP (.raw (.int .i64 (k:Int))) (lf zC (stR n i p) k 0):=by
 refine CoP.of_eq ?_;show _ = PV.raw (.int .i64 ((stR n i p).getD k default));rw [am0 h];unfold stV;rw [if_pos hh]
def aqj {i:Nat} {p:AS} (h:k < n.toNat) (hh:d9 p (k:Int) = false):CoP (.raw (.int .i64 (n + (i:Int) * n + (k:Int)))) (lf zC (stR n i p) k 0):=by
 refine CoP.of_eq ?_;show _ = PV.raw (.int .i64 ((stR n i p).getD k default));rw [am0 h];unfold stV;rw [hh,if_neg br2]
def awi {ps:List AS} {i:Nat} (hi:i < ps.length) (hk:k = n.toNat):CoP (.sl k 1 false (lf zC (stR n i (ps.getD i default)))) (lf rC (bo n ps) i 0):=by
 show CoP _ (zl ((bo n ps).getD i default));rw [ahk hi];exact CoP.sl (by rw [agl,hk]) (.inl rfl) (fun h=>h) fun a j ha hj=>CoP.refl _
def a5t {s:AS} (h0:0 <= n) (h1:n <= 16):sub s (a7 n) <-> s >>> n.toNat = 0:=by
 unfold a7;rw [bok bqx];exact vm bqx
def a8i (l:List Rw) (x:Fd) (a b:Nat):Bool:=lm (l.getD a default) (l.getD b default) x.lhs && !(l.any fun r=>decide (r = dy (l.getD a default) (l.getD b default) x.rhs))
def al5 {a b:Rw} {s:AS} {g:Nat -> Nat -> PV} {f:Nat -> Nat -> PV} {e:TypeId} (hf:∀ i j,f i j = lf zC b i j):CoO (.arr true 1 e (0 + b.length) (fm 0 g f)) (.arr true 1 e (0 + b.length) (lf zC (mt a b s 0))):=by
 rw [<- ain];exact ⟨fun h=>h,rfl,rfl,rfl,fun i j _ _=>CoP.of_eq (by simp [fm,hf])⟩
def aql {a b:Rw} {s:AS} {m:Nat} (hk:k = b.length) (hm:m = b.length):CoC (.one (.sl m 1 false (lf zC (mt a b s k)))) (pZ (dy a b s)):=by
 subst hk;rw [akn];exact av8 ((py a b s).trans hm.symm)
end
end
section
open Go.Proofs
def bgm (n:Int) (h16:n <= 16):a6 brj 70 [pI n] (a8 [pZ (df n)]):=by
 refine hpx (nt:=15) Tryz.func70 ?_;refine w_8 ?_;refine bw 3 900 true 1 3 (lf zC (df n)) br2 rfl (CoP.sl rfl (.inr rfl) (fun h=>h) (fun i j hi _=>absurd hi (bmq i))) (.inr rfl) rfl ?_;refine w_6 ?_;refine b7 (ka 0 kn) km (fun i=>⟨[(3,some (.v (.one (.ref 900 i)))),(4,some (vI i))],[(900,some (.arr true 1 3 i (lf zC (df n))))]⟩) n.toNat kk ?_;rintro i hi;refine w_7 ?_;refine hcd (fun h0=>?_) (fun h0=>?_)
 · refine w_6 ?_;refine m9 0 ?_;refine r9 1 true ?_;refine w_7 ?_;exact lpx (i + 1) ⟨tt,⟨⟨_,rfl,(rt (fun h=>h) (fun j hj=>by obtain rfl:j = 0:=bqx;exact b3l bqx))⟩,trivial⟩⟩
 refine w_2 ?_;refine al 3 rfl rfl rfl ?_;refine v_4 ?_;exact ⟨CoC.one (CoP.sl (by rw [ade];omega) (.inl rfl) (fun h=>h) fun a j ha hj=>CoP.refl _),trivial⟩
def b8p (n:Int) (ps:List AS):a6 brj 130 [pI n,pP (asl ps)] (a8 [pT (gv n ps).1 (gv n ps).2.1,pI (gv n ps).2.2]):=by
 refine hpx (nt:=68) Tryz.func130 ?_;refine sx7 ?_;refine m9 0 ?_;refine w_8 ?_;refine ai rfl rfl (fun r0=>?_) (fun r0=>?_)
 ·
  have h0:=tz1 r0;(iterate 2 refine k9 (gtf r0) ?_);refine rq rfl rfl rfl rfl rfl ?_ (hp:=r0);refine w_8 ?_;refine hrr ?_
  have he:=a4i (n:=n) (ps:=ps) bqx;exact f9 rfl rfl (by rw [he];exact ⟨CoC.agg ⟨CoP.refl _,be,trivial⟩,CoC.refl _,trivial⟩)
 have h0:=tz2 r0;(iterate 2 refine qy ?_ (hg:=(gff r0)));refine w_2 ?_;refine aj _ rfl (fun r1=>?_) (fun r1=>?_)
 · have h1:=tz1 (av r0 r1);refine w_6 ?_;refine hrr ?_;have he:=a4i (n:=n) (ps:=ps) bqx;exact f9 rfl rfl (by rw [he];exact ⟨CoC.agg ⟨CoP.refl _,be,trivial⟩,CoC.refl _,trivial⟩)
 have h1:=tz2 (av r0 r1);refine w_8 ?_;refine hcd (fun h2=>?_) (fun h2=>?_)
 · refine w_6 ?_;refine hrr ?_;have he:=aou (n:=n) (ps:=ps) bqx bqx;exact f9 rfl rfl (by rw [he];exact ⟨CoC.agg ⟨CoP.refl _,be,trivial⟩,CoC.refl _,trivial⟩)
 refine w_5 ?_;refine bw 6 900 true 1 84 (lf rC (bo n ps)) br2 rfl (CoP.sl rfl (.inr rfl) (fun h=>h) (fun i j hi _=>absurd hi (bmq i))) (.inr rfl) rfl ?_;refine w_6 ?_;refine ae (ι:=Nat) (ka 0 (ka 1 (ka 4 kn))) (kb 0 km) (fun i=>⟨[(6,some (.v (.one (.ref 900 i)))),(7,some (vI i))],[(900,some (.arr true 1 84 i (lf rC (bo n ps))))]⟩) (fun i=>i <= ps.length /\ ∀ j,j < i -> (ps.getD j default) >>> n.toNat = 0) (fun i=>ps.length - i) (0) (⟨bms _,bq⟩) kk ?_;rintro i ⟨hi,hI⟩;refine w_8 ?_;refine hcd (fun h3=>?_) (fun h3=>?_)
 ·
  have hin:=bec (n:=n) (i:=i) bqx bqx bqx;refine cq ?_;refine qcx lr (lj n) ?_;refine qcx mf (su _ _) ?_;refine w_3 ?_;refine hcv (fun h4=>?_) (fun h4=>?_)
  · refine w_6 ?_;refine hrr ?_;have he:=ami (n:=n) (ps:=ps) (i:=i) bqx bqx bqx (fun e=>by have:=(a5t (n:=n) bqx bqx).2 e;simp_all);exact f9 rfl rfl (by rw [he];exact ⟨CoC.agg ⟨CoP.refl _,be,trivial⟩,CoC.refl _,trivial⟩)
  refine w_5 ?_;refine bw 8 901 true 1 3 (lf zC (stR n i (ps.getD i default))) br2 rfl (CoP.sl rfl (.inr rfl) (fun h=>h) (fun i j hi _=>absurd hi (bmq i))) (.inr rfl) rfl ?_;refine w_6 ?_;refine b7 (ka 0 (ka 1 (ka 4 (ka 6 (ka 7 kn))))) (kb 900 (kb 0 km)) (fun k=>⟨[(8,some (.v (.one (.ref 901 k)))),(9,some (vI k))],[(901,some (.arr true 1 3 k (lf zC (stR n i (ps.getD i default)))))]⟩) n.toNat kk ?_;rintro k hk;refine w_7 ?_;refine hcd (fun h5=>?_) (fun h5=>?_)
  ·
   refine bz ?_;refine qcx oq (a2g (ps.getD i default) (k:Int)) ?_;refine c6 ?_;refine hcb (fun h6=>?_) (fun h6=>?_)
   · refine w_3 ?_;refine m9 1 ?_;refine r9 2 true ?_;refine w_7 ?_;exact lpx (k + 1) ⟨tt,⟨⟨_,rfl,(by first | exact (rt (fun h=>h) (fun j hj=>by obtain rfl:j = 0:=bqx;exact asw bqx bqy)) | exact (rt (fun h=>h) (fun j hj=>by obtain rfl:j = 0:=bqx;exact aqj bqx bqy)))⟩,uu⟩⟩
   refine w_9 ?_;refine m9 3 ?_;refine r9 4 true ?_;refine w_7 ?_;exact lpx (k + 1) ⟨tt,⟨⟨_,rfl,(by first | exact (rt (fun h=>h) (fun j hj=>by obtain rfl:j = 0:=bqx;exact asw bqx bqy)) | exact (rt (fun h=>h) (fun j hj=>by obtain rfl:j = 0:=bqx;exact aqj bqx bqy)))⟩,uu⟩⟩
  refine dj ?_;refine al 8 rfl rfl rfl ?_;refine w_3 ?_;refine m9 5 ?_;refine r9 6 true ?_;refine w_7 ?_;refine lpz (i + 1) ⟨tt,⟨⟨_,rfl,(rt (fun h=>h) (fun j hj=>by obtain rfl:j = 0:=bqx;exact awi bqx bqx))⟩,uu⟩⟩ ?_;exact ⟨by show i + 1 <= _;omega,aw hI ((a5t bqx bqx).1 (by first | assumption | exact a08 bqy))⟩
 obtain rfl:i = ps.length:=by omega
 refine w_2 ?_;refine al 6 rfl rfl rfl ?_;refine w_3 ?_;refine rc rfl rfl rfl rfl rfl rfl agj (abv n (bo n ps) (by rw [ru];omega)) (⟨CoC.refl _,CoC.one (CoP.sl (by rw [ru]) (.inl rfl) (fun h=>h) fun a j ha hj=>CoP.refl _),trivial⟩) rfl rfl ?_;refine w_3 ?_;refine hrr ?_;have he:=abz (n:=n) (ps:=ps) bqx bqx (fun j hj=>hI j bqx);exact f9 rfl rfl (by rw [he];exact CoL.refl _)
end
section
def Wel (n:Int) (l:List Rw):Prop:=∀ r,r ∈ l -> r.length = n.toNat /\ ∀ z,z ∈ r -> 0 <= z
section
variable {l:List Rw}
def a2x {i:Nat} (h:i < l.length):l.getD i default ∈ l:=by
 rw [bmm,bml h];exact bnb h
def zd {n:Int} (h:tok n l = true):Wel n l:=by
 obtain ⟨h0,h1,h2,h3⟩:=jn h;unfold tok at h;rw [bmw,decide_eq_true_iff,decide_eq_true_iff] at h;rintro r hr;obtain ⟨i,hi,rfl⟩:=bng hr;have e:l.getD i default = l[i]:=by rw [bmm,bml hi];rfl
 rw [<- e];refine ⟨h3 i hi,fun z hz=>?_⟩;have:=h.2 i hi;unfold p6 at this;rw [bmw,bmw] at this;have h4:=this.1.2;rw [bnj,bof] at h4;have:=h4 z hz;rw [decide_eq_true_iff] at this;omega
def b8f {n:Int} (h:tok n l = true):qr l:=by
 unfold tok at h;rw [bmw,decide_eq_true_iff,decide_eq_true_iff] at h
 have hs:∀ d i:Nat,i + d + 1 < l.length -> ltZ (l.getD i default) (l.getD (i + d + 1) default) = true:=by
  intro d
  induction d with
  | zero =>
   intro i hi;have:=h.2 (i + 1) hi;unfold p6 at this;rw [bmw,bob,decide_eq_true_iff] at this
   rcases this.2 with h5 | h5
   · omega
   exact h5
  | succ d ih =>
   intro i hi;have h1:=ih i bqx;have:=h.2 (i + d + 1 + 1) bqx;unfold p6 at this;rw [bmw,bob,decide_eq_true_iff] at this
   rcases this.2 with h5 | h5
   · omega
   exact l6 h1 h5
 unfold qr;rw [boq];intro i j hi hj hij;obtain ⟨d,rfl⟩:∃ d,j = i + d + 1:=⟨j - i - 1,by omega⟩;have:=hs d i hj;rwa [bmm,bml hi,bmm,bml hj] at this
def bd1 {n:Int} (h0:0 <= n) (h1:n <= 16) (h2:l.length <= 256) (hw:Wel n l) (ho:qr l):tok n l = true:=by
 refine auc h0 h1 h2 fun i hi=>?_;obtain ⟨h3,h4⟩:=hw _ (a2x hi);refine a7b bqx ?_ ?_
 · rw [bof]
   intro z hz;have:=h4 z hz;rw [decide_eq_true_iff];omega
 rcases bon i with h | h
 · exact .inl h
 right;have:=boq.1 ho (i - 1) i bqx hi bqx;rw [bmm,bml bqx,bmm,bml hi];exact this
def a88 {n:Int} (h0:0 <= n) (h1:n <= 16) (h2:(au l).length <= 256) (hw:Wel n l):tok n (au l) = true :=
 bd1 h0 h1 h2 (fun r hr=>hw r (i7.1 hr)) (j8 l)
def inV (l:List Rw) (M:Nat -> Nat -> Int) (z:Int):Prop:=∃ i r,i < l.length /\ r < (l.getD i default).length /\ M i r = z
def aqb {z:Int}:inV l (ci l) z <-> ∃ r,r ∈ l /\ z ∈ r:=by
 constructor
 · rintro ⟨i,r,hi,hr,rfl⟩
   refine ⟨_,a2x hi, ?_⟩;show (l.getD i default).getD r default ∈ _;rw [bmm (l:=l.getD i default),bml hr];exact bnb hr
 rintro ⟨r,hr,hz⟩;obtain ⟨i,hi,rfl⟩:=bng hr;obtain ⟨k,hk,rfl⟩:=bng hz;have e:l.getD i default = l[i]:=by rw [bmm,bml hi];rfl
 refine ⟨i,k,hi,by rw [e];exact hk, ?_⟩;show (l.getD i default).getD k default = _;rw [e,bmm,bml hk];rfl
def abm {M:Nat -> Nat -> Int} {z:Int}:(∃ r,r ∈ dz l M /\ z ∈ r) <-> inV l M z:=by
 constructor
 · rintro ⟨r,hr,hz⟩
   unfold dz at hr;rw [bne] at hr;obtain ⟨i,hi,rfl⟩:=hr;rw [bne] at hz;obtain ⟨k,hk,rfl⟩:=hz;exact ⟨i,k,bn3.1 hi,bn3.1 hk,rfl⟩
 rintro ⟨i,k,hi,hk,rfl⟩;refine ⟨(List.range (l.getD i default).length).map (M i), ?_,bne.2 ⟨k,bn3.2 hk,rfl⟩⟩;unfold dz;exact bne.2 ⟨i,bn3.2 hi,rfl⟩
end
section
variable {l:List Rw} {a b:Nat} (ha:a < l.length) (hb:b < l.length)
def atb (x y:Int):loI x y = x \/ loI x y = y:=by unfold loI;split <;> simp
def b56 (x y:Int):hiI x y = x \/ hiI x y = y:=by unfold hiI;split <;> simp
include ha hb in
def bi1 {M:Nat -> Nat -> Int} {j:Nat} (hja:j < (l.getD a default).length) (hjb:j < (l.getD b default).length) {z:Int} (h:inV l (eqM M a b j) z):inV l M z:=by
 obtain ⟨i,r,hi,hr,he⟩:=h;unfold eqM at he;split at he
 · rcases atb (M a j) (M b j) with h | h
   · exact ⟨a,j,ha,hja,by rw [<- he,h]⟩
   exact ⟨b,j,hb,hjb,by rw [<- he,h]⟩
 exact ⟨i,r,hi,hr,he⟩
include ha hb in
def al2:∀ {js:List Nat} {M:Nat -> Nat -> Int},(∀ j,j ∈ js -> j < (l.getD a default).length /\ j < (l.getD b default).length) -> ∀ {z:Int},inV l (eqMs M a b js) z -> inV l M z
 | [],_,_,_,h=>h
 | j :: js,M,hj,z,h=>bi1 ha hb (hj j br1).1 (hj j br1).2 (al2 (js:=js) (M:=eqM M a b j) (fun k hk=>hj k (by simp [hk])) h)
include ha hb in
def ahz:∀ {js:List Nat} {M:Nat -> Nat -> Int},(∀ j,j ∈ js -> j < (l.getD a default).length /\ j < (l.getD b default).length) -> (∃ j,j ∈ js /\ ¬ M a j = M b j) -> ∃ z,inV l M z /\ ¬ inV l (eqMs M a b js) z
 | [],_,_,⟨_,h,_⟩=>by simp at h
 | j :: js,M,hj,⟨k,hk,hne⟩=>by
  by_cases e:M a j = M b j
  · have e2:eqMs M a b (j :: js) = eqMs M a b js:=by
     show eqMs (eqM M a b j) a b js = _;rw [vq e]
    rw [e2];refine ahz (fun k hk=>hj k (by simp [hk])) ⟨k, ?_,hne⟩
    rcases bn0.1 hk with h | h
    · subst h;exact absurd e hne
    exact h
  refine ⟨hiI (M a j) (M b j), ?_,fun h=>?_⟩
  · rcases b56 (M a j) (M b j) with h | h
    · exact ⟨a,j,ha,(hj j br1).1,h.symm⟩
    exact ⟨b,j,hb,(hj j br1).2,h.symm⟩
  obtain ⟨i,r,hi,hr,he⟩:=al2 ha hb (fun k hk=>hj k (by simp [hk])) (show inV l (eqMs (eqM M a b j) a b js) _ from h);unfold eqM at he;split at he
  · unfold hiI loI at he
    split at he <;> split at he <;> omega
  rename_i h2;exact h2 he
end
def ag5 (Z:List Int) (l:List Rw):Nat:=Z.countP fun z=>l.any fun r=>decide (z ∈ r)
def muC (Z:List Int) (l:List Rw):Nat:=ag5 Z l * 300 + (300 - l.length)
def Cov (Z:List Int) (l:List Rw):Prop:=∀ r,r ∈ l -> ∀ z,z ∈ r -> z ∈ Z
def za {l:List Rw} {z:Int}:(l.any fun r=>decide (z ∈ r)) = true <-> ∃ r,r ∈ l /\ z ∈ r:=by
 rw [bno];exact ⟨fun ⟨r,h,h2⟩=>⟨r,h,of_decide_eq_true h2⟩,fun ⟨r,h,h2⟩=>⟨r,h,decide_eq_true h2⟩⟩
def countP_lt' {p q:Int -> Bool}:∀ {Z:List Int},(∀ z,p z = true -> q z = true) -> (∃ z,z ∈ Z /\ q z = true /\ p z = false) -> Z.countP p < Z.countP q
 | [],_,⟨_,h,_⟩=>by simp at h
 | x :: Z,h,⟨z,hz,hq,hp⟩=>by
  have hm:Z.countP p <= Z.countP q:=List.countP_mono_left fun z _=>h z;rw [bp8,bp8]
  rcases bn0.1 hz with rfl | hz
  · rw [hq,hp]
    simp only [if_true,bo1,if_false];omega
  have:=countP_lt' (Z:=Z) h ⟨z,hz,hq,hp⟩;by_cases e:p x = true
  · rw [e,h x e];omega
  rw [if_neg e];omega
def b5y {Z:List Int} {l l':List Rw} (h:∀ z,(∃ r,r ∈ l' /\ z ∈ r) -> ∃ r,r ∈ l /\ z ∈ r) (h2:∃ z,z ∈ Z /\ (∃ r,r ∈ l /\ z ∈ r) /\ ¬ ∃ r,r ∈ l' /\ z ∈ r):ag5 Z l' < ag5 Z l:=by
 refine countP_lt' (fun z hz=>za.2 (h z (za.1 hz))) ?_;obtain ⟨z,h3,h4,h5⟩:=h2;exact ⟨z,h3,za.2 h4,by rw [bmx];exact fun e=>h5 (za.1 e)⟩
def b7g {Z:List Int} {l l':List Rw} (h:∀ z,(∃ r,r ∈ l' /\ z ∈ r) -> ∃ r,r ∈ l /\ z ∈ r):ag5 Z l' <= ag5 Z l :=
 List.countP_mono_left fun z _ hz=>za.2 (h z (za.1 hz))
end
section
def amn {r:Rw}:∀ {l:List Rw},r ∉ l -> (kj r l).length = l.length + 1
 | [],_=>rfl
 | y :: l,h=>by
  unfold kj;have h1:¬ r = y:=fun e=>h (by rw [e];simp);have h2:=amn (l:=l) (r:=r) fun e=>h (by simp [e]);rw [if_neg h1];split
  · simp
  simp only [bn9];omega
def ayi {l:List Rw} {r:Rw} (ho:qr l):au (l ++ [r]) = kj r l:=by
 have e:l = au l:=al4 ho fun _=>Iff.rfl
 have:au (l ++ [r]) = kj r (au l):=by
  unfold au;rw [bo0];rfl
 rw [this,<- e]
section
variable {n:Int} {l:List Rw} {a b:Nat} {x:Fd}
abbrev fdL (l:List Rw) (a b:Nat) (x:Fd):List Rw:=au (dz l (eqMs (ci l) a b (ak x.rhs)))
def avd (hT:tok n l = true) (hu:inU n x = true) (ha:a < l.length) (hb:b < l.length) (hs:fc l x a b = true) :
 fdE n l a b x = (n,fdL l a b x,0) /\ tok n (fdL l a b x) = true /\ (∀ z,(∃ r,r ∈ fdL l a b x /\ z ∈ r) -> ∃ r,r ∈ l /\ z ∈ r) /\ ∀ Z,Cov Z l -> muC Z (fdL l a b x) < muC Z l:=by
 obtain ⟨h0,h1,h2,h3⟩:=jn hT;have hw:=zd hT;unfold fc at hs;rw [bmw,bnj] at hs;obtain ⟨hl,hr⟩:=hs
 have hj:∀ j,j ∈ ak x.rhs -> j < (l.getD a default).length /\ j < (l.getD b default).length:=fun j hj=>by
  have:=a9q h0 h1 hu hj;exact ⟨by rw [h3 a ha];exact this,by rw [h3 b hb];exact this⟩
 have hV:∀ z,(∃ r,r ∈ fdL l a b x /\ z ∈ r) -> ∃ r,r ∈ l /\ z ∈ r:=fun z ⟨r,hr,hz⟩=>aqb.1 (al2 ha hb hj (abm.1 ⟨r,i7.1 hr,hz⟩));have hlen:(fdL l a b x).length <= l.length:=bmy (a1p _) (bpx (mq _ _));refine ⟨if_pos hl,a88 h0 h1 (bmy hlen h2) (fun r hr=>⟨?_,fun z hz=>?_⟩),hV,fun Z hZ=>?_⟩
 · unfold dz at hr
   rw [bne] at hr;obtain ⟨i,hi,rfl⟩:=hr;rw [bn6,bp3];exact h3 i (bn3.1 hi)
 · obtain ⟨r2,h5,h6⟩:=hV z ⟨r,i7.2 hr,hz⟩
   exact (hw r2 h5).2 z h6
 have hne:∃ j,j ∈ ak x.rhs /\ ¬ ci l a j = ci l b j:=by
  apply Classical.byContradiction;intro hno;rw [a3r] at hr
  · cases hr
  intro i hi hh;apply Classical.byContradiction;intro e
  have hi2:i < 32:=by
   have:=h3 a ha;omega
  rw [gm hi2] at hh;exact hno ⟨i,jc.2 ⟨hi2,hh⟩,e⟩
 obtain ⟨z,hz1,hz2⟩:=ahz ha hb hj hne;have hz3:=aqb.1 hz1;have:=b5y (Z:=Z) hV ⟨z,by obtain ⟨r,h7,h8⟩:=hz3;exact hZ r h7 z h8,hz3,fun ⟨r,h7,h8⟩=>hz2 (abm.1 ⟨r,i7.1 h7,h8⟩)⟩;unfold muC;omega
abbrev mvL (l:List Rw) (a b:Nat) (x:Fd):List Rw:=au (l ++ [dy (l.getD a default) (l.getD b default) (x.lhs ||| x.rhs)])
def bgz (hT:tok n l = true) (ha:a < l.length) (hb:b < l.length) (hs:ff l x a b = true) :
 mvE n l a b x = (0,[],3) \/ (mvE n l a b x = (n,mvL l a b x,0) /\ tok n (mvL l a b x) = true /\ (∀ z,(∃ r,r ∈ mvL l a b x /\ z ∈ r) -> ∃ r,r ∈ l /\ z ∈ r) /\ ∀ Z,Cov Z l -> muC Z (mvL l a b x) < muC Z l):=by
 obtain ⟨h0,h1,h2,h3⟩:=jn hT;have hw:=zd hT;unfold ff at hs;rw [bmw,bnj] at hs;obtain ⟨hl,hr⟩:=hs;have hno:=arc hr;have hE:mvE n l a b x = w9 n l (dy (l.getD a default) (l.getD b default) (x.lhs ||| x.rhs)):=if_pos hl;by_cases hbig:256 < (mvL l a b x).length
 · left
   rw [hE];exact if_pos hbig
 right
 have hmem:∀ z,z ∈ dy (l.getD a default) (l.getD b default) (x.lhs ||| x.rhs) -> z ∈ l.getD a default \/ z ∈ l.getD b default:=fun z hz=>by
  unfold dy at hz;rw [bne] at hz;obtain ⟨i,hi,rfl⟩:=hz;have hi:=bn3.1 hi;have hi2:i < (l.getD a default).length:=by rw [h3 a ha,<- h3 b hb];exact hi
  split
  · left
    rw [bmm (l:=l.getD a default),bml hi2];exact bnb hi2
  right;rw [bmm (l:=l.getD b default),bml hi];exact bnb hi
 have hV:∀ z,(∃ r,r ∈ mvL l a b x /\ z ∈ r) -> ∃ r,r ∈ l /\ z ∈ r:=fun z ⟨r,hr,hz⟩=>by
  rcases bn1.1 (i7.1 hr) with h | h
  · exact ⟨r,h,hz⟩
  rw [bn2] at h;subst h
  rcases hmem z hz with h | h
  · exact ⟨_,a2x ha,h⟩
  exact ⟨_,a2x hb,h⟩
 refine ⟨by rw [hE];exact if_neg hbig,a88 h0 h1 (bqc fun e=>hbig e) (fun r hr=>⟨?_,fun z hz=>?_⟩),hV,fun Z hZ=>?_⟩
 · rcases bn1.1 hr with h | h
   · exact (hw r h).1
   rw [bn2] at h;subst h;rw [py];exact h3 b hb
 · obtain ⟨r2,h5,h6⟩:=hV z ⟨r,i7.2 hr,hz⟩
   exact (hw r2 h5).2 z h6
 have e:(mvL l a b x).length = l.length + 1:=by
  show (au _).length = _;rw [ayi (b8f hT),amn hno]
 have:=b7g (Z:=Z) hV;unfold muC;omega
end
def ax8 {α:Type} {f:Nat -> Option α}:∀ {n:Nat} {x:α},(List.range n).findSome? f = some x -> ∃ k,k < n /\ f k = some x:=fun {n x} h=>by
 obtain ⟨k,hk,e⟩:=bpm h;exact ⟨k,bn3.1 hk,e⟩
def a5e {P:Nat -> Nat -> Nat -> Bool} {I L i a b:Nat} (h:fz P I L = some (i,a,b)):i < I /\ a < L /\ b < L /\ P i a b = true:=by
 obtain ⟨i',hi,h⟩:=ax8 h;obtain ⟨a',ha,h⟩:=ax8 h;rw [Option.map_eq_some_iff] at h;obtain ⟨b',hb,e⟩:=h;simp only [bmu] at e;obtain ⟨rfl,rfl,rfl⟩:=e;exact ⟨hi,ha,bn3.1 (List.mem_of_find?_eq_some hb),by simpa using List.find?_some hb⟩
def yd (l:List Rw) (p m:List Fd) (s:St):Prop:=s.2.2.1 < l.length /\ s.2.2.2 < l.length /\ ((s.1 = false /\ s.2.1 < p.length /\ fc l (p.getD s.2.1 default) s.2.2.1 s.2.2.2 = true) \/ (s.1 = true /\ s.2.1 < m.length /\ ff l (m.getD s.2.1 default) s.2.2.1 s.2.2.2 = true))
section
variable {l:List Rw} {m p:List Fd}
def a8b {s:St} (h:ez l p m = some s):yd l p m s:=by
 unfold ez at h;split at h
 · rename_i x e
   simp only [bmk] at h;subst h;obtain ⟨i,a,b⟩:=x;obtain ⟨h1,h2,h3,h4⟩:=a5e e;exact ⟨h2,h3, .inl ⟨rfl,h1,h4⟩⟩
 rw [Option.map_eq_some_iff] at h;obtain ⟨⟨i,a,b⟩,e,rfl⟩:=h;obtain ⟨h1,h2,h3,h4⟩:=a5e e;exact ⟨h2,h3, .inr ⟨rfl,h1,h4⟩⟩
def dx (n:Int) (l:List Rw) (p m:List Fd) (s:St):Int × List Rw × Int:=if s.1 = true then mvE n l s.2.2.1 s.2.2.2 (m.getD s.2.1 default) else fdE n l s.2.2.1 s.2.2.2 (p.getD s.2.1 default)
def ak3 {n:Int} {s:St} (hT:tok n l = true) (hp:p.all (inU n) = true) (h:yd l p m s):
 dx n l p m s = (0,[],3) \/ ∃ l',dx n l p m s = (n,l',0) /\ tok n l' = true /\ (∀ Z,Cov Z l -> Cov Z l' /\ muC Z l' < muC Z l):=by
 obtain ⟨ha,hb,h | h⟩:=h
 · obtain ⟨h1,h2,h3⟩:=h
   have hu:inU n (p.getD s.2.1 default) = true:=bnr.1 hp _ (by rw [bmm,bml h2];exact bnb h2);obtain ⟨e,h4,h5,h6⟩:=avd hT hu ha hb h3;exact .inr ⟨_,by unfold dx;rw [if_neg (by rw [h1];decide)];exact e,h4,fun Z hZ=>⟨fun r hr z hz=>by obtain ⟨r2,h7,h8⟩:=h5 z ⟨r,hr,hz⟩;exact hZ r2 h7 z h8,h6 Z hZ⟩⟩
 obtain ⟨h1,h2,h3⟩:=h
 rcases bgz hT ha hb h3 with e | ⟨e,h4,h5,h6⟩
 · exact .inl (by unfold dx;rw [if_pos h1];exact e)
 exact .inr ⟨_,by unfold dx;rw [if_pos h1];exact e,h4,fun Z hZ=>⟨fun r hr z hz=>by obtain ⟨r2,h7,h8⟩:=h5 z ⟨r,hr,hz⟩;exact hZ r2 h7 z h8,h6 Z hZ⟩⟩
def j9:Nat -> Int -> List Rw -> List Fd -> List Fd -> List St -> List St × (Int × List Rw) × Int
 | 0,_,_,_,_,_=>([],(0,[]),0)
 | f + 1,n,l,p,m,acc =>
  match ez l p m with
  | none=>(acc,(n,l),0)
  | some s=>match dx n l p m s with
   | (n',l',e)=>if e = 0 then j9 f n' l' p m (acc ++ [s]) else ([],(0,[]),e)
variable {acc:List St}
def acm {f:Nat} {n:Int} (hf:0 < f) (h:ez l p m = none):j9 f n l p m acc = (acc,(n,l),0):=by
 obtain ⟨g,rfl⟩:∃ g,f = g + 1:=⟨f - 1,by omega⟩;unfold j9;rw [h]
def acn {f:Nat} {n:Int} {s:St} (hf:0 < f) (h:ez l p m = some s) {n' e:Int} {l':List Rw} (h2:dx n l p m s = (n',l',e)) (he:¬ e = 0):j9 f n l p m acc = ([],(0,[]),e):=by
 obtain ⟨g,rfl⟩:∃ g,f = g + 1:=⟨f - 1,by omega⟩;unfold j9;rw [h];simp only;rw [h2];simp only;rw [if_neg he]
def a2k {f:Nat} {n:Int} {s:St} (hf:0 < f) (h:ez l p m = some s) {n':Int} {l':List Rw} (h2:dx n l p m s = (n',l',0)):j9 f n l p m acc = j9 (f - 1) n' l' p m (acc ++ [s]):=by
 obtain ⟨g,rfl⟩:∃ g,f = g + 1:=⟨f - 1,by omega⟩;rw [Nat.add_sub_cancel]
 conv=>lhs;unfold j9
 rw [h];simp only;rw [h2];simp only;rw [if_pos trivial]
end
end
section
open Go.Proofs
def bfx (n:Int) (l:List Rw) (p m:List Fd) (s:St) (hT:tok n l = true) (hp:p.all (inU n) = true) (h:yd l p m s) :
 a6 brj 176 [pT n l,pP (fdl p),pP (fdl m),s.pc] (a8 [pT (dx n l p m s).1 (dx n l p m s).2.1,pI (dx n l p m s).2.2]):=by
 obtain ⟨mu,i,a,b⟩:=s;obtain ⟨ha,hb,h | h⟩:=h
 · obtain ⟨h1,h2,h3⟩:=h
   cases h1;exact asx n l p m i a b hT ha hb h2 (bnr.1 hp _ (by rw [bmm,bml h2];exact bnb h2))
 obtain ⟨h1,h2,h3⟩:=h;cases h1;exact as8 n l p m i a b hT ha hb h2
abbrev St.c (s:St):Nat -> PV:=fun j=>[.raw (.bool s.1), .raw (.int .i64 (s.2.1:Int)), .raw (.int .i64 (s.2.2.1:Int)), .raw (.int .i64 (s.2.2.2:Int))].getD j .any
abbrev stl (l:List St):PV:=psl 4 St.c l
abbrev ckE (n:Int) (l:List Rw) (p m:List Fd):Int:=if tok n l = true then br n p m else 1
section
variable {l:List Rw} {m p:List Fd} {n:Int}
def adf (h:ckE n l p m = 0):tok n l = true /\ br n p m = 0 /\ p.all (inU n) = true:=by
 unfold ckE at h;by_cases e:tok n l = true
 · rw [if_pos e] at h
   exact ⟨e,h,(l7 h).2.2.2.1⟩
 rw [if_neg e] at h;omega
def jl (F:Nat) (n:Int) (l:List Rw) (p m:List Fd):List St × (Int × List Rw) × Int:=if ckE n l p m = 0 then j9 F n l p m [] else ([],(0,[]),ckE n l p m)
variable {F:Nat}
def abf (h:¬ ckE n l p m = 0):jl F n l p m = ([],(0,[]),ckE n l p m):=if_neg h
def wq (h:ckE n l p m = 0):jl F n l p m = j9 F n l p m []:=if_pos h
def aqu {α:Type} {o:Option α} (h:o.isSome = false):o = none:=by cases o <;> simp_all
def ass {α:Type} {o:Option α} (d:α) (h:o.isSome = true):o = some (o.getD d):=by cases o <;> simp_all
def am4 (l:List Rw):Cov l.flatten l:=fun r hr z hz=>List.mem_flatten.2 ⟨r,hr,hz⟩
structure StI (F:Nat) (n:Int) (l:List Rw) (p m:List Fd) (x:Nat × List Rw × List St):Prop where
 t:tok n x.2.1 = true
 c:Cov l.flatten x.2.1
 u:muC l.flatten x.2.1 < x.1
 b:x.2.2.length + x.1 <= F
 e:j9 x.1 n x.2.1 p m x.2.2 = j9 F n l p m []
theorem StI.start (hT:tok n l = true) (hF:muC l.flatten l < F):StI F n l p m (F,l,[]):=⟨hT,am4 l,hF,by simp,rfl⟩
variable {x:Nat × List Rw × List St}
theorem StI.next {s:St} (h:StI F n l p m x) (hp:p.all (inU n) = true) (hS:ez x.2.1 p m = some s) (he:(dx n x.2.1 p m s).2.2 = 0):
 (dx n x.2.1 p m s).1 = n /\ StI F n l p m (x.1 - 1,(dx n x.2.1 p m s).2.1,x.2.2 ++ [s]):=by
 have hu:=h.u;have hb:=h.b
 rcases ak3 h.t hp (a8b hS) with e | ⟨l',e,h1,h2⟩
 · rw [e] at he;exact absurd he br2
 have hq:=h2 _ h.c;refine ⟨by rw [e], ?_⟩;rw [e];exact ⟨h1,hq.1,by show muC _ l' < _;omega,by simp only [bmo,bo3];omega,by rw [<- h.e,a2k bqx hS e]⟩
theorem StI.fin (h:StI F n l p m x) (hS:ez x.2.1 p m = none):j9 F n l p m [] = (x.2.2,(n,x.2.1),0):=by
 have hu:=h.u;rw [<- h.e,acm bqx hS]
theorem StI.err {s:St} (h:StI F n l p m x) (hS:ez x.2.1 p m = some s) (he:¬ (dx n x.2.1 p m s).2.2 = 0):j9 F n l p m [] = ([],(0,[]),(dx n x.2.1 p m s).2.2):=by
 have hu:=h.u;rw [<- h.e];exact acn bqx hS rfl he
end
end
section
open Go.Proofs
def beh (F:Nat) (n:Int) (l:List Rw) (p m:List Fd) (hF:tok n l = true -> muC l.flatten l < F) (hFb:F <= 4000000000):a6 brj 151 [pT n l,pP (fdl p),pP (fdl m)] (a8 [pP (stl (jl F n l p m).1),pT (jl F n l p m).2.1.1 (jl F n l p m).2.1.2,pI (jl F n l p m).2.2]):=by
 refine hpx (nt:=53) Tryz.func151 ?_;refine sx7 ?_;refine m9 0 ?_;refine qy ?_;refine m9 1 ?_;refine w_8 ?_;refine qcx afb (ab4 n l p m) ?_;refine w_7 ?_;refine hcn (fun h0=>?_) (fun h0=>?_)
 · refine w_8 ?_;refine hrr ?_;have he:=abf (F:=F) (n:=n) (l:=l) (p:=p) (m:=m) bqy;exact f9 rfl rfl (by rw [he];exact ⟨CoC.one (CoP.sl rfl (.inr rfl) (fun _=>rfl) (fun i j hi _=>absurd hi (bmq i))),CoC.agg ⟨CoP.refl _,be,trivial⟩,CoC.refl _,trivial⟩)
 have hck:ckE n l p m = 0:=by assumption
 obtain ⟨hT,hbe,hpa⟩:=adf hck;obtain ⟨hn0,hn16,hl256,hrow⟩:=jn hT;have hbig:∀ i,i < l.length -> (l.getD i default).length <= 17592186044416:=fun i hi=>by rw [hrow i hi];omega
 refine w_4 ?_;refine qcx afv (b07 n l hbig bqx) ?_;refine w_6 ?_;refine bw 10 900 true 4 129 (lf St.c []) br2 rfl (CoP.sl rfl (.inr rfl) (fun h=>h) (fun i j hi _=>absurd hi (bmq i))) (.inr rfl) rfl ?_;refine a4d ?_;refine ae (ι:=Nat × List Rw × List St) (ka 1 (ka 2 (ka 3 (ka 7 kn)))) (kb 1 km) (fun x=>⟨[(10,some (.v (.one (.ref 900 x.2.2.length))))],[(0,some (.box [.p (.raw (.int .i64 n)), .p (rl x.2.1)])),(900,some (.arr true 4 129 x.2.2.length (lf St.c x.2.2)))]⟩) (fun x=>StI F n l p m x) (fun x=>x.1) ((F,l,[])) (StI.start hT (hF hT)) kk ?_;rintro x hX;have hXu:=hX.u;have hXb:=hX.b;refine w_6 ?_;refine qcx (wgx Tryz.func201) (bcr n x.2.1 p m hX.t) ?_;refine w_3 ?_;refine m9 2 ?_;refine w_9 ?_;refine hcv (fun h1=>?_) (fun h1=>?_)
 · have hS:=aqu (by simpa using h1);refine w_9 ?_;refine al 6 rfl rfl rfl ?_;refine hrr ?_;have he:=(wq hck).trans (hX.fin hS);exact f9 rfl rfl (by rw [he];exact CoL.refl _)
 have hS:=ass (false,0,0,0) (by simpa using h1);refine w_7 ?_;refine qcx ag8 (bfx n x.2.1 p m ((ez x.2.1 p m).getD (false,0,0,0)) hX.t hpa (a8b hS)) ?_;refine w_3 ?_;refine m9 3 ?_;refine w_9 ?_;refine hcn (fun h2=>?_) (fun h2=>?_)
 · refine w_8 ?_;refine hrr ?_;have he:=(wq hck).trans (hX.err hS bqy);exact f9 rfl rfl (by rw [he];exact ⟨CoC.one (CoP.sl rfl (.inr rfl) (fun _=>rfl) (fun i j hi _=>absurd hi (bmq i))),CoC.agg ⟨CoP.refl _,be,trivial⟩,CoC.refl _,trivial⟩)
 have hnx:=hX.next hpa hS bqy
 refine w_4 ?_;refine m9 4 ?_;refine r9 5 true ?_;refine w_5 ?_;refine ⟨(x.1 - 1,(dx n x.2.1 p m ((ez x.2.1 p m).getD (false,0,0,0))).2.1,x.2.2 ++ [((ez x.2.1 p m).getD (false,0,0,0))]), ?_, ?_, ?_⟩
 · exact hnx.2
 · show x.1 - 1 < x.1
   omega
 exact ⟨⟨⟨_,rfl,(bf rfl)⟩,tt⟩,⟨⟨_,rfl,⟨CoP.of_eq (by rw [hnx.1]),CoH.refl _,trivial⟩⟩,⟨_,rfl,(a8q rfl (fun j hj=>by match j,hj with | 0,_=>exact CoP.refl _ | 1,_=>exact CoP.refl _ | 2,_=>exact CoP.refl _ | 3,_=>exact CoP.refl _) rfl)⟩,uu⟩⟩
end
section
def aoq:∀ {l:List Rw},(∀ r,r ∈ l -> r.length <= 16) -> l.flatten.length <= 16 * l.length
 | [],_=>by simp
 | r :: l,h=>by
  have h1:=h r br1;have h2:=aoq (l:=l) fun r hr=>h r (by simp [hr]);simp only [List.flatten_cons,bmo,bn9];omega
abbrev FU:Nat:=1300000
def am6 {n:Int} {l:List Rw} (h:tok n l = true):muC l.flatten l < FU:=by
 obtain ⟨h0,h1,h2,h3⟩:=jn h;have h4:=aoq (l:=l) fun r hr=>by have:=(zd h r hr).1;omega
 have h5:ag5 l.flatten l <= l.flatten.length:=List.countP_le_length;unfold muC;show _ < 1300000;omega
def bfd {n:Int} {i:Nat} {p:AS} {k a N:Nat} (h:d9 p (k:Int) = true) (hN:N = n.toNat) (ha:a = k) :
 CoO (.arr true 1 3 N (eu (lf zC (stT n i p k)) a 0 [.raw (.int .i64 (k:Int))])) (.arr true 1 3 N (lf zC (stT n i p (k + 1)))):=by
 subst ha;refine ⟨fun h=>h,rfl,rfl,rfl,fun c j hc hj=>CoP.of_eq ?_⟩;obtain rfl:j = 0:=by omega
 show _ = PV.raw (.int .i64 ((stT n i p (a + 1)).getD c default));rw [aax c bqx];unfold eu;by_cases e:c = a
 · rw [if_pos ⟨e,by omega,by simp⟩,if_pos e]
   unfold stV;rw [if_pos h];rfl
 rw [if_neg (fun x=>e x.1),if_neg e];rfl
def aw8 {k:Nat} (h:k < 32):d9 (jt 32) (k:Int) = true:=by
 rw [gm h,o3 32 k h];exact decide_eq_true h
def avv {n:Int} {k:Nat} (h1:n <= 16) (hk:n.toNat <= k):stT n 0 (jt 32) k = df n:=by
 rw [aqm _ _ _ hk];unfold stR df;refine bp2 fun c hc=>?_;have:=bn3.1 hc;unfold stV;rw [if_pos (aw8 bqx)]
def ayr {n:Int} {k:Nat} (h1:n <= 16) (hk:n.toNat <= k):CoC (.one (.sl n.toNat 1 false (lf zC (stT n 0 (jt 32) k)))) (pZ (df n)):=by
 rw [avv h1 hk];exact av8 (ade n)
abbrev a1k (n:Int) (x:Fd):List AS:=[x.lhs ||| x.rhs,x.lhs ||| (a7 n &&& ~~~x.rhs)]
def blr (n:Int) (p m:List Fd) (x:Fd):Bool × Int :=
 if br n p m = 0 then
  if inU n x = true then
   if (gv n (a1k n x)).2.2 = 0 then
    if (jl FU (gv n (a1k n x)).1 (gv n (a1k n x)).2.1 p m).2.2 = 0 then ((jl FU (gv n (a1k n x)).1 (gv n (a1k n x)).2.1 p m).2.1.2.any (fun r=>decide (r = df n)),0)
    else (false,(jl FU (gv n (a1k n x)).1 (gv n (a1k n x)).2.1 p m).2.2)
   else (false,(gv n (a1k n x)).2.2)
  else (false,1)
 else (false,br n p m)
end
section
def bf1 {r:Rw} {g f:Nat -> Nat -> PV} (hf:∀ i j,f i j = lf zC r i j):CoP (.sl (0 + r.length) 1 false (fm 0 g f)) (zl r) :=
 CoP.sl (bnk _).symm (.inl rfl) (fun h=>h) fun i j hi hj=>CoP.of_eq (by simp [fm,hf])
def aty {l:List Rw} {i k:Nat} {g f:Nat -> Nat -> PV} {e et:TypeId} (hk:k = (l.getD i default).length) (hf:∀ a b,f a b = lf zC (l.getD i default) a b) :
 CoO (.nest e et 1 (i + 1) (sx (nM l) i k) (vb (mg (ci l)) i (fm 0 g f)) none) (.nest e et 1 (i + 1) (nM l) (mg (ci l)) none):=by
 have e:fm 0 g f = lf zC (l.getD i default):=by funext a b;simp [fm,hf]
 rw [e];exact aim hk rfl
end
section
open Go.Proofs
def afi:goodFn brj 182:=wgx Tryz.func182
def aoc (l:List Rw) (hl:∀ i,i < l.length -> (l.getD i default).length <= 17592186044416) (hl2:l.length <= 5864062014805):cb brj 182 [.one (.p (rl l))] [] (.v (.one (.ref 901 l.length))) [(901, .arr true 1 84 l.length (lf rC l))] []:=by
 refine hfx (nt:=21) Tryz.func182 ?_;refine cg ?_;refine ca 0 rfl fun hn=>?_;refine w_7 ?_;refine bw 3 901 true 1 84 (lf rC l) br2 rfl (CoP.sl rfl (.inr rfl) (fun h=>h) (fun i j hi _=>absurd hi (bmq i))) (.inr rfl) rfl ?_;refine w_6 ?_;refine b7 (ka 0 kn) km (fun i=>⟨[(3,some (.v (.one (.ref 901 i)))),(4,some (vI i))],[(901,some (.arr true 1 84 i (lf rC l)))]⟩) l.length kk ?_;rintro i hi;refine w_8 ?_;refine hcd (fun h0=>?_) (fun h0=>?_)
 · have hli:=hl i bqx;refine w_3 ?_;refine auv [0,1,2,3,4,5,6] [7,8,9] rfl ?_;refine azj (E:=gq) fk ?_;refine qy ?_;refine m9 0 ?_;refine w_4 ?_;refine r9 1 true ?_;refine c6 ?_;refine bhl ?_;refine aw1 17 rfl rfl rfl ?_;refine b7y ?_;refine azj (E:=gq) (L1:=[7,8,9]) (L2:=[]) fk ?_;refine m9 2 ?_;refine r9 3 true ?_;refine w_2 ?_;refine bfs ?_;refine w_5 ?_;exact lpx (i + 1) ⟨tt,⟨⟨_,rfl,(rt (fun h=>h) (fun j hj=>by obtain rfl:j = 0:=bqx;exact bf1 (fun _ _=>rfl)))⟩,trivial⟩⟩
 obtain rfl:i = l.length:=by omega
 refine w_6 ?_;refine hrr ?_;exact ⟨_,_,rfl,bqz,CoR.refl _,uu⟩
def ax1 (l:List Rw) (hl:∀ i,i < l.length -> (l.getD i default).length <= 17592186044416) (hl2:l.length <= 5864062014805):cb brj 182 [.one (.p (rl l))] [] (.v (.one (.ref 901 l.length))) [(901, .nest 84 3 1 l.length (nM l) (mg (ci l)) none)] []:=by
 refine hfx (nt:=21) Tryz.func182 ?_;refine cg ?_;refine ca 0 rfl fun hn=>?_;refine w_7 ?_;refine awr 3 901 84 3 1 (nM l) (mg (ci l)) br2 rfl rfl ?_;refine w_6 ?_;refine b7 (ka 0 kn) km (fun i=>⟨[(3,some (.v (.one (.ref 901 i)))),(4,some (vI i))],[(901,some (.nest 84 3 1 i (nM l) (mg (ci l)) none))]⟩) l.length kk ?_;rintro i hi;refine w_8 ?_;refine hcd (fun h0=>?_) (fun h0=>?_)
 · have hli:=hl i bqx;refine w_5 ?_;refine m9 0 ?_;refine w_4 ?_;refine r9 1 true ?_;refine m9 2 ?_;refine r9 3 true ?_;refine w_2 ?_;refine aiv 901 0 rfl rfl ?_;refine w_5 ?_;exact lpx (i + 1) ⟨tt,⟨⟨_,rfl,(aty (bnk _) (fun _ _=>rfl))⟩,trivial⟩⟩
 obtain rfl:i = l.length:=by omega
 refine w_6 ?_;refine hrr ?_;exact ⟨_,_,rfl,bqz,CoR.refl _,uu⟩
end
section
def az1 {s:AS} {n:Nat} (hn:n <= 32) (h:∀ j,j ∈ ak s -> j < n):eo s n = ak s:=by
 have h2:∀ d,n + d <= 32 -> eo s (n + d) = eo s n:=by
  intro d
  induction d with
  | zero=>intro _;rfl
  | succ d ih =>
   intro hd
   have hf:d9 s ((n + d:Nat):Int) = false:=by
    rw [gm bqx,bmx];intro e;have:=h _ (jc.2 ⟨by omega,e⟩);omega
   rw [<- ih bqx];exact qu (i:=n + d) (show n + d < 32 by omega) hf
 have:=h2 (32 - n) bqx;rw [<- this,show n + (32 - n) = 32 by omega];rfl
def tz {M:Nat -> Nat -> Int} {a b j:Nat} {js:List Nat}:eqMs M a b (js ++ [j]) = eqM (eqMs M a b js) a b j:=by
 unfold eqMs;rw [bo0];rfl
def b2n {l:List Rw} {M:Nat -> Nat -> Int} {n:Nat} (hn:n = l.length):CoP (.sl n 1 false (a1t 1 (nM l) (mg M))) (rl (dz l M)):=by
 obtain ⟨_,_,_,h1,h2⟩:=asf (l:=l) (M:=M) (e:=25) hn;exact CoP.sl h1 (.inl rfl) (fun h=>h) h2
end
end Go.Hx

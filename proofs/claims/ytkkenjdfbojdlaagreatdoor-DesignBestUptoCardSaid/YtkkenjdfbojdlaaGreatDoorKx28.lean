/- A part of the proof: X12 Ch9 X13 Ch10 X14 Ch11 Ch12 Ch13 X15 Ch14 Ch17 X20 Ch18. -/
import Derived.Test.YtkkenjdfbojdlaaGreatDoorKx27
set_option linter.all false
set_option maxRecDepth 100000
set_option maxHeartbeats 1000000
namespace Go.Hx
section
open Go.Proofs
def bey (n:Int) (l:List Rw) (p m:List Fd) (hT:tok n l = true):a6 br6 201 [pT n l,pP (fdl p),pP (fdl m)] (a8 [St.pc ((f7 l p m).getD (false,0,0,0)),pB (f7 l p m).isSome]):=by
 refine hpx (nt:=132) Tryz.func201 ?_;refine cb ?_;obtain ⟨hn0,hn16,hl256,hrow⟩:=jk hT;refine c8 1 rfl fun hn1=>?_;refine c8 2 rfl fun hn2=>?_;refine gy ?_;refine m9 0 ?_;refine m9 1 ?_;refine c5 ?_;refine ae (ι:=Nat) (ka 2 (ka 3 (ka 6 (ka 16 (ka 17 kn))))) (kb 0 (kb 1 km)) (fun i=>⟨[(18,some (vI i))],[]⟩) (fun i=>i <= p.length /\ (∀ i',i' < i -> ∀ a',a' < l.length -> ∀ b',b' < l.length -> ff l (p.getD i' default) a' b' = false)) (fun i=>p.length - i) (0) (⟨bmh _,bq⟩) kk ?_;rintro i ⟨hi,hI⟩;refine w_5 ?_;refine hcd (fun h0=>?_) (fun h0=>?_)
 ·
  refine w_8 ?_;refine m9 2 ?_;refine cq ?_;refine ae (ι:=Nat) (ka 2 (ka 3 (ka 6 (ka 8 (ka 9 (ka 16 (ka 17 (ka 18 (ka 25 kn))))))))) (kb 0 (kb 1 (kb 2 km))) (fun a=>⟨[(26,some (vI a))],[]⟩) (fun a=>a <= l.length /\ (∀ a',a' < a -> ∀ b',b' < l.length -> ff l (p.getD i default) a' b' = false)) (fun a=>l.length - a) (0) (⟨bmh _,bq⟩) kk ?_;rintro a ⟨ha,hA⟩;refine w_5 ?_;refine hcd (fun h1=>?_) (fun h1=>?_)
  ·
   refine ow ?_;refine ae (ι:=Nat) (ka 2 (ka 3 (ka 6 (ka 8 (ka 9 (ka 10 (ka 16 (ka 17 (ka 18 (ka 25 (ka 26 (ka 31 kn)))))))))))) (kb 0 (kb 1 (kb 2 km))) (fun b=>⟨[(32,some (vI b))],[]⟩) (fun b=>b <= l.length /\ (∀ b',b' < b -> ff l (p.getD i default) a b' = false)) (fun b=>l.length - b) (0) (⟨bmh _,bq⟩) kk ?_;rintro b ⟨hb,hB⟩;refine w_5 ?_;refine hcd (fun h2=>?_) (fun h2=>?_)
   ·
    refine ak9 ?_;refine qcx a2s (a71 (l.getD a default) (l.getD b default) (p.getD i default).lhs (by rw [hrow _ bqi,hrow _ bqi]) (by rw [hrow _ bqi];omega)) ?_;refine qy ?_;refine ah rfl rfl (fun r3=>?_) (fun r3=>?_)
    ·
     have h3:=r3;(iterate 12 refine qy ?_ (hg:=(gtt r3)));refine qcx a2s (a71 (l.getD a default) (l.getD b default) (p.getD i default).rhs (by rw [hrow _ bqi,hrow _ bqi]) (by rw [hrow _ bqi];omega)) ?_ (hg:=(gtt r3));refine qy ?_ (hg:=(gtt r3));refine w_3 ?_;refine ak _ rfl (fun r4=>?_) (fun r4=>?_)
     · have h4:=cu (br r3 r4);refine w_9 ?_;refine hrr ?_;have he:=b8r (m:=m) (a29 (P:=fun i a b=>ff l (p.getD i default) a b) (i:=i) (a:=a) (b:=b) bqi bqi bqi (bb6 bqj bqj) hI hA hB);exact f9 rfl rfl (by rw [he];exact CoL.refl _)
     have h4:=ct (br r3 r4);refine w_5 ?_;refine lpz (b + 1) kk ?_;exact ⟨by show b + 1 <= _;omega,aw hB (by first | exact a5b bqj | exact aaj bqj)⟩
    have h3:=r3;(iterate 14 refine k9 (gft r3) ?_);refine rq rfl rfl rfl rfl rfl ?_ (hp:=r3);refine w_8 ?_;refine lpz (b + 1) kk ?_
    exact ⟨by show b + 1 <= _;omega,aw hB (by first | exact a5b bqj | exact aaj bqj)⟩
   refine w_5 ?_;refine lpz (a + 1) kk ?_;exact ⟨by show a + 1 <= _;omega,aw hA (fun b' hb'=>hB b' bqi)⟩
  refine w_5 ?_;refine lpz (i + 1) kk ?_;exact ⟨by show i + 1 <= _;omega,aw hI (fun a' ha'=>hA a' bqi)⟩
 obtain rfl:i = p.length:=by omega
 have hno:=a23 (P:=fun i a b=>ff l (p.getD i default) a b) (I:=p.length) (L:=l.length) hI;refine w_9 ?_;refine ae (ι:=Nat) (ka 3 (ka 6 (ka 71 (ka 72 kn)))) (kb 0 (kb 1 km)) (fun k=>⟨[(73,some (vI k))],[]⟩) (fun k=>k <= m.length /\ (∀ i',i' < k -> ∀ a',a' < l.length -> ∀ b',b' < l.length -> fk l (m.getD i' default) a' b' = false)) (fun k=>m.length - k) (0) (⟨bmh _,bq⟩) kk ?_;rintro k ⟨hk,hK⟩;refine w_5 ?_;refine hcd (fun h5=>?_) (fun h5=>?_)
 ·
  refine w_8 ?_;refine m9 3 ?_;refine cq ?_;refine ae (ι:=Nat) (ka 3 (ka 6 (ka 12 (ka 13 (ka 71 (ka 72 (ka 73 (ka 80 kn)))))))) (kb 0 (kb 1 (kb 3 km))) (fun c=>⟨[(81,some (vI c))],[]⟩) (fun c=>c <= l.length /\ (∀ a',a' < c -> ∀ b',b' < l.length -> fk l (m.getD k default) a' b' = false)) (fun c=>l.length - c) (0) (⟨bmh _,bq⟩) kk ?_;rintro c ⟨hc,hC⟩;refine w_5 ?_;refine hcd (fun h6=>?_) (fun h6=>?_)
  ·
   refine ow ?_;refine ae (ι:=Nat) (ka 3 (ka 6 (ka 12 (ka 13 (ka 14 (ka 71 (ka 72 (ka 73 (ka 80 (ka 81 (ka 86 kn))))))))))) (kb 0 (kb 1 (kb 3 km))) (fun d=>⟨[(87,some (vI d))],[]⟩) (fun d=>d <= l.length /\ (∀ b',b' < d -> fk l (m.getD k default) c b' = false)) (fun d=>l.length - d) (0) (⟨bmh _,bq⟩) kk ?_;rintro d ⟨hd,hD⟩;refine w_5 ?_;refine hcd (fun h7=>?_) (fun h7=>?_)
   ·
    refine ak9 ?_;refine qcx a2s (a71 (l.getD c default) (l.getD d default) (m.getD k default).lhs (by rw [hrow _ bqi,hrow _ bqi]) (by rw [hrow _ bqi];omega)) ?_;refine qy ?_;refine ah rfl rfl (fun r8=>?_) (fun r8=>?_)
    ·
     have h8:=r8;(iterate 16 refine qy ?_ (hg:=(gtt r8)));refine rc rfl rfl rfl rfl rfl rfl (wgx Tryz.func226) (ayh (l.getD c default) (l.getD d default) ((m.getD k default).lhs ||| (m.getD k default).rhs) (by rw [hrow _ bqi,hrow _ bqi]) (by rw [hrow _ bqi];omega)) (⟨CoC.refl _,CoC.refl _,cci (by rw [bOr];rfl),trivial⟩) rfl (gtt r8) ?_;refine qcx ag0 (atv n l (ef (l.getD c default) (l.getD d default) ((m.getD k default).lhs ||| (m.getD k default).rhs))) ?_ (hg:=(gtt r8));refine qy ?_ (hg:=(gtt r8));refine w_3 ?_;refine ak _ rfl (fun r9=>?_) (fun r9=>?_)
     · have h9:=cu (br r8 r9);refine w_9 ?_;refine hrr ?_;have he:=b6r hno (a29 (P:=fun i a b=>fk l (m.getD i default) a b) (i:=k) (a:=c) (b:=d) bqi bqi bqi (b82 bqj bqj) hK hC hD);exact f9 rfl rfl (by rw [he];exact CoL.refl _)
     have h9:=ct (br r8 r9);refine w_5 ?_;refine lpz (d + 1) kk ?_;exact ⟨by show d + 1 <= _;omega,aw hD (by first | exact aoi bqj | exact abe bqj)⟩
    have h8:=r8;(iterate 19 refine k9 (gft r8) ?_);refine rq rfl rfl rfl rfl rfl ?_ (hp:=r8);refine w_8 ?_;refine lpz (d + 1) kk ?_
    exact ⟨by show d + 1 <= _;omega,aw hD (by first | exact aoi bqj | exact abe bqj)⟩
   refine w_5 ?_;refine lpz (c + 1) kk ?_;exact ⟨by show c + 1 <= _;omega,aw hC (fun b' hb'=>hD b' bqi)⟩
  refine w_5 ?_;refine lpz (k + 1) kk ?_;exact ⟨by show k + 1 <= _;omega,aw hK (fun a' ha'=>hC a' bqi)⟩
 refine w_7 ?_;refine hrr ?_;have he:=b6g hno (a23 (P:=fun i a b=>fk l (m.getD i default) a b) (I:=m.length) (L:=l.length) fun j hj=>hK j bqi);exact f9 rfl rfl (by rw [he];exact CoL.refl _)
end
section
def stV (n:Int) (i:Nat) (p:AS) (c:Nat):Int:=if d6 p (c:Int) = true then (c:Int) else n + (i:Int) * n + (c:Int)
def stT (n:Int) (i:Nat) (p:AS) (k:Nat):Rw:=(List.range n.toNat).map fun c=>if c < k then stV n i p c else 0
def stR (n:Int) (i:Nat) (p:AS):Rw:=(List.range n.toNat).map fun c=>stV n i p c
def bo (n:Int) (ps:List AS):List Rw:=(List.range ps.length).map fun i=>stR n i (ps.getD i default)
def ag4 (n:Int) (i:Nat) (p:AS):(stR n i p).length = n.toNat:=by unfold stR;simp
def qx (n:Int) (ps:List AS):(bo n ps).length = ps.length:=by unfold bo;simp
section
variable {i:Nat} {n:Int} {ps:List AS}
def ah4 (h:i < ps.length):(bo n ps).getD i default = stR n i (ps.getD i default):=by
 unfold bo;rw [bmb,bn0,bny h];rfl
variable {k:Nat}
def as9 (n:Int) (i:Nat) (p:AS) (h:n.toNat <= k):stT n i p k = stR n i p:=by
 unfold stT stR;refine boo fun c hc=>?_;have:=bmq.1 hc;rw [if_pos bqi]
variable {p:AS}
def al4 {c:Nat} (h:c < n.toNat):(stT n i p k).getD c default = if c < k then stV n i p c else 0:=by
 unfold stT;rw [bmb,bn0,bny h];rfl
def amm {N:Nat} {f:Nat -> Nat -> PV} (hN:N = n.toNat) (hf:∀ a,f a 0 = .raw (.int .i64 0)):CoO (.arr true 1 3 N f) (.arr true 1 3 N (lf zC (stT n i p 0))) :=
 ⟨fun h=>h,rfl,rfl,rfl,fun a j ha hj=>by
  obtain rfl:j = 0:=by omega
  refine CoP.of_eq ?_;rw [hf];show _ = PV.raw (.int .i64 ((stT n i p 0).getD a default))
  rw [al4 bqi,if_neg bqi]⟩
def aaq:∀ c,c < n.toNat -> (stT n i p (k + 1)).getD c default = if c = k then stV n i p k else (stT n i p k).getD c default:=fun c hc=>by
 rw [al4 hc,al4 hc];by_cases h:c = k
 · rw [if_pos h,if_pos bqi,h]
 rw [if_neg h];by_cases h2:c < k
 · rw [if_pos h2,if_pos bqi]
 rw [if_neg h2,if_neg bqi]
def axq {a b N:Nat} {x:Int} (h:d6 p (k:Int) = true) (hN:N = n.toNat) (ha:a = k) (hb:b = k):
 CoO (.arr true 1 3 N (ez (ez (lf zC (stT n i p k)) a 0 [.raw (.int .i64 x)]) b 0 [.raw (.int .i64 (k:Int))])) (.arr true 1 3 N (lf zC (stT n i p (k + 1)))):=by
 subst ha hb;refine ⟨fun h=>h,rfl,rfl,rfl,fun c j hc hj=>CoP.of_eq ?_⟩;obtain rfl:j = 0:=by omega
 show _ = PV.raw (.int .i64 ((stT n i p (b + 1)).getD c default));rw [aaq c bqi];unfold ez;by_cases e:c = b
 · rw [if_pos ⟨e,by omega,by simp⟩,if_pos e]
   unfold stV;rw [if_pos h];rfl
 rw [if_neg (fun x=>e x.1),if_neg (fun x=>e x.1),if_neg e];rfl
def axr {a N:Nat} (h:¬ d6 p (k:Int) = true) (hN:N = n.toNat) (ha:a = k):
 CoO (.arr true 1 3 N (ez (lf zC (stT n i p k)) a 0 [.raw (.int .i64 (n + (i:Int) * n + (k:Int)))])) (.arr true 1 3 N (lf zC (stT n i p (k + 1)))):=by
 subst ha;refine ⟨fun h=>h,rfl,rfl,rfl,fun c j hc hj=>CoP.of_eq ?_⟩;obtain rfl:j = 0:=by omega
 show _ = PV.raw (.int .i64 ((stT n i p (a + 1)).getD c default));rw [aaq c bqi];unfold ez;by_cases e:c = a
 · rw [if_pos ⟨e,by omega,by simp⟩,if_pos e]
   unfold stV;rw [if_neg h];rfl
 rw [if_neg (fun x=>e x.1),if_neg e];rfl
def b4h {s:AS}:(asI s).fdiv (2 ^ (min n.toNat 32)) = 0 <-> s >>> n.toNat = 0:=by
 rw [yf,show (0:Int) = asI 0 from rfl,c6]
def bdr (h0:0 <= n) (h1:n <= 16) (hi:i <= 64):0 <= (i:Int) * n /\ (i:Int) * n <= 1024:=by
 refine ⟨Int.mul_nonneg bqi h0, ?_⟩;have h2:(i:Int) * n <= (i:Int) * 16:=Int.mul_le_mul_of_nonneg_left h1 bqi;omega
def gu (n:Int) (ps:List AS):Int × List Rw × Int :=
 if n < 0 \/ 16 < n then (0,[],7) else if 64 < ps.length then (0,[],3) else if ps.all (fun p=>decide (p >>> n.toNat = 0)) = true then (n,av (bo n ps),0) else (0,[],1)
def a4a (h:n < 0 \/ 16 < n):gu n ps = (0,[],7):=if_pos h
def ajr (h:¬ (n < 0 \/ 16 < n)) (h2:64 < ps.length):gu n ps = (0,[],3):=by unfold gu;rw [if_neg h,if_pos h2]
def an8 (h:¬ (n < 0 \/ 16 < n)) (h2:¬ 64 < ps.length) (hi:i < ps.length) (h3:¬ (ps.getD i default) >>> n.toNat = 0):gu n ps = (0,[],1):=by
 unfold gu;rw [if_neg h,if_neg h2,if_neg (fun e=>absurd (ac6 (l:=ps) (p:=fun p:AS=>decide (p >>> n.toNat = 0)) hi (decide_eq_false h3)) (by rw [e];decide))]
def ab1 (h:¬ (n < 0 \/ 16 < n)) (h2:¬ 64 < ps.length) (h3:∀ j,j < ps.length -> (ps.getD j default) >>> n.toNat = 0):gu n ps = (n,av (bo n ps),0):=by
 unfold gu;rw [if_neg h,if_neg h2,if_pos (aix (l:=ps) (p:=fun p:AS=>decide (p >>> n.toNat = 0)) fun j hj=>decide_eq_true (h3 j hj))]
def b32 (hi:i < ps.length) (hk:n.toNat <= k):CoP (.sl n.toNat 1 false (lf zC (stT n i (ps.getD i default) k))) (lf rC (bo n ps) i 0):=by
 show CoP _ (zl ((bo n ps).getD i default));rw [ah4 hi,as9 n i _ hk];exact CoP.sl (ag4 _ _ _) (.inl rfl) (fun h=>h) fun a j ha hj=>CoP.refl _
end
end
section
open Go.Proofs
def bbz (n:Int) (ps:List AS):a6 br6 128 [pI n,pP (asl ps)] (a8 [pT (gu n ps).1 (gu n ps).2.1,pI (gu n ps).2.2]):=by
 refine hpx (nt:=73) Tryz.func128 ?_;refine sx7 ?_;refine m9 0 ?_;refine w_9 ?_;refine ah rfl rfl (fun r0=>?_) (fun r0=>?_)
 ·
  have h0:=tz1 r0;(iterate 2 refine k9 (gtf r0) ?_);refine rq rfl rfl rfl rfl rfl ?_ (hp:=r0);refine w_9 ?_;refine hrr ?_
  have he:=a4a (n:=n) (ps:=ps) bqi;exact f9 rfl rfl (by rw [he];exact ⟨CoC.agg ⟨CoP.refl _,bf,trivial⟩,CoC.refl _,trivial⟩)
 have h0:=tz2 r0;(iterate 2 refine qy ?_ (hg:=(gff r0)));refine w_3 ?_;refine ak _ rfl (fun r1=>?_) (fun r1=>?_)
 · have h1:=tz1 (au r0 r1);refine w_6 ?_;refine hrr ?_;have he:=a4a (n:=n) (ps:=ps) bqi;exact f9 rfl rfl (by rw [he];exact ⟨CoC.agg ⟨CoP.refl _,bf,trivial⟩,CoC.refl _,trivial⟩)
 have h1:=tz2 (au r0 r1);refine w_7 ?_;refine hcd (fun h2=>?_) (fun h2=>?_)
 · refine w_6 ?_;refine hrr ?_;have he:=ajr (n:=n) (ps:=ps) bqi bqi;exact f9 rfl rfl (by rw [he];exact ⟨CoC.agg ⟨CoP.refl _,bf,trivial⟩,CoC.refl _,trivial⟩)
 refine w_5 ?_;refine m9 1 ?_;refine w_2 ?_;refine ss 1 1 900 true 1 84 (lf rC (bo n ps)) bqo rfl rfl (CoP.sl rfl (.inr rfl) (fun h=>h) (fun i j hi _=>absurd hi (bmf i))) (.inr rfl) rfl rfl ?_;refine w_8 ?_;refine ae (ι:=Nat) (ka 0 (ka 4 (ka 6 (ka 26 (ka 27 kn))))) (kb 0 km) (fun i=>⟨[(28,some (vI i))],[(1,some (.box [.p (.raw (.int .i64 n)), .ref 900 i])),(900,some (.arr true 1 84 i (lf rC (bo n ps))))]⟩) (fun i=>i <= ps.length /\ ∀ j,j < i -> (ps.getD j default) >>> n.toNat = 0) (fun i=>ps.length - i) (0) (⟨bmh _,bq⟩) kk ?_;rintro i ⟨hi,hI⟩;refine w_5 ?_;refine hcd (fun h3=>?_) (fun h3=>?_)
 ·
  have hin:=bdr (n:=n) (i:=i) bqi bqi bqi;refine a2a ?_;refine hcn (fun h4=>?_) (fun h4=>?_)
  · refine w_6 ?_;refine hrr ?_;have he:=an8 (n:=n) (ps:=ps) (i:=i) bqi bqi bqi (fun e=>absurd (b4h.2 e) bqj);exact f9 rfl rfl (by rw [he];exact ⟨CoC.agg ⟨CoP.refl _,bf,trivial⟩,CoC.refl _,trivial⟩)
  refine w_4 ?_;refine m9 2 ?_;refine w_9 ?_;refine b5 (ka 0 (ka 4 (ka 6 (ka 7 (ka 8 (ka 9 (ka 26 (ka 27 (ka 28 (ka 40 kn)))))))))) (kb 1 (kb 900 (kb 0 km))) (fun k=>⟨[(41,some (vI k))],[(2,some (.arr true 1 3 n.toNat (lf zC (stT n i (ps.getD i default) k))))]⟩) n.toNat ⟨tt,⟨⟨_,rfl,(amm rfl (fun _=>rfl))⟩,trivial⟩⟩ ?_;rintro k hk;refine w_5 ?_;refine hcd (fun h5=>?_) (fun h5=>?_)
  ·
   refine bjc ?_;refine hcd (fun h6=>?_) (fun h6=>?_)
   · refine cq ?_;exact lpx (k + 1) ⟨tt,⟨⟨_,rfl,(by first | exact axq ((va bqi).1 bqj) rfl bqi bqi | exact axr (fun e=>absurd ((va bqi).2 e) bqj) rfl bqi)⟩,uu⟩⟩
   refine w_5 ?_;exact lpx (k + 1) ⟨tt,⟨⟨_,rfl,(by first | exact axq ((va bqi).1 bqj) rfl bqi bqi | exact axr (fun e=>absurd ((va bqi).2 e) bqj) rfl bqi)⟩,uu⟩⟩
  refine da ?_;refine al 9 rfl rfl rfl ?_;refine w_4 ?_;refine m9 3 ?_;refine r9 4 true ?_;refine w_7 ?_;refine lpz (i + 1) ⟨tt,⟨u9,⟨_,rfl,(qt (fun h=>h) (fun j hj=>by obtain rfl:j = 0:=bqi;exact b32 bqi bqi))⟩,uu⟩⟩ ?_;exact ⟨by show i + 1 <= _;omega,aw hI (b4h.1 bqj)⟩
 obtain rfl:i = ps.length:=by omega
 refine w_4 ?_;refine gj rfl rfl rfl rfl rfl rfl aev ((af1 n (bo n ps) (by rw [qx];omega))) (⟨⟨CoP.refl _,congrArg (HV.ref 900) (qx _ _).symm,trivial⟩,trivial⟩) ⟨⟨_,rfl,dg rfl (qx _ _).symm⟩,trivial⟩ rfl rfl ?_;refine w_3 ?_;refine hrr ?_;have he:=ab1 (n:=n) (ps:=ps) bqi bqi (fun j hj=>hI j bqi);exact f9 rfl rfl (by rw [he];exact CoL.refl _)
end
section
def dj (n:Int):Rw:=(List.range n.toNat).map fun (i:Nat)=>(i:Int)
def ad0 (n:Int):(dj n).length = n.toNat:=by unfold dj;simp
section
variable {k:Nat} {n:Int}
def b34 (h:k < n.toNat):CoP (.raw (.int .i64 (k:Int))) (lf zC (dj n) k 0):=by
 refine CoP.of_eq ?_;show _ = PV.raw (.int .i64 ((dj n).getD k default));unfold dj;rw [bmb,bn0,bny h];rfl
def alj {i:Nat} {p:AS} (h:k < n.toNat):(stR n i p).getD k default = stV n i p k:=by
 unfold stR;rw [bmb,bn0,bny h];rfl
def ar4 {i:Nat} {p:AS} (h:k < n.toNat) (hh:d6 p (k:Int) = true):CoP (.raw (.int .i64 (k:Int))) (lf zC (stR n i p) k 0):=by
 refine CoP.of_eq ?_;show _ = PV.raw (.int .i64 ((stR n i p).getD k default));rw [alj h];unfold stV;rw [if_pos hh]
def arb {i:Nat} {p:AS} (h:k < n.toNat) (hh:d6 p (k:Int) = false):CoP (.raw (.int .i64 (n + (i:Int) * n + (k:Int)))) (lf zC (stR n i p) k 0):=by
 refine CoP.of_eq ?_;show _ = PV.raw (.int .i64 ((stR n i p).getD k default));rw [alj h];unfold stV;rw [hh,if_neg bqo]
def ayf {ps:List AS} {i:Nat} (hi:i < ps.length) (hk:k = n.toNat):CoP (.sl k 1 false (lf zC (stR n i (ps.getD i default)))) (lf rC (bo n ps) i 0):=by
 show CoP _ (zl ((bo n ps).getD i default));rw [ah4 hi];exact CoP.sl (by rw [ag4,hk]) (.inl rfl) (fun h=>h) fun a j ha hj=>CoP.refl _
def a4w {s:AS} (h0:0 <= n) (h1:n <= 16):sub s (a7 n) <-> s >>> n.toNat = 0:=by
 unfold a7;rw [bo5 bqi];exact v7 bqi
def a8z (l:List Rw) (x:Fd) (a b:Nat):Bool:=lm (l.getD a default) (l.getD b default) x.lhs && !(l.any fun r=>decide (r = ef (l.getD a default) (l.getD b default) x.rhs))
def aoc {a b:Rw} {s:AS} {g:Nat -> Nat -> PV} {f:Nat -> Nat -> PV} {e:TypeId} (hf:∀ i j,f i j = lf zC b i j):CoO (.arr true 1 e (0 + b.length) (eq 0 g f)) (.arr true 1 e (0 + b.length) (lf zC (mz a b s 0))):=by
 rw [<- ahx];exact ⟨fun h=>h,rfl,rfl,rfl,fun i j _ _=>CoP.of_eq (by simp [eq,hf])⟩
def as4 {a b:Rw} {s:AS} {m:Nat} (hk:k = b.length) (hm:m = b.length):CoC (.one (.sl m 1 false (lf zC (mz a b s k)))) (pZ (ef a b s)):=by
 subst hk;rw [akz];exact atl ((qi a b s).trans hm.symm)
end
end
section
open Go.Proofs
def bfb (n:Int) (h16:n <= 16):a6 br6 70 [pI n] (a8 [pZ (dj n)]):=by
 refine hpx (nt:=15) Tryz.func70 ?_;refine w_8 ?_;refine bw 3 900 true 1 3 (lf zC (dj n)) bqo rfl (CoP.sl rfl (.inr rfl) (fun h=>h) (fun i j hi _=>absurd hi (bmf i))) (.inr rfl) rfl ?_;refine w_6 ?_;refine b5 (ka 0 kn) km (fun i=>⟨[(3,some (.v (.one (.ref 900 i)))),(4,some (vI i))],[(900,some (.arr true 1 3 i (lf zC (dj n))))]⟩) n.toNat kk ?_;rintro i hi;refine w_7 ?_;refine hcd (fun h0=>?_) (fun h0=>?_)
 · refine w_6 ?_;refine m9 0 ?_;refine r9 1 true ?_;refine w_7 ?_;exact lpx (i + 1) ⟨tt,⟨⟨_,rfl,(qt (fun h=>h) (fun j hj=>by obtain rfl:j = 0:=bqi;exact b34 bqi))⟩,trivial⟩⟩
 refine w_2 ?_;refine al 3 rfl rfl rfl ?_;refine v_4 ?_;exact ⟨CoC.one (CoP.sl (by rw [ad0];omega) (.inl rfl) (fun h=>h) fun a j ha hj=>CoP.refl _),trivial⟩
def bad (n:Int) (ps:List AS):a6 br6 130 [pI n,pP (asl ps)] (a8 [pT (gu n ps).1 (gu n ps).2.1,pI (gu n ps).2.2]):=by
 refine hpx (nt:=68) Tryz.func130 ?_;refine sx7 ?_;refine m9 0 ?_;refine w_8 ?_;refine ah rfl rfl (fun r0=>?_) (fun r0=>?_)
 ·
  have h0:=tz1 r0;(iterate 2 refine k9 (gtf r0) ?_);refine rq rfl rfl rfl rfl rfl ?_ (hp:=r0);refine w_8 ?_;refine hrr ?_
  have he:=a4a (n:=n) (ps:=ps) bqi;exact f9 rfl rfl (by rw [he];exact ⟨CoC.agg ⟨CoP.refl _,bf,trivial⟩,CoC.refl _,trivial⟩)
 have h0:=tz2 r0;(iterate 2 refine qy ?_ (hg:=(gff r0)));refine w_2 ?_;refine ak _ rfl (fun r1=>?_) (fun r1=>?_)
 · have h1:=tz1 (au r0 r1);refine w_6 ?_;refine hrr ?_;have he:=a4a (n:=n) (ps:=ps) bqi;exact f9 rfl rfl (by rw [he];exact ⟨CoC.agg ⟨CoP.refl _,bf,trivial⟩,CoC.refl _,trivial⟩)
 have h1:=tz2 (au r0 r1);refine w_8 ?_;refine hcd (fun h2=>?_) (fun h2=>?_)
 · refine w_6 ?_;refine hrr ?_;have he:=ajr (n:=n) (ps:=ps) bqi bqi;exact f9 rfl rfl (by rw [he];exact ⟨CoC.agg ⟨CoP.refl _,bf,trivial⟩,CoC.refl _,trivial⟩)
 refine w_5 ?_;refine bw 6 900 true 1 84 (lf rC (bo n ps)) bqo rfl (CoP.sl rfl (.inr rfl) (fun h=>h) (fun i j hi _=>absurd hi (bmf i))) (.inr rfl) rfl ?_;refine w_6 ?_;refine ae (ι:=Nat) (ka 0 (ka 1 (ka 4 kn))) (kb 0 km) (fun i=>⟨[(6,some (.v (.one (.ref 900 i)))),(7,some (vI i))],[(900,some (.arr true 1 84 i (lf rC (bo n ps))))]⟩) (fun i=>i <= ps.length /\ ∀ j,j < i -> (ps.getD j default) >>> n.toNat = 0) (fun i=>ps.length - i) (0) (⟨bmh _,bq⟩) kk ?_;rintro i ⟨hi,hI⟩;refine w_8 ?_;refine hcd (fun h3=>?_) (fun h3=>?_)
 ·
  have hin:=bdr (n:=n) (i:=i) bqi bqi bqi;refine cq ?_;refine qcx lg (li n) ?_;refine qcx l6 (qp _ _) ?_;refine w_3 ?_;refine hcv (fun h4=>?_) (fun h4=>?_)
  · refine w_6 ?_;refine hrr ?_;have he:=an8 (n:=n) (ps:=ps) (i:=i) bqi bqi bqi (fun e=>by have:=(a4w (n:=n) bqi bqi).2 e;simp_all);exact f9 rfl rfl (by rw [he];exact ⟨CoC.agg ⟨CoP.refl _,bf,trivial⟩,CoC.refl _,trivial⟩)
  refine w_5 ?_;refine bw 8 901 true 1 3 (lf zC (stR n i (ps.getD i default))) bqo rfl (CoP.sl rfl (.inr rfl) (fun h=>h) (fun i j hi _=>absurd hi (bmf i))) (.inr rfl) rfl ?_;refine w_6 ?_;refine b5 (ka 0 (ka 1 (ka 4 (ka 6 (ka 7 kn))))) (kb 900 (kb 0 km)) (fun k=>⟨[(8,some (.v (.one (.ref 901 k)))),(9,some (vI k))],[(901,some (.arr true 1 3 k (lf zC (stR n i (ps.getD i default)))))]⟩) n.toNat kk ?_;rintro k hk;refine w_7 ?_;refine hcd (fun h5=>?_) (fun h5=>?_)
  ·
   refine c5 ?_;refine qcx ov (a1z (ps.getD i default) (k:Int)) ?_;refine bz ?_;refine hcb (fun h6=>?_) (fun h6=>?_)
   · refine w_3 ?_;refine m9 1 ?_;refine r9 2 true ?_;refine w_7 ?_;exact lpx (k + 1) ⟨tt,⟨⟨_,rfl,(by first | exact (qt (fun h=>h) (fun j hj=>by obtain rfl:j = 0:=bqi;exact ar4 bqi bqj)) | exact (qt (fun h=>h) (fun j hj=>by obtain rfl:j = 0:=bqi;exact arb bqi bqj)))⟩,uu⟩⟩
   refine w_9 ?_;refine m9 3 ?_;refine r9 4 true ?_;refine w_7 ?_;exact lpx (k + 1) ⟨tt,⟨⟨_,rfl,(by first | exact (qt (fun h=>h) (fun j hj=>by obtain rfl:j = 0:=bqi;exact ar4 bqi bqj)) | exact (qt (fun h=>h) (fun j hj=>by obtain rfl:j = 0:=bqi;exact arb bqi bqj)))⟩,uu⟩⟩
  refine da ?_;refine al 8 rfl rfl rfl ?_;refine w_3 ?_;refine m9 5 ?_;refine r9 6 true ?_;refine w_7 ?_;refine lpz (i + 1) ⟨tt,⟨⟨_,rfl,(qt (fun h=>h) (fun j hj=>by obtain rfl:j = 0:=bqi;exact ayf bqi bqi))⟩,uu⟩⟩ ?_;exact ⟨by show i + 1 <= _;omega,aw hI ((a4w bqi bqi).1 (by first | assumption | exact a0i bqj))⟩
 obtain rfl:i = ps.length:=by omega
 refine w_2 ?_;refine al 6 rfl rfl rfl ?_;refine w_3 ?_;refine rc rfl rfl rfl rfl rfl rfl afa (abf n (bo n ps) (by rw [qx];omega)) (⟨CoC.refl _,CoC.one (CoP.sl (by rw [qx]) (.inl rfl) (fun h=>h) fun a j ha hj=>CoP.refl _),trivial⟩) rfl rfl ?_;refine w_3 ?_;refine hrr ?_;have he:=ab1 (n:=n) (ps:=ps) bqi bqi (fun j hj=>hI j bqi);exact f9 rfl rfl (by rw [he];exact CoL.refl _)
end
section
def Wel (n:Int) (l:List Rw):Prop:=∀ r,r ∈ l -> r.length = n.toNat /\ ∀ z,z ∈ r -> 0 <= z
section
variable {l:List Rw}
def a3a {i:Nat} (h:i < l.length):l.getD i default ∈ l:=by
 rw [bmb,bma h];exact bmz h
def yx {n:Int} (h:tok n l = true):Wel n l:=by
 obtain ⟨h0,h1,h2,h3⟩:=jk h;unfold tok at h;rw [bml,decide_eq_true_iff,decide_eq_true_iff] at h;rintro r hr;obtain ⟨i,hi,rfl⟩:=bn1 hr;have e:l.getD i default = l[i]:=by rw [bmb,bma hi];rfl
 rw [<- e];refine ⟨h3 i hi,fun z hz=>?_⟩;have:=h.2 i hi;unfold p8 at this;rw [bml,bml] at this;have h4:=this.1.2;rw [bn8,bo7] at h4;have:=h4 z hz;rw [decide_eq_true_iff] at this;omega
def b66 {n:Int} (h:tok n l = true):qh l:=by
 unfold tok at h;rw [bml,decide_eq_true_iff,decide_eq_true_iff] at h
 have hs:∀ d i:Nat,i + d + 1 < l.length -> ltZ (l.getD i default) (l.getD (i + d + 1) default) = true:=by
  intro d
  induction d with
  | zero =>
   intro i hi;have:=h.2 (i + 1) hi;unfold p8 at this;rw [bml,bnz,decide_eq_true_iff] at this
   rcases this.2 with h5 | h5
   · omega
   exact h5
  | succ d ih =>
   intro i hi;have h1:=ih i bqi;have:=h.2 (i + d + 1 + 1) bqi;unfold p8 at this;rw [bml,bnz,decide_eq_true_iff] at this
   rcases this.2 with h5 | h5
   · omega
   exact ky h1 h5
 unfold qh;rw [bod];intro i j hi hj hij;obtain ⟨d,rfl⟩:∃ d,j = i + d + 1:=⟨j - i - 1,by omega⟩;have:=hs d i hj;rwa [bmb,bma hi,bmb,bma hj] at this
def bcc {n:Int} (h0:0 <= n) (h1:n <= 16) (h2:l.length <= 256) (hw:Wel n l) (ho:qh l):tok n l = true:=by
 refine aub h0 h1 h2 fun i hi=>?_;obtain ⟨h3,h4⟩:=hw _ (a3a hi);refine a65 bqi ?_ ?_
 · rw [bo7]
   intro z hz;have:=h4 z hz;rw [decide_eq_true_iff];omega
 rcases boa i with h | h
 · exact .inl h
 right;have:=bod.1 ho (i - 1) i bqi hi bqi;rw [bmb,bma bqi,bmb,bma hi];exact this
def a6f {n:Int} (h0:0 <= n) (h1:n <= 16) (h2:(av l).length <= 256) (hw:Wel n l):tok n (av l) = true :=
 bcc h0 h1 h2 (fun r hr=>hw r (gv.1 hr)) (iw l)
def inV (l:List Rw) (M:Nat -> Nat -> Int) (z:Int):Prop:=∃ i r,i < l.length /\ r < (l.getD i default).length /\ M i r = z
def arx {z:Int}:inV l (ce l) z <-> ∃ r,r ∈ l /\ z ∈ r:=by
 constructor
 · rintro ⟨i,r,hi,hr,rfl⟩
   refine ⟨_,a3a hi, ?_⟩;show (l.getD i default).getD r default ∈ _;rw [bmb (l:=l.getD i default),bma hr];exact bmz hr
 rintro ⟨r,hr,hz⟩;obtain ⟨i,hi,rfl⟩:=bn1 hr;obtain ⟨k,hk,rfl⟩:=bn1 hz;have e:l.getD i default = l[i]:=by rw [bmb,bma hi];rfl
 refine ⟨i,k,hi,by rw [e];exact hk, ?_⟩;show (l.getD i default).getD k default = _;rw [e,bmb,bma hk];rfl
def aau {M:Nat -> Nat -> Int} {z:Int}:(∃ r,r ∈ en l M /\ z ∈ r) <-> inV l M z:=by
 constructor
 · rintro ⟨r,hr,hz⟩
   unfold en at hr;rw [bn2] at hr;obtain ⟨i,hi,rfl⟩:=hr;rw [bn2] at hz;obtain ⟨k,hk,rfl⟩:=hz;exact ⟨i,k,bmq.1 hi,bmq.1 hk,rfl⟩
 rintro ⟨i,k,hi,hk,rfl⟩;refine ⟨(List.range (l.getD i default).length).map (M i), ?_,bn2.2 ⟨k,bmq.2 hk,rfl⟩⟩;unfold en;exact bn2.2 ⟨i,bmq.2 hi,rfl⟩
end
section
variable {l:List Rw} {a b:Nat} (ha:a < l.length) (hb:b < l.length)
def ate (x y:Int):loI x y = x \/ loI x y = y:=by unfold loI;split <;> simp
def b52 (x y:Int):hiI x y = x \/ hiI x y = y:=by unfold hiI;split <;> simp
include ha hb in
def big {M:Nat -> Nat -> Int} {j:Nat} (hja:j < (l.getD a default).length) (hjb:j < (l.getD b default).length) {z:Int} (h:inV l (eqM M a b j) z):inV l M z:=by
 obtain ⟨i,r,hi,hr,he⟩:=h;unfold eqM at he;split at he
 · rcases ate (M a j) (M b j) with h | h
   · exact ⟨a,j,ha,hja,by rw [<- he,h]⟩
   exact ⟨b,j,hb,hjb,by rw [<- he,h]⟩
 exact ⟨i,r,hi,hr,he⟩
include ha hb in
def ano:∀ {js:List Nat} {M:Nat -> Nat -> Int},(∀ j,j ∈ js -> j < (l.getD a default).length /\ j < (l.getD b default).length) -> ∀ {z:Int},inV l (eqMs M a b js) z -> inV l M z
 | [],_,_,_,h=>h
 | j :: js,M,hj,z,h=>big ha hb (hj j bqm).1 (hj j bqm).2 (ano (js:=js) (M:=eqM M a b j) (fun k hk=>hj k (by simp [hk])) h)
include ha hb in
def ahq:∀ {js:List Nat} {M:Nat -> Nat -> Int},(∀ j,j ∈ js -> j < (l.getD a default).length /\ j < (l.getD b default).length) -> (∃ j,j ∈ js /\ ¬ M a j = M b j) -> ∃ z,inV l M z /\ ¬ inV l (eqMs M a b js) z
 | [],_,_,⟨_,h,_⟩=>by simp at h
 | j :: js,M,hj,⟨k,hk,hne⟩=>by
  by_cases e:M a j = M b j
  · have e2:eqMs M a b (j :: js) = eqMs M a b js:=by
     show eqMs (eqM M a b j) a b js = _;rw [w5 e]
    rw [e2];refine ahq (fun k hk=>hj k (by simp [hk])) ⟨k, ?_,hne⟩
    rcases bmp.1 hk with h | h
    · subst h;exact absurd e hne
    exact h
  refine ⟨hiI (M a j) (M b j), ?_,fun h=>?_⟩
  · rcases b52 (M a j) (M b j) with h | h
    · exact ⟨a,j,ha,(hj j bqm).1,h.symm⟩
    exact ⟨b,j,hb,(hj j bqm).2,h.symm⟩
  obtain ⟨i,r,hi,hr,he⟩:=ano ha hb (fun k hk=>hj k (by simp [hk])) (show inV l (eqMs (eqM M a b j) a b js) _ from h);unfold eqM at he;split at he
  · unfold hiI loI at he
    split at he <;> split at he <;> omega
  rename_i h2;exact h2 he
end
def af3 (Z:List Int) (l:List Rw):Nat:=Z.countP fun z=>l.any fun r=>decide (z ∈ r)
def muC (Z:List Int) (l:List Rw):Nat:=af3 Z l * 300 + (300 - l.length)
def Cov (Z:List Int) (l:List Rw):Prop:=∀ r,r ∈ l -> ∀ z,z ∈ r -> z ∈ Z
def zh {l:List Rw} {z:Int}:(l.any fun r=>decide (z ∈ r)) = true <-> ∃ r,r ∈ l /\ z ∈ r:=by
 rw [bne];exact ⟨fun ⟨r,h,h2⟩=>⟨r,h,of_decide_eq_true h2⟩,fun ⟨r,h,h2⟩=>⟨r,h,decide_eq_true h2⟩⟩
def countP_lt' {p q:Int -> Bool}:∀ {Z:List Int},(∀ z,p z = true -> q z = true) -> (∃ z,z ∈ Z /\ q z = true /\ p z = false) -> Z.countP p < Z.countP q
 | [],_,⟨_,h,_⟩=>by simp at h
 | x :: Z,h,⟨z,hz,hq,hp⟩=>by
  have hm:Z.countP p <= Z.countP q:=List.countP_mono_left fun z _=>h z;rw [boy,boy]
  rcases bmp.1 hz with rfl | hz
  · rw [hq,hp]
    simp only [if_true,bnq,if_false];omega
  have:=countP_lt' (Z:=Z) h ⟨z,hz,hq,hp⟩;by_cases e:p x = true
  · rw [e,h x e];omega
  rw [if_neg e];omega
def b6p {Z:List Int} {l l':List Rw} (h:∀ z,(∃ r,r ∈ l' /\ z ∈ r) -> ∃ r,r ∈ l /\ z ∈ r) (h2:∃ z,z ∈ Z /\ (∃ r,r ∈ l /\ z ∈ r) /\ ¬ ∃ r,r ∈ l' /\ z ∈ r):af3 Z l' < af3 Z l:=by
 refine countP_lt' (fun z hz=>zh.2 (h z (zh.1 hz))) ?_;obtain ⟨z,h3,h4,h5⟩:=h2;exact ⟨z,h3,zh.2 h4,by rw [bmm];exact fun e=>h5 (zh.1 e)⟩
def b90 {Z:List Int} {l l':List Rw} (h:∀ z,(∃ r,r ∈ l' /\ z ∈ r) -> ∃ r,r ∈ l /\ z ∈ r):af3 Z l' <= af3 Z l :=
 List.countP_mono_left fun z _ hz=>zh.2 (h z (zh.1 hz))
end
section
def ajt {r:Rw}:∀ {l:List Rw},r ∉ l -> (ke r l).length = l.length + 1
 | [],_=>rfl
 | y :: l,h=>by
  unfold ke;have h1:¬ r = y:=fun e=>h (by rw [e];simp);have h2:=ajt (l:=l) (r:=r) fun e=>h (by simp [e]);rw [if_neg h1];split
  · simp
  simp only [bn7];omega
def awu {l:List Rw} {r:Rw} (ho:qh l):av (l ++ [r]) = ke r l:=by
 have e:l = av l:=aju ho fun _=>Iff.rfl
 have:av (l ++ [r]) = ke r (av l):=by
  unfold av;rw [bnn];rfl
 rw [this,<- e]
section
variable {n:Int} {l:List Rw} {a b:Nat} {x:Fd}
abbrev fdL (l:List Rw) (a b:Nat) (x:Fd):List Rw:=av (en l (eqMs (ce l) a b (aj x.rhs)))
def atg (hT:tok n l = true) (hu:inU n x = true) (ha:a < l.length) (hb:b < l.length) (hs:ff l x a b = true) :
 fdE n l a b x = (n,fdL l a b x,0) /\ tok n (fdL l a b x) = true /\ (∀ z,(∃ r,r ∈ fdL l a b x /\ z ∈ r) -> ∃ r,r ∈ l /\ z ∈ r) /\ ∀ Z,Cov Z l -> muC Z (fdL l a b x) < muC Z l:=by
 obtain ⟨h0,h1,h2,h3⟩:=jk hT;have hw:=yx hT;unfold ff at hs;rw [bml,bn8] at hs;obtain ⟨hl,hr⟩:=hs
 have hj:∀ j,j ∈ aj x.rhs -> j < (l.getD a default).length /\ j < (l.getD b default).length:=fun j hj=>by
  have:=a7w h0 h1 hu hj;exact ⟨by rw [h3 a ha];exact this,by rw [h3 b hb];exact this⟩
 have hV:∀ z,(∃ r,r ∈ fdL l a b x /\ z ∈ r) -> ∃ r,r ∈ l /\ z ∈ r:=fun z ⟨r,hr,hz⟩=>arx.1 (ano ha hb hj (aau.1 ⟨r,gv.1 hr,hz⟩));have hlen:(fdL l a b x).length <= l.length:=bmo (a0y _) (bpn (mf _ _));refine ⟨if_pos hl,a6f h0 h1 (bmo hlen h2) (fun r hr=>⟨?_,fun z hz=>?_⟩),hV,fun Z hZ=>?_⟩
 · unfold en at hr
   rw [bn2] at hr;obtain ⟨i,hi,rfl⟩:=hr;rw [bms,boq];exact h3 i (bmq.1 hi)
 · obtain ⟨r2,h5,h6⟩:=hV z ⟨r,gv.2 hr,hz⟩
   exact (hw r2 h5).2 z h6
 have hne:∃ j,j ∈ aj x.rhs /\ ¬ ce l a j = ce l b j:=by
  apply Classical.byContradiction;intro hno;rw [a3c] at hr
  · cases hr
  intro i hi hh;apply Classical.byContradiction;intro e
  have hi2:i < 32:=by
   have:=h3 a ha;omega
  rw [gk hi2] at hh;exact hno ⟨i,j8.2 ⟨hi2,hh⟩,e⟩
 obtain ⟨z,hz1,hz2⟩:=ahq ha hb hj hne;have hz3:=arx.1 hz1;have:=b6p (Z:=Z) hV ⟨z,by obtain ⟨r,h7,h8⟩:=hz3;exact hZ r h7 z h8,hz3,fun ⟨r,h7,h8⟩=>hz2 (aau.1 ⟨r,gv.1 h7,h8⟩)⟩;unfold muC;omega
abbrev mvL (l:List Rw) (a b:Nat) (x:Fd):List Rw:=av (l ++ [ef (l.getD a default) (l.getD b default) (x.lhs ||| x.rhs)])
def bh8 (hT:tok n l = true) (ha:a < l.length) (hb:b < l.length) (hs:fk l x a b = true) :
 mvE n l a b x = (0,[],3) \/ (mvE n l a b x = (n,mvL l a b x,0) /\ tok n (mvL l a b x) = true /\ (∀ z,(∃ r,r ∈ mvL l a b x /\ z ∈ r) -> ∃ r,r ∈ l /\ z ∈ r) /\ ∀ Z,Cov Z l -> muC Z (mvL l a b x) < muC Z l):=by
 obtain ⟨h0,h1,h2,h3⟩:=jk hT;have hw:=yx hT;unfold fk at hs;rw [bml,bn8] at hs;obtain ⟨hl,hr⟩:=hs;have hno:=apw hr;have hE:mvE n l a b x = w4 n l (ef (l.getD a default) (l.getD b default) (x.lhs ||| x.rhs)):=if_pos hl;by_cases hbig:256 < (mvL l a b x).length
 · left
   rw [hE];exact if_pos hbig
 right
 have hmem:∀ z,z ∈ ef (l.getD a default) (l.getD b default) (x.lhs ||| x.rhs) -> z ∈ l.getD a default \/ z ∈ l.getD b default:=fun z hz=>by
  unfold ef at hz;rw [bn2] at hz;obtain ⟨i,hi,rfl⟩:=hz;have hi:=bmq.1 hi;have hi2:i < (l.getD a default).length:=by rw [h3 a ha,<- h3 b hb];exact hi
  split
  · left
    rw [bmb (l:=l.getD a default),bma hi2];exact bmz hi2
  right;rw [bmb (l:=l.getD b default),bma hi];exact bmz hi
 have hV:∀ z,(∃ r,r ∈ mvL l a b x /\ z ∈ r) -> ∃ r,r ∈ l /\ z ∈ r:=fun z ⟨r,hr,hz⟩=>by
  rcases bmu.1 (gv.1 hr) with h | h
  · exact ⟨r,h,hz⟩
  rw [bmx] at h;subst h
  rcases hmem z hz with h | h
  · exact ⟨_,a3a ha,h⟩
  exact ⟨_,a3a hb,h⟩
 refine ⟨by rw [hE];exact if_neg hbig,a6f h0 h1 (bpl fun e=>hbig e) (fun r hr=>⟨?_,fun z hz=>?_⟩),hV,fun Z hZ=>?_⟩
 · rcases bmu.1 hr with h | h
   · exact (hw r h).1
   rw [bmx] at h;subst h;rw [qi];exact h3 b hb
 · obtain ⟨r2,h5,h6⟩:=hV z ⟨r,gv.2 hr,hz⟩
   exact (hw r2 h5).2 z h6
 have e:(mvL l a b x).length = l.length + 1:=by
  show (av _).length = _;rw [awu (b66 hT),ajt hno]
 have:=b90 (Z:=Z) hV;unfold muC;omega
end
def axd {α:Type} {f:Nat -> Option α}:∀ {n:Nat} {x:α},(List.range n).findSome? f = some x -> ∃ k,k < n /\ f k = some x:=fun {n x} h=>by
 obtain ⟨k,hk,e⟩:=bq1 h;exact ⟨k,bmq.1 hk,e⟩
def a5e {P:Nat -> Nat -> Nat -> Bool} {I L i a b:Nat} (h:fz P I L = some (i,a,b)):i < I /\ a < L /\ b < L /\ P i a b = true:=by
 obtain ⟨i',hi,h⟩:=axd h;obtain ⟨a',ha,h⟩:=axd h;rw [Option.map_eq_some_iff] at h;obtain ⟨b',hb,e⟩:=h;simp only [bmj] at e;obtain ⟨rfl,rfl,rfl⟩:=e;exact ⟨hi,ha,bmq.1 (List.mem_of_find?_eq_some hb),by simpa using List.find?_some hb⟩
def y9 (l:List Rw) (p m:List Fd) (s:St):Prop:=s.2.2.1 < l.length /\ s.2.2.2 < l.length /\ ((s.1 = false /\ s.2.1 < p.length /\ ff l (p.getD s.2.1 default) s.2.2.1 s.2.2.2 = true) \/ (s.1 = true /\ s.2.1 < m.length /\ fk l (m.getD s.2.1 default) s.2.2.1 s.2.2.2 = true))
section
variable {l:List Rw} {m p:List Fd}
def a9i {s:St} (h:f7 l p m = some s):y9 l p m s:=by
 unfold f7 at h;split at h
 · rename_i x e
   simp only [bm9] at h;subst h;obtain ⟨i,a,b⟩:=x;obtain ⟨h1,h2,h3,h4⟩:=a5e e;exact ⟨h2,h3, .inl ⟨rfl,h1,h4⟩⟩
 rw [Option.map_eq_some_iff] at h;obtain ⟨⟨i,a,b⟩,e,rfl⟩:=h;obtain ⟨h1,h2,h3,h4⟩:=a5e e;exact ⟨h2,h3, .inr ⟨rfl,h1,h4⟩⟩
def dx (n:Int) (l:List Rw) (p m:List Fd) (s:St):Int × List Rw × Int:=if s.1 = true then mvE n l s.2.2.1 s.2.2.2 (m.getD s.2.1 default) else fdE n l s.2.2.1 s.2.2.2 (p.getD s.2.1 default)
def al3 {n:Int} {s:St} (hT:tok n l = true) (hp:p.all (inU n) = true) (h:y9 l p m s):
 dx n l p m s = (0,[],3) \/ ∃ l',dx n l p m s = (n,l',0) /\ tok n l' = true /\ (∀ Z,Cov Z l -> Cov Z l' /\ muC Z l' < muC Z l):=by
 obtain ⟨ha,hb,h | h⟩:=h
 · obtain ⟨h1,h2,h3⟩:=h
   have hu:inU n (p.getD s.2.1 default) = true:=bnh.1 hp _ (by rw [bmb,bma h2];exact bmz h2);obtain ⟨e,h4,h5,h6⟩:=atg hT hu ha hb h3;exact .inr ⟨_,by unfold dx;rw [if_neg (by rw [h1];decide)];exact e,h4,fun Z hZ=>⟨fun r hr z hz=>by obtain ⟨r2,h7,h8⟩:=h5 z ⟨r,hr,hz⟩;exact hZ r2 h7 z h8,h6 Z hZ⟩⟩
 obtain ⟨h1,h2,h3⟩:=h
 rcases bh8 hT ha hb h3 with e | ⟨e,h4,h5,h6⟩
 · exact .inl (by unfold dx;rw [if_pos h1];exact e)
 exact .inr ⟨_,by unfold dx;rw [if_pos h1];exact e,h4,fun Z hZ=>⟨fun r hr z hz=>by obtain ⟨r2,h7,h8⟩:=h5 z ⟨r,hr,hz⟩;exact hZ r2 h7 z h8,h6 Z hZ⟩⟩
def iu:Nat -> Int -> List Rw -> List Fd -> List Fd -> List St -> List St × (Int × List Rw) × Int
 | 0,_,_,_,_,_=>([],(0,[]),0)
 | f + 1,n,l,p,m,acc =>
  match f7 l p m with
  | none=>(acc,(n,l),0)
  | some s=>match dx n l p m s with
   | (n',l',e)=>if e = 0 then iu f n' l' p m (acc ++ [s]) else ([],(0,[]),e)
variable {acc:List St}
def acw {f:Nat} {n:Int} (hf:0 < f) (h:f7 l p m = none):iu f n l p m acc = (acc,(n,l),0):=by
 obtain ⟨g,rfl⟩:∃ g,f = g + 1:=⟨f - 1,by omega⟩;unfold iu;rw [h]
def ae7 {f:Nat} {n:Int} {s:St} (hf:0 < f) (h:f7 l p m = some s) {n' e:Int} {l':List Rw} (h2:dx n l p m s = (n',l',e)) (he:¬ e = 0):iu f n l p m acc = ([],(0,[]),e):=by
 obtain ⟨g,rfl⟩:∃ g,f = g + 1:=⟨f - 1,by omega⟩;unfold iu;rw [h];simp only;rw [h2];simp only;rw [if_neg he]
def a2b {f:Nat} {n:Int} {s:St} (hf:0 < f) (h:f7 l p m = some s) {n':Int} {l':List Rw} (h2:dx n l p m s = (n',l',0)):iu f n l p m acc = iu (f - 1) n' l' p m (acc ++ [s]):=by
 obtain ⟨g,rfl⟩:∃ g,f = g + 1:=⟨f - 1,by omega⟩;rw [Nat.add_sub_cancel]
 conv=>lhs;unfold iu
 rw [h];simp only;rw [h2];simp only;rw [if_pos trivial]
end
end
section
open Go.Proofs
def be6 (n:Int) (l:List Rw) (p m:List Fd) (s:St) (hT:tok n l = true) (hp:p.all (inU n) = true) (h:y9 l p m s) :
 a6 br6 176 [pT n l,pP (fdl p),pP (fdl m),s.pc] (a8 [pT (dx n l p m s).1 (dx n l p m s).2.1,pI (dx n l p m s).2.2]):=by
 obtain ⟨mu,i,a,b⟩:=s;obtain ⟨ha,hb,h | h⟩:=h
 · obtain ⟨h1,h2,h3⟩:=h
   cases h1;exact aq7 n l p m i a b hT ha hb h2 (bnh.1 hp _ (by rw [bmb,bma h2];exact bmz h2))
 obtain ⟨h1,h2,h3⟩:=h;cases h1;exact aq5 n l p m i a b hT ha hb h2
abbrev St.c (s:St):Nat -> PV:=fun j=>[.raw (.bool s.1), .raw (.int .i64 (s.2.1:Int)), .raw (.int .i64 (s.2.2.1:Int)), .raw (.int .i64 (s.2.2.2:Int))].getD j .any
abbrev stl (l:List St):PV:=psl 4 St.c l
abbrev ckE (n:Int) (l:List Rw) (p m:List Fd):Int:=if tok n l = true then bt n p m else 1
section
variable {l:List Rw} {m p:List Fd} {n:Int}
def adk (h:ckE n l p m = 0):tok n l = true /\ bt n p m = 0 /\ p.all (inU n) = true:=by
 unfold ckE at h;by_cases e:tok n l = true
 · rw [if_pos e] at h
   exact ⟨e,h,(kz h).2.2.2.1⟩
 rw [if_neg e] at h;omega
def jf (F:Nat) (n:Int) (l:List Rw) (p m:List Fd):List St × (Int × List Rw) × Int:=if ckE n l p m = 0 then iu F n l p m [] else ([],(0,[]),ckE n l p m)
variable {F:Nat}
def ab3 (h:¬ ckE n l p m = 0):jf F n l p m = ([],(0,[]),ckE n l p m):=if_neg h
def w8 (h:ckE n l p m = 0):jf F n l p m = iu F n l p m []:=if_pos h
def as6 {α:Type} {o:Option α} (h:o.isSome = false):o = none:=by cases o <;> simp_all
def ark {α:Type} {o:Option α} (d:α) (h:o.isSome = true):o = some (o.getD d):=by cases o <;> simp_all
def ao7 (l:List Rw):Cov l.flatten l:=fun r hr z hz=>List.mem_flatten.2 ⟨r,hr,hz⟩
structure StI (F:Nat) (n:Int) (l:List Rw) (p m:List Fd) (x:Nat × List Rw × List St):Prop where
 t:tok n x.2.1 = true
 c:Cov l.flatten x.2.1
 u:muC l.flatten x.2.1 < x.1
 b:x.2.2.length + x.1 <= F
 e:iu x.1 n x.2.1 p m x.2.2 = iu F n l p m []
theorem StI.start (hT:tok n l = true) (hF:muC l.flatten l < F):StI F n l p m (F,l,[]):=⟨hT,ao7 l,hF,by simp,rfl⟩
variable {x:Nat × List Rw × List St}
theorem StI.next {s:St} (h:StI F n l p m x) (hp:p.all (inU n) = true) (hS:f7 x.2.1 p m = some s) (he:(dx n x.2.1 p m s).2.2 = 0):
 (dx n x.2.1 p m s).1 = n /\ StI F n l p m (x.1 - 1,(dx n x.2.1 p m s).2.1,x.2.2 ++ [s]):=by
 have hu:=h.u;have hb:=h.b
 rcases al3 h.t hp (a9i hS) with e | ⟨l',e,h1,h2⟩
 · rw [e] at he;exact absurd he bqo
 have hq:=h2 _ h.c;refine ⟨by rw [e], ?_⟩;rw [e];exact ⟨h1,hq.1,by show muC _ l' < _;omega,by simp only [bmg,bo1];omega,by rw [<- h.e,a2b bqi hS e]⟩
theorem StI.fin (h:StI F n l p m x) (hS:f7 x.2.1 p m = none):iu F n l p m [] = (x.2.2,(n,x.2.1),0):=by
 have hu:=h.u;rw [<- h.e,acw bqi hS]
theorem StI.err {s:St} (h:StI F n l p m x) (hS:f7 x.2.1 p m = some s) (he:¬ (dx n x.2.1 p m s).2.2 = 0):iu F n l p m [] = ([],(0,[]),(dx n x.2.1 p m s).2.2):=by
 have hu:=h.u;rw [<- h.e];exact ae7 bqi hS rfl he
end
end
section
open Go.Proofs
def bc5 (F:Nat) (n:Int) (l:List Rw) (p m:List Fd) (hF:tok n l = true -> muC l.flatten l < F) (hFb:F <= 4000000000):a6 br6 151 [pT n l,pP (fdl p),pP (fdl m)] (a8 [pP (stl (jf F n l p m).1),pT (jf F n l p m).2.1.1 (jf F n l p m).2.1.2,pI (jf F n l p m).2.2]):=by
 refine hpx (nt:=53) Tryz.func151 ?_;refine sx7 ?_;refine m9 0 ?_;refine qy ?_;refine m9 1 ?_;refine w_8 ?_;refine qcx afv (ab6 n l p m) ?_;refine w_7 ?_;refine hcn (fun h0=>?_) (fun h0=>?_)
 · refine w_8 ?_;refine hrr ?_;have he:=ab3 (F:=F) (n:=n) (l:=l) (p:=p) (m:=m) bqj;exact f9 rfl rfl (by rw [he];exact ⟨CoC.one (CoP.sl rfl (.inr rfl) (fun _=>rfl) (fun i j hi _=>absurd hi (bmf i))),CoC.agg ⟨CoP.refl _,bf,trivial⟩,CoC.refl _,trivial⟩)
 have hck:ckE n l p m = 0:=by assumption
 obtain ⟨hT,hbe,hpa⟩:=adk hck;obtain ⟨hn0,hn16,hl256,hrow⟩:=jk hT;have hbig:∀ i,i < l.length -> (l.getD i default).length <= 17592186044416:=fun i hi=>by rw [hrow i hi];omega
 refine w_4 ?_;refine qcx afd (b2a n l hbig bqi) ?_;refine w_6 ?_;refine bw 10 900 true 4 129 (lf St.c []) bqo rfl (CoP.sl rfl (.inr rfl) (fun h=>h) (fun i j hi _=>absurd hi (bmf i))) (.inr rfl) rfl ?_;refine a5f ?_;refine ae (ι:=Nat × List Rw × List St) (ka 1 (ka 2 (ka 3 (ka 7 kn)))) (kb 1 km) (fun x=>⟨[(10,some (.v (.one (.ref 900 x.2.2.length))))],[(0,some (.box [.p (.raw (.int .i64 n)), .p (rl x.2.1)])),(900,some (.arr true 4 129 x.2.2.length (lf St.c x.2.2)))]⟩) (fun x=>StI F n l p m x) (fun x=>x.1) ((F,l,[])) (StI.start hT (hF hT)) kk ?_;rintro x hX;have hXu:=hX.u;have hXb:=hX.b;refine w_6 ?_;refine qcx (wgx Tryz.func201) (bey n x.2.1 p m hX.t) ?_;refine w_3 ?_;refine m9 2 ?_;refine w_9 ?_;refine hcv (fun h1=>?_) (fun h1=>?_)
 · have hS:=as6 (by simpa using h1);refine w_9 ?_;refine al 6 rfl rfl rfl ?_;refine hrr ?_;have he:=(w8 hck).trans (hX.fin hS);exact f9 rfl rfl (by rw [he];exact CoL.refl _)
 have hS:=ark (false,0,0,0) (by simpa using h1);refine w_7 ?_;refine qcx agl (be6 n x.2.1 p m ((f7 x.2.1 p m).getD (false,0,0,0)) hX.t hpa (a9i hS)) ?_;refine w_3 ?_;refine m9 3 ?_;refine w_9 ?_;refine hcn (fun h2=>?_) (fun h2=>?_)
 · refine w_8 ?_;refine hrr ?_;have he:=(w8 hck).trans (hX.err hS bqj);exact f9 rfl rfl (by rw [he];exact ⟨CoC.one (CoP.sl rfl (.inr rfl) (fun _=>rfl) (fun i j hi _=>absurd hi (bmf i))),CoC.agg ⟨CoP.refl _,bf,trivial⟩,CoC.refl _,trivial⟩)
 have hnx:=hX.next hpa hS bqj
 refine w_4 ?_;refine m9 4 ?_;refine r9 5 true ?_;refine w_5 ?_;refine ⟨(x.1 - 1,(dx n x.2.1 p m ((f7 x.2.1 p m).getD (false,0,0,0))).2.1,x.2.2 ++ [((f7 x.2.1 p m).getD (false,0,0,0))]), ?_, ?_, ?_⟩
 · exact hnx.2
 · show x.1 - 1 < x.1
   omega
 exact ⟨⟨⟨_,rfl,(bg rfl)⟩,tt⟩,⟨⟨_,rfl,⟨CoP.of_eq (by rw [hnx.1]),CoH.refl _,trivial⟩⟩,⟨_,rfl,(a95 rfl (fun j hj=>by match j,hj with | 0,_=>exact CoP.refl _ | 1,_=>exact CoP.refl _ | 2,_=>exact CoP.refl _ | 3,_=>exact CoP.refl _) rfl)⟩,uu⟩⟩
end
section
def ani:∀ {l:List Rw},(∀ r,r ∈ l -> r.length <= 16) -> l.flatten.length <= 16 * l.length
 | [],_=>by simp
 | r :: l,h=>by
  have h1:=h r bqm;have h2:=ani (l:=l) fun r hr=>h r (by simp [hr]);simp only [List.flatten_cons,bmg,bn7];omega
abbrev FU:Nat:=1300000
def aol {n:Int} {l:List Rw} (h:tok n l = true):muC l.flatten l < FU:=by
 obtain ⟨h0,h1,h2,h3⟩:=jk h;have h4:=ani (l:=l) fun r hr=>by have:=(yx h r hr).1;omega
 have h5:af3 l.flatten l <= l.flatten.length:=List.countP_le_length;unfold muC;show _ < 1300000;omega
def bcn {n:Int} {i:Nat} {p:AS} {k a N:Nat} (h:d6 p (k:Int) = true) (hN:N = n.toNat) (ha:a = k) :
 CoO (.arr true 1 3 N (ez (lf zC (stT n i p k)) a 0 [.raw (.int .i64 (k:Int))])) (.arr true 1 3 N (lf zC (stT n i p (k + 1)))):=by
 subst ha;refine ⟨fun h=>h,rfl,rfl,rfl,fun c j hc hj=>CoP.of_eq ?_⟩;obtain rfl:j = 0:=by omega
 show _ = PV.raw (.int .i64 ((stT n i p (a + 1)).getD c default));rw [aaq c bqi];unfold ez;by_cases e:c = a
 · rw [if_pos ⟨e,by omega,by simp⟩,if_pos e]
   unfold stV;rw [if_pos h];rfl
 rw [if_neg (fun x=>e x.1),if_neg e];rfl
def az6 {k:Nat} (h:k < 32):d6 (jn 32) (k:Int) = true:=by
 rw [gk h,ny 32 k h];exact decide_eq_true h
def az9 {n:Int} {k:Nat} (h1:n <= 16) (hk:n.toNat <= k):stT n 0 (jn 32) k = dj n:=by
 rw [as9 _ _ _ hk];unfold stR dj;refine boo fun c hc=>?_;have:=bmq.1 hc;unfold stV;rw [if_pos (az6 bqi)]
def avi {n:Int} {k:Nat} (h1:n <= 16) (hk:n.toNat <= k):CoC (.one (.sl n.toNat 1 false (lf zC (stT n 0 (jn 32) k)))) (pZ (dj n)):=by
 rw [az9 h1 hk];exact atl (ad0 n)
abbrev a17 (n:Int) (x:Fd):List AS:=[x.lhs ||| x.rhs,x.lhs ||| (a7 n &&& ~~~x.rhs)]
def blf (n:Int) (p m:List Fd) (x:Fd):Bool × Int :=
 if bt n p m = 0 then
  if inU n x = true then
   if (gu n (a17 n x)).2.2 = 0 then
    if (jf FU (gu n (a17 n x)).1 (gu n (a17 n x)).2.1 p m).2.2 = 0 then ((jf FU (gu n (a17 n x)).1 (gu n (a17 n x)).2.1 p m).2.1.2.any (fun r=>decide (r = dj n)),0)
    else (false,(jf FU (gu n (a17 n x)).1 (gu n (a17 n x)).2.1 p m).2.2)
   else (false,(gu n (a17 n x)).2.2)
  else (false,1)
 else (false,bt n p m)
end
section
def bgo {r:Rw} {g f:Nat -> Nat -> PV} (hf:∀ i j,f i j = lf zC r i j):CoP (.sl (0 + r.length) 1 false (eq 0 g f)) (zl r) :=
 CoP.sl (bna _).symm (.inl rfl) (fun h=>h) fun i j hi hj=>CoP.of_eq (by simp [eq,hf])
def au1 {l:List Rw} {i k:Nat} {g f:Nat -> Nat -> PV} {e et:TypeId} (hk:k = (l.getD i default).length) (hf:∀ a b,f a b = lf zC (l.getD i default) a b) :
 CoO (.nest e et 1 (i + 1) (sv (nM l) i k) (vb (mg (ce l)) i (eq 0 g f)) none) (.nest e et 1 (i + 1) (nM l) (mg (ce l)) none):=by
 have e:eq 0 g f = lf zC (l.getD i default):=by funext a b;simp [eq,hf]
 rw [e];exact agv hk rfl
end
section
open Go.Proofs
def aeg:goodFn br6 182:=wgx Tryz.func182
def alo (l:List Rw) (hl:∀ i,i < l.length -> (l.getD i default).length <= 17592186044416) (hl2:l.length <= 5864062014805):d4 br6 182 [.one (.p (rl l))] [] (.v (.one (.ref 901 l.length))) [(901, .arr true 1 84 l.length (lf rC l))] []:=by
 refine hfx (nt:=21) Tryz.func182 ?_;refine cb ?_;refine c8 0 rfl fun hn=>?_;refine w_7 ?_;refine bw 3 901 true 1 84 (lf rC l) bqo rfl (CoP.sl rfl (.inr rfl) (fun h=>h) (fun i j hi _=>absurd hi (bmf i))) (.inr rfl) rfl ?_;refine w_6 ?_;refine b5 (ka 0 kn) km (fun i=>⟨[(3,some (.v (.one (.ref 901 i)))),(4,some (vI i))],[(901,some (.arr true 1 84 i (lf rC l)))]⟩) l.length kk ?_;rintro i hi;refine w_8 ?_;refine hcd (fun h0=>?_) (fun h0=>?_)
 · have hli:=hl i bqi;refine w_3 ?_;refine atp [0,1,2,3,4,5,6] [7,8,9] rfl ?_;refine avw (E:=gr) fm ?_;refine qy ?_;refine m9 0 ?_;refine w_4 ?_;refine r9 1 true ?_;refine bz ?_;refine bhv ?_;refine axp 17 rfl rfl rfl ?_;refine bb7 ?_;refine avw (E:=gr) (L1:=[7,8,9]) (L2:=[]) fm ?_;refine m9 2 ?_;refine r9 3 true ?_;refine w_2 ?_;refine bdv ?_;refine w_5 ?_;exact lpx (i + 1) ⟨tt,⟨⟨_,rfl,(qt (fun h=>h) (fun j hj=>by obtain rfl:j = 0:=bqi;exact bgo (fun _ _=>rfl)))⟩,trivial⟩⟩
 obtain rfl:i = l.length:=by omega
 refine w_6 ?_;refine hrr ?_;exact ⟨_,_,rfl,bqk,CoR.refl _,uu⟩
def ay0 (l:List Rw) (hl:∀ i,i < l.length -> (l.getD i default).length <= 17592186044416) (hl2:l.length <= 5864062014805):d4 br6 182 [.one (.p (rl l))] [] (.v (.one (.ref 901 l.length))) [(901, .nest 84 3 1 l.length (nM l) (mg (ce l)) none)] []:=by
 refine hfx (nt:=21) Tryz.func182 ?_;refine cb ?_;refine c8 0 rfl fun hn=>?_;refine w_7 ?_;refine ayw 3 901 84 3 1 (nM l) (mg (ce l)) bqo rfl rfl ?_;refine w_6 ?_;refine b5 (ka 0 kn) km (fun i=>⟨[(3,some (.v (.one (.ref 901 i)))),(4,some (vI i))],[(901,some (.nest 84 3 1 i (nM l) (mg (ce l)) none))]⟩) l.length kk ?_;rintro i hi;refine w_8 ?_;refine hcd (fun h0=>?_) (fun h0=>?_)
 · have hli:=hl i bqi;refine w_5 ?_;refine m9 0 ?_;refine w_4 ?_;refine r9 1 true ?_;refine m9 2 ?_;refine r9 3 true ?_;refine w_2 ?_;refine ahb 901 0 rfl rfl ?_;refine w_5 ?_;exact lpx (i + 1) ⟨tt,⟨⟨_,rfl,(au1 (bna _) (fun _ _=>rfl))⟩,trivial⟩⟩
 obtain rfl:i = l.length:=by omega
 refine w_6 ?_;refine hrr ?_;exact ⟨_,_,rfl,bqk,CoR.refl _,uu⟩
end
section
def ayj {s:AS} {n:Nat} (hn:n <= 32) (h:∀ j,j ∈ aj s -> j < n):eu s n = aj s:=by
 have h2:∀ d,n + d <= 32 -> eu s (n + d) = eu s n:=by
  intro d
  induction d with
  | zero=>intro _;rfl
  | succ d ih =>
   intro hd
   have hf:d6 s ((n + d:Nat):Int) = false:=by
    rw [gk bqi,bmm];intro e;have:=h _ (j8.2 ⟨by omega,e⟩);omega
   rw [<- ih bqi];exact rj (i:=n + d) (show n + d < 32 by omega) hf
 have:=h2 (32 - n) bqi;rw [<- this,show n + (32 - n) = 32 by omega];rfl
def u7 {M:Nat -> Nat -> Int} {a b j:Nat} {js:List Nat}:eqMs M a b (js ++ [j]) = eqM (eqMs M a b js) a b j:=by
 unfold eqMs;rw [bnn];rfl
def b30 {l:List Rw} {M:Nat -> Nat -> Int} {n:Nat} (hn:n = l.length):CoP (.sl n 1 false (a0z 1 (nM l) (mg M))) (rl (en l M)):=by
 obtain ⟨_,_,_,h1,h2⟩:=aq1 (l:=l) (M:=M) (e:=25) hn;exact CoP.sl h1 (.inl rfl) (fun h=>h) h2
end
end Go.Hx

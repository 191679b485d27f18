/- A part of the proof: X12 Ch9 X13 Ch10 X14 Ch11 Ch12 Ch13 X15 Ch14 Ch17. -/
import Derived.Test.YtkkenjdfbojdlaaGreatDoorGx16
import Derived.Test.YtkkenjdfbojdlaaGreatDoorGx27
set_option linter.all false
set_option maxRecDepth 100000
set_option maxHeartbeats 1000000
namespace Go.Hx
section
open Go.Proofs
theorem b5j:goodFn Tryz.prog 201:=wgx Tryz.func201
theorem bak (n:Int) (l:List Rw) (p m:List Fd) (hT:tok n l = true):a7 Tryz.prog 201 [pT n l,pP (fdl p),pP (fdl m)] (ae [St.pc ((eu l p m).getD (false,0,0,0)),pB (eu l p m).isSome]):=by
 refine hpx (nt:=132) Tryz.func201 ?_;refine cq ?_;obtain ⟨hn0,hn16,hl256,hrow⟩:=jc hT;refine cb 1 rfl fun hn1=>?_;refine cb 2 rfl fun hn2=>?_;refine gy ?_;refine m9 0 ?_;refine m9 1 ?_;refine ce ?_;refine a6 (ι:=Nat) ⟨[(2,some _),(3,some _),(6,some _),(16,some _),(17,some _)],[(0,some _),(1,some _)]⟩ ⟨⟨c9,c9,c9,c9,c9,trivial⟩,⟨u9,u9,trivial⟩⟩ (fun i=>⟨[(18,some (vI i))],[]⟩) (fun i=>i <= p.length /\ (∀ i',i' < i -> ∀ a',a' < l.length -> ∀ b',b' < l.length -> ey l (p.getD i' default) a' b' = false)) (fun i=>p.length - i) (0) (⟨bkl _,bq⟩) ⟨⟨zy,trivial⟩,trivial⟩ ?_;rintro i ⟨hi,hI⟩;refine w_5 ?_;refine hcd (fun h0=>?_) (fun h0=>?_)
 ·
  refine w_8 ?_;refine m9 2 ?_;refine cu ?_;refine a6 (ι:=Nat) ⟨[(2,some _),(3,some _),(6,some _),(8,some _),(9,some _),(16,some _),(17,some _),(18,some _),(25,some _)],[(0,some _),(1,some _),(2,some _)]⟩ ⟨⟨c9,c9,c9,c9,c9,c9,c9,c9,c9,trivial⟩,⟨u9,u9,u9,trivial⟩⟩ (fun a=>⟨[(26,some (vI a))],[]⟩) (fun a=>a <= l.length /\ (∀ a',a' < a -> ∀ b',b' < l.length -> ey l (p.getD i default) a' b' = false)) (fun a=>l.length - a) (0) (⟨bkl _,bq⟩) ⟨⟨zy,trivial⟩,trivial⟩ ?_;rintro a ⟨ha,hA⟩;refine w_5 ?_;refine hcd (fun h1=>?_) (fun h1=>?_)
  ·
   refine x9 ?_;refine a6 (ι:=Nat) ⟨[(2,some _),(3,some _),(6,some _),(8,some _),(9,some _),(10,some _),(16,some _),(17,some _),(18,some _),(25,some _),(26,some _),(31,some _)],[(0,some _),(1,some _),(2,some _)]⟩ ⟨⟨c9,c9,c9,c9,c9,c9,c9,c9,c9,c9,c9,c9,trivial⟩,⟨u9,u9,u9,trivial⟩⟩ (fun b=>⟨[(32,some (vI b))],[]⟩) (fun b=>b <= l.length /\ (∀ b',b' < b -> ey l (p.getD i default) a b' = false)) (fun b=>l.length - b) (0) (⟨bkl _,bq⟩) ⟨⟨zy,trivial⟩,trivial⟩ ?_;rintro b ⟨hb,hB⟩;refine w_5 ?_;refine hcd (fun h2=>?_) (fun h2=>?_)
   ·
    refine ay9 ?_;refine qcx a2o (a4p (l.getD a default) (l.getD b default) (p.getD i default).lhs (by rw [hrow _ bos,hrow _ bos]) (by rw [hrow _ bos];omega)) ?_;refine qy ?_;refine am rfl rfl (fun r3=>?_) (fun r3=>?_)
    ·
     have h3:=r3;(iterate 12 refine qy ?_ (hg:=(gtt r3)));refine qcx a2o (a4p (l.getD a default) (l.getD b default) (p.getD i default).rhs (by rw [hrow _ bos,hrow _ bos]) (by rw [hrow _ bos];omega)) ?_ (hg:=(gtt r3));refine qy ?_ (hg:=(gtt r3));refine w_3 ?_;refine a8 _ rfl (fun r4=>?_) (fun r4=>?_)
     · have h4:=d6 (bp r3 r4);refine ce ?_;refine ⟨.inr rfl, ?_⟩;have he:=b8u (m:=m) (a1a (P:=fun i a b=>ey l (p.getD i default) a b) (i:=i) (a:=a) (b:=b) bos bos bos (b7y bot bot) hI hA hB);exact f9 rfl rfl (by rw [he];exact CoL.refl _)
     have h4:=d5 (bp r3 r4);refine w_5 ?_;refine lpz (b + 1) ⟨⟨zy,c9,c9,c9,c9,c9,c9,c9,c9,c9,c9,c9,c9,trivial⟩,⟨u9,u9,u9,trivial⟩⟩ ?_;exact ⟨by show b + 1 <= _;omega,az hB (by first | exact a4e bot | exact aad bot)⟩
    have h3:=r3;(iterate 14 refine k9 (gft r3) ?_);refine rq rfl rfl rfl rfl rfl ?_ (hp:=r3);refine w_2 ?_;refine a8 _ rfl (fun e=>by cases e) (fun _=>?_);refine w_5 ?_
    refine lpz (b + 1) ⟨⟨zy,c9,c9,c9,c9,c9,c9,c9,c9,c9,c9,c9,c9,trivial⟩,⟨u9,u9,u9,trivial⟩⟩ ?_;exact ⟨by show b + 1 <= _;omega,az hB (by first | exact a4e bot | exact aad bot)⟩
   refine w_5 ?_;refine lpz (a + 1) ⟨⟨zy,c9,c9,c9,c9,c9,c9,c9,c9,c9,trivial⟩,⟨u9,u9,u9,trivial⟩⟩ ?_;exact ⟨by show a + 1 <= _;omega,az hA (fun b' hb'=>hB b' bos)⟩
  refine w_5 ?_;refine lpz (i + 1) ⟨⟨zy,c9,c9,c9,c9,c9,trivial⟩,⟨u9,u9,trivial⟩⟩ ?_;exact ⟨by show i + 1 <= _;omega,az hI (fun a' ha'=>hA a' bos)⟩
 obtain rfl:i = p.length:=by omega
 have hno:=a19 (P:=fun i a b=>ey l (p.getD i default) a b) (I:=p.length) (L:=l.length) hI;refine w_9 ?_;refine a6 (ι:=Nat) ⟨[(3,some _),(6,some _),(71,some _),(72,some _)],[(0,some _),(1,some _)]⟩ ⟨⟨c9,c9,c9,c9,trivial⟩,⟨u9,u9,trivial⟩⟩ (fun k=>⟨[(73,some (vI k))],[]⟩) (fun k=>k <= m.length /\ (∀ i',i' < k -> ∀ a',a' < l.length -> ∀ b',b' < l.length -> f8 l (m.getD i' default) a' b' = false)) (fun k=>m.length - k) (0) (⟨bkl _,bq⟩) ⟨⟨zy,trivial⟩,trivial⟩ ?_;rintro k ⟨hk,hK⟩;refine w_5 ?_;refine hcd (fun h5=>?_) (fun h5=>?_)
 ·
  refine w_8 ?_;refine m9 3 ?_;refine cu ?_;refine a6 (ι:=Nat) ⟨[(3,some _),(6,some _),(12,some _),(13,some _),(71,some _),(72,some _),(73,some _),(80,some _)],[(0,some _),(1,some _),(3,some _)]⟩ ⟨⟨c9,c9,c9,c9,c9,c9,c9,c9,trivial⟩,⟨u9,u9,u9,trivial⟩⟩ (fun c=>⟨[(81,some (vI c))],[]⟩) (fun c=>c <= l.length /\ (∀ a',a' < c -> ∀ b',b' < l.length -> f8 l (m.getD k default) a' b' = false)) (fun c=>l.length - c) (0) (⟨bkl _,bq⟩) ⟨⟨zy,trivial⟩,trivial⟩ ?_;rintro c ⟨hc,hC⟩;refine w_5 ?_;refine hcd (fun h6=>?_) (fun h6=>?_)
  ·
   refine x9 ?_;refine a6 (ι:=Nat) ⟨[(3,some _),(6,some _),(12,some _),(13,some _),(14,some _),(71,some _),(72,some _),(73,some _),(80,some _),(81,some _),(86,some _)],[(0,some _),(1,some _),(3,some _)]⟩ ⟨⟨c9,c9,c9,c9,c9,c9,c9,c9,c9,c9,c9,trivial⟩,⟨u9,u9,u9,trivial⟩⟩ (fun d=>⟨[(87,some (vI d))],[]⟩) (fun d=>d <= l.length /\ (∀ b',b' < d -> f8 l (m.getD k default) c b' = false)) (fun d=>l.length - d) (0) (⟨bkl _,bq⟩) ⟨⟨zy,trivial⟩,trivial⟩ ?_;rintro d ⟨hd,hD⟩;refine w_5 ?_;refine hcd (fun h7=>?_) (fun h7=>?_)
   ·
    refine ay9 ?_;refine qcx a2o (a4p (l.getD c default) (l.getD d default) (m.getD k default).lhs (by rw [hrow _ bos,hrow _ bos]) (by rw [hrow _ bos];omega)) ?_;refine qy ?_;refine am rfl rfl (fun r8=>?_) (fun r8=>?_)
    ·
     have h8:=r8;(iterate 16 refine qy ?_ (hg:=(gtt r8)));refine rc rfl rfl rfl rfl rfl rfl ap4 (avx (l.getD c default) (l.getD d default) ((m.getD k default).lhs ||| (m.getD k default).rhs) (by rw [hrow _ bos,hrow _ bos]) (by rw [hrow _ bos];omega)) (⟨CoC.refl _,CoC.refl _,cci (by rw [bOr];rfl),trivial⟩) rfl (gtt r8) ?_;refine qcx acz (ars n l (dz (l.getD c default) (l.getD d default) ((m.getD k default).lhs ||| (m.getD k default).rhs))) ?_ (hg:=(gtt r8));refine qy ?_ (hg:=(gtt r8));refine w_3 ?_;refine a8 _ rfl (fun r9=>?_) (fun r9=>?_)
     · have h9:=d6 (bp r8 r9);refine ce ?_;refine ⟨.inr rfl, ?_⟩;have he:=b6l hno (a1a (P:=fun i a b=>f8 l (m.getD i default) a b) (i:=k) (a:=c) (b:=d) bos bos bos (b7p bot bot) hK hC hD);exact f9 rfl rfl (by rw [he];exact CoL.refl _)
     have h9:=d5 (bp r8 r9);refine w_5 ?_;refine lpz (d + 1) ⟨⟨zy,c9,c9,c9,c9,c9,c9,c9,c9,c9,c9,c9,trivial⟩,⟨u9,u9,u9,trivial⟩⟩ ?_;exact ⟨by show d + 1 <= _;omega,az hD (by first | exact aj7 bot | exact aab bot)⟩
    have h8:=r8;(iterate 19 refine k9 (gft r8) ?_);refine rq rfl rfl rfl rfl rfl ?_ (hp:=r8);refine w_2 ?_;refine a8 _ rfl (fun e=>by cases e) (fun _=>?_);refine w_5 ?_
    refine lpz (d + 1) ⟨⟨zy,c9,c9,c9,c9,c9,c9,c9,c9,c9,c9,c9,trivial⟩,⟨u9,u9,u9,trivial⟩⟩ ?_;exact ⟨by show d + 1 <= _;omega,az hD (by first | exact aj7 bot | exact aab bot)⟩
   refine w_5 ?_;refine lpz (c + 1) ⟨⟨zy,c9,c9,c9,c9,c9,c9,c9,c9,trivial⟩,⟨u9,u9,u9,trivial⟩⟩ ?_;exact ⟨by show c + 1 <= _;omega,az hC (fun b' hb'=>hD b' bos)⟩
  refine w_5 ?_;refine lpz (k + 1) ⟨⟨zy,c9,c9,c9,c9,trivial⟩,⟨u9,u9,trivial⟩⟩ ?_;exact ⟨by show k + 1 <= _;omega,az hK (fun a' ha'=>hC a' bos)⟩
 refine w_8 ?_;refine ⟨.inr rfl, ?_⟩;have he:=b83 hno (a19 (P:=fun i a b=>f8 l (m.getD i default) a b) (I:=m.length) (L:=l.length) fun j hj=>hK j bos);exact f9 rfl rfl (by rw [he];exact CoL.refl _)
end
section
def stV (n:Int) (i:Nat) (p:AS) (c:Nat):Int:=if dq p (c:Int) = true then (c:Int) else n + (i:Int) * n + (c:Int)
def stT (n:Int) (i:Nat) (p:AS) (k:Nat):Rw:=(List.range n.toNat).map fun c=>if c < k then stV n i p c else 0
def stR (n:Int) (i:Nat) (p:AS):Rw:=(List.range n.toNat).map fun c=>stV n i p c
def bm (n:Int) (ps:List AS):List Rw:=(List.range ps.length).map fun i=>stR n i (ps.getD i default)
theorem af1 (n:Int) (i:Nat) (p:AS):(stR n i p).length = n.toNat:=by unfold stR;simp
theorem pj (n:Int) (ps:List AS):(bm n ps).length = ps.length:=by unfold bm;simp
section
variable {i:Nat} {n:Int} {ps:List AS}
theorem afa (h:i < ps.length):(bm n ps).getD i default = stR n i (ps.getD i default):=by
 unfold bm;rw [bkk,bl6,bm5 h];rfl
variable {k:Nat}
theorem aor (n:Int) (i:Nat) (p:AS) (h:n.toNat <= k):stT n i p k = stR n i p:=by
 unfold stT stR;refine bn1 fun c hc=>?_;have:=bl0.1 hc;rw [if_pos bos]
variable {p:AS}
theorem alg {c:Nat} (h:c < n.toNat):(stT n i p k).getD c default = if c < k then stV n i p c else 0:=by
 unfold stT;rw [bkk,bl6,bm5 h];rfl
theorem ajq {N:Nat} {f:Nat -> Nat -> PV} (hN:N = n.toNat) (hf:∀ a,f a 0 = .raw (.int .i64 0)):CoO (.arr true 1 3 N f) (.arr true 1 3 N (lf zC (stT n i p 0))) :=
 ⟨fun h=>h,rfl,rfl,rfl,fun a j ha hj=>by
  obtain rfl:j = 0:=by omega
  refine CoP.of_eq ?_;rw [hf];show _ = PV.raw (.int .i64 ((stT n i p 0).getD a default))
  rw [alg bos,if_neg bos]⟩
theorem a9f:∀ c,c < n.toNat -> (stT n i p (k + 1)).getD c default = if c = k then stV n i p k else (stT n i p k).getD c default:=fun c hc=>by
 rw [alg hc,alg hc];by_cases h:c = k
 · rw [if_pos h,if_pos bos,h]
 rw [if_neg h];by_cases h2:c < k
 · rw [if_pos h2,if_pos bos]
 rw [if_neg h2,if_neg bos]
theorem au2 {a b N:Nat} {x:Int} (h:dq p (k:Int) = true) (hN:N = n.toNat) (ha:a = k) (hb:b = k):
 CoO (.arr true 1 3 N (er (er (lf zC (stT n i p k)) a 0 [.raw (.int .i64 x)]) b 0 [.raw (.int .i64 (k:Int))])) (.arr true 1 3 N (lf zC (stT n i p (k + 1)))):=by
 subst ha hb;refine ⟨fun h=>h,rfl,rfl,rfl,fun c j hc hj=>CoP.of_eq ?_⟩;obtain rfl:j = 0:=by omega
 show _ = PV.raw (.int .i64 ((stT n i p (b + 1)).getD c default));rw [a9f c bos];unfold er;by_cases e:c = b
 · rw [if_pos ⟨e,by omega,by simp⟩,if_pos e]
   unfold stV;rw [if_pos h];rfl
 rw [if_neg (fun x=>e x.1),if_neg (fun x=>e x.1),if_neg e];rfl
theorem aw6 {a N:Nat} (h:¬ dq p (k:Int) = true) (hN:N = n.toNat) (ha:a = k):
 CoO (.arr true 1 3 N (er (lf zC (stT n i p k)) a 0 [.raw (.int .i64 (n + (i:Int) * n + (k:Int)))])) (.arr true 1 3 N (lf zC (stT n i p (k + 1)))):=by
 subst ha;refine ⟨fun h=>h,rfl,rfl,rfl,fun c j hc hj=>CoP.of_eq ?_⟩;obtain rfl:j = 0:=by omega
 show _ = PV.raw (.int .i64 ((stT n i p (a + 1)).getD c default));rw [a9f c bos];unfold er;by_cases e:c = a
 · rw [if_pos ⟨e,by omega,by simp⟩,if_pos e]
   unfold stV;rw [if_neg h];rfl
 rw [if_neg (fun x=>e x.1),if_neg e];rfl
theorem b2o {s:AS}:(asI s).fdiv (2 ^ (min n.toNat 32)) = 0 <-> s >>> n.toNat = 0:=by
 rw [xe,show (0:Int) = asI 0 from rfl,cg]
theorem bde (h0:0 <= n) (h1:n <= 16) (hi:i <= 64):0 <= (i:Int) * n /\ (i:Int) * n <= 1024:=by
 refine ⟨Int.mul_nonneg bos h0, ?_⟩;have h2:(i:Int) * n <= (i:Int) * 16:=Int.mul_le_mul_of_nonneg_left h1 bos;omega
def gh (n:Int) (ps:List AS):Int × List Rw × Int :=
 if n < 0 \/ 16 < n then (0,[],7) else if 64 < ps.length then (0,[],3) else if ps.all (fun p=>decide (p >>> n.toNat = 0)) = true then (n,ar (bm n ps),0) else (0,[],1)
theorem a43 (h:n < 0 \/ 16 < n):gh n ps = (0,[],7):=if_pos h
theorem ahn (h:¬ (n < 0 \/ 16 < n)) (h2:64 < ps.length):gh n ps = (0,[],3):=by unfold gh;rw [if_neg h,if_pos h2]
theorem ajr (h:¬ (n < 0 \/ 16 < n)) (h2:¬ 64 < ps.length) (hi:i < ps.length) (h3:¬ (ps.getD i default) >>> n.toNat = 0):gh n ps = (0,[],1):=by
 unfold gh;rw [if_neg h,if_neg h2,if_neg (fun e=>absurd (abq (l:=ps) (p:=fun p:AS=>decide (p >>> n.toNat = 0)) hi (decide_eq_false h3)) (by rw [e];decide))]
theorem aaj (h:¬ (n < 0 \/ 16 < n)) (h2:¬ 64 < ps.length) (h3:∀ j,j < ps.length -> (ps.getD j default) >>> n.toNat = 0):gh n ps = (n,ar (bm n ps),0):=by
 unfold gh;rw [if_neg h,if_neg h2,if_pos (ahe (l:=ps) (p:=fun p:AS=>decide (p >>> n.toNat = 0)) fun j hj=>decide_eq_true (h3 j hj))]
theorem b1b (hi:i < ps.length) (hk:n.toNat <= k):CoP (.sl n.toNat 1 false (lf zC (stT n i (ps.getD i default) k))) (lf rC (bm n ps) i 0):=by
 show CoP _ (zl ((bm n ps).getD i default));rw [afa hi,aor n i _ hk];exact CoP.sl (af1 _ _ _) (.inl rfl) (fun h=>h) fun a j ha hj=>CoP.refl _
end
end
section
open Go.Proofs
theorem b6i:goodFn Tryz.prog 128:=wgx Tryz.func128
theorem bax (n:Int) (ps:List AS):a7 Tryz.prog 128 [pI n,pP (asl ps)] (ae [pT (gh n ps).1 (gh n ps).2.1,pI (gh n ps).2.2]):=by
 refine hpx (nt:=73) Tryz.func128 ?_;refine sx7 ?_;refine m9 0 ?_;refine w_9 ?_;refine am rfl rfl (fun r0=>?_) (fun r0=>?_)
 ·
  have h0:=tz1 r0;(iterate 2 refine k9 (gtf r0) ?_);refine rq rfl rfl rfl rfl rfl ?_ (hp:=r0);refine w_2 ?_;refine a8 _ rfl (fun _=>?_) (fun e=>by cases e);refine w_7 ?_;refine ⟨.inr rfl, ?_⟩
  have he:=a43 (n:=n) (ps:=ps) bos;exact f9 rfl rfl (by rw [he];exact ⟨CoC.agg ⟨CoP.refl _,bf,trivial⟩,CoC.refl _,trivial⟩)
 have h0:=tz2 r0;(iterate 2 refine qy ?_ (hg:=(gff r0)));refine w_3 ?_;refine a8 _ rfl (fun r1=>?_) (fun r1=>?_)
 · have h1:=tz1 (au r0 r1);refine w_7 ?_;refine ⟨.inr rfl, ?_⟩;have he:=a43 (n:=n) (ps:=ps) bos;exact f9 rfl rfl (by rw [he];exact ⟨CoC.agg ⟨CoP.refl _,bf,trivial⟩,CoC.refl _,trivial⟩)
 have h1:=tz2 (au r0 r1);refine w_7 ?_;refine hcd (fun h2=>?_) (fun h2=>?_)
 · refine w_7 ?_;refine ⟨.inr rfl, ?_⟩;have he:=ahn (n:=n) (ps:=ps) bos bos;exact f9 rfl rfl (by rw [he];exact ⟨CoC.agg ⟨CoP.refl _,bf,trivial⟩,CoC.refl _,trivial⟩)
 refine w_5 ?_;refine m9 1 ?_;refine w_2 ?_;refine qw 1 1 900 true 1 84 (lf rC (bm n ps)) boz rfl rfl (CoP.sl rfl (.inr rfl) (fun h=>h) (fun i j hi _=>absurd hi (bkp i))) (.inr rfl) rfl rfl ?_;refine w_8 ?_;refine a6 (ι:=Nat) ⟨[(0,some _),(4,some _),(6,some _),(26,some _),(27,some _)],[(0,some _)]⟩ ⟨⟨c9,c9,c9,c9,c9,trivial⟩,⟨u9,trivial⟩⟩ (fun i=>⟨[(28,some (vI i))],[(1,some (.box [.p (.raw (.int .i64 n)), .ref 900 i])),(900,some (.arr true 1 84 i (lf rC (bm n ps))))]⟩) (fun i=>i <= ps.length /\ ∀ j,j < i -> (ps.getD j default) >>> n.toNat = 0) (fun i=>ps.length - i) (0) (⟨bkl _,bq⟩) ⟨⟨zy,trivial⟩,⟨u9,u9,trivial⟩⟩ ?_;rintro i ⟨hi,hI⟩;refine w_5 ?_;refine hcd (fun h3=>?_) (fun h3=>?_)
 ·
  have hin:=bde (n:=n) (i:=i) bos bos bos;refine a42 ?_;refine hcn (fun h4=>?_) (fun h4=>?_)
  · refine w_7 ?_;refine ⟨.inr rfl, ?_⟩;have he:=ajr (n:=n) (ps:=ps) (i:=i) bos bos bos (fun e=>absurd (b2o.2 e) bot);exact f9 rfl rfl (by rw [he];exact ⟨CoC.agg ⟨CoP.refl _,bf,trivial⟩,CoC.refl _,trivial⟩)
  refine w_4 ?_;refine m9 2 ?_;refine w_9 ?_;refine a6 (ι:=Nat) ⟨[(0,some _),(4,some _),(6,some _),(7,some _),(8,some _),(9,some _),(26,some _),(27,some _),(28,some _),(40,some _)],[(1,some _),(900,some _),(0,some _)]⟩ ⟨⟨c9,c9,c9,c9,c9,c9,c9,c9,c9,c9,trivial⟩,⟨u9,u9,u9,trivial⟩⟩ (fun k=>⟨[(41,some (vI k))],[(2,some (.arr true 1 3 n.toNat (lf zC (stT n i (ps.getD i default) k))))]⟩) (fun k=>k <= n.toNat) (fun k=>n.toNat - k) (0) (bkl _) ⟨⟨zy,trivial⟩,⟨⟨_,rfl,(ajq rfl (fun _=>rfl))⟩,trivial⟩⟩ ?_;rintro k hk;refine w_5 ?_;refine hcd (fun h5=>?_) (fun h5=>?_)
  ·
   refine bhc ?_;refine hcd (fun h6=>?_) (fun h6=>?_)
   · refine cu ?_;exact lpx (k + 1) ⟨⟨zy,c9,c9,c9,c9,c9,c9,c9,c9,c9,c9,trivial⟩,⟨⟨_,rfl,(by first | exact au2 ((tx bos).1 bot) rfl bos bos | exact aw6 (fun e=>absurd ((tx bos).2 e) bot) rfl bos)⟩,u9,u9,u9,trivial⟩⟩
   refine w_5 ?_;exact lpx (k + 1) ⟨⟨zy,c9,c9,c9,c9,c9,c9,c9,c9,c9,c9,trivial⟩,⟨⟨_,rfl,(by first | exact au2 ((tx bos).1 bot) rfl bos bos | exact aw6 (fun e=>absurd ((tx bos).2 e) bot) rfl bos)⟩,u9,u9,u9,trivial⟩⟩
  refine dp ?_;refine av 9 rfl rfl rfl ?_;refine w_4 ?_;refine m9 3 ?_;refine r9 4 true ?_;refine w_7 ?_;refine lpz (i + 1) ⟨⟨zy,c9,c9,c9,c9,c9,trivial⟩,⟨u9,⟨_,rfl,(po (fun h=>h) (fun j hj=>by obtain rfl:j = 0:=bos;exact b1b bos bos))⟩,u9,trivial⟩⟩ ?_;exact ⟨by show i + 1 <= _;omega,az hI (b2o.1 bot)⟩
 obtain rfl:i = ps.length:=by omega
 refine w_4 ?_;refine gi rfl rfl rfl rfl rfl rfl adk ((ae3 n (bm n ps) (by rw [pj];omega))) (⟨⟨CoP.refl _,congrArg (HV.ref 900) (pj _ _).symm,trivial⟩,trivial⟩) ⟨⟨_,rfl,f5 rfl (pj _ _).symm⟩,trivial⟩ rfl rfl ?_;refine w_4 ?_;refine ⟨.inr rfl, ?_⟩;have he:=aaj (n:=n) (ps:=ps) bos bos (fun j hj=>hI j bos);exact f9 rfl rfl (by rw [he];exact CoL.refl _)
end
section
def dc (n:Int):Rw:=(List.range n.toNat).map fun (i:Nat)=>(i:Int)
theorem acn (n:Int):(dc n).length = n.toNat:=by unfold dc;simp
section
variable {k:Nat} {n:Int}
theorem ayc (h:k < n.toNat):CoP (.raw (.int .i64 (k:Int))) (lf zC (dc n) k 0):=by
 refine CoP.of_eq ?_;show _ = PV.raw (.int .i64 ((dc n).getD k default));unfold dc;rw [bkk,bl6,bm5 h];rfl
theorem aig {i:Nat} {p:AS} (h:k < n.toNat):(stR n i p).getD k default = stV n i p k:=by
 unfold stR;rw [bkk,bl6,bm5 h];rfl
theorem apy {i:Nat} {p:AS} (h:k < n.toNat) (hh:dq p (k:Int) = true):CoP (.raw (.int .i64 (k:Int))) (lf zC (stR n i p) k 0):=by
 refine CoP.of_eq ?_;show _ = PV.raw (.int .i64 ((stR n i p).getD k default));rw [aig h];unfold stV;rw [if_pos hh]
theorem apw {i:Nat} {p:AS} (h:k < n.toNat) (hh:dq p (k:Int) = false):CoP (.raw (.int .i64 (n + (i:Int) * n + (k:Int)))) (lf zC (stR n i p) k 0):=by
 refine CoP.of_eq ?_;show _ = PV.raw (.int .i64 ((stR n i p).getD k default));rw [aig h];unfold stV;rw [hh,if_neg boz]
theorem av7 {ps:List AS} {i:Nat} (hi:i < ps.length) (hk:k = n.toNat):CoP (.sl k 1 false (lf zC (stR n i (ps.getD i default)))) (lf rC (bm n ps) i 0):=by
 show CoP _ (zl ((bm n ps).getD i default));rw [afa hi];exact CoP.sl (by rw [af1,hk]) (.inl rfl) (fun h=>h) fun a j ha hj=>CoP.refl _
theorem a3u {s:AS} (h0:0 <= n) (h1:n <= 16):sub s (aa n) <-> s >>> n.toNat = 0:=by
 unfold aa;rw [bmn bos];exact ui bos
def a7a (l:List Rw) (x:Fd) (a b:Nat):Bool:=kj (l.getD a default) (l.getD b default) x.lhs && !(l.any fun r=>decide (r = dz (l.getD a default) (l.getD b default) x.rhs))
theorem alm {a b:Rw} {s:AS} {g:Nat -> Nat -> PV} {f:Nat -> Nat -> PV} {e:TypeId} (hf:∀ i j,f i j = lf zC b i j):CoO (.arr true 1 e (0 + b.length) (fh 0 g f)) (.arr true 1 e (0 + b.length) (lf zC (md a b s 0))):=by
 rw [<- afz];exact ⟨fun h=>h,rfl,rfl,rfl,fun i j _ _=>CoP.of_eq (by simp [fh,hf])⟩
theorem apd {a b:Rw} {s:AS} {m:Nat} (hk:k = b.length) (hm:m = b.length):CoC (.one (.sl m 1 false (lf zC (md a b s k)))) (pZ (dz a b s)):=by
 subst hk;rw [ake];exact aqi ((oi a b s).trans hm.symm)
end
end
section
open Go.Proofs
theorem bed:goodFn Tryz.prog 70:=wgx Tryz.func70
theorem bbk (n:Int) (h16:n <= 16):a7 Tryz.prog 70 [pI n] (ae [pZ (dc n)]):=by
 refine hpx (nt:=15) Tryz.func70 ?_;refine w_8 ?_;refine cj 3 900 true 1 3 (lf zC (dc n)) boz rfl (CoP.sl rfl (.inr rfl) (fun h=>h) (fun i j hi _=>absurd hi (bkp i))) (.inr rfl) rfl ?_;refine w_6 ?_;refine a6 (ι:=Nat) ⟨[(0,some _)],[]⟩ ⟨⟨c9,trivial⟩,trivial⟩ (fun i=>⟨[(3,some (.v (.one (.ref 900 i)))),(4,some (vI i))],[(900,some (.arr true 1 3 i (lf zC (dc n))))]⟩) (fun i=>i <= n.toNat) (fun i=>n.toNat - i) (0) (bkl _) ⟨⟨zy,zy,trivial⟩,⟨u9,trivial⟩⟩ ?_;rintro i hi;refine w_7 ?_;refine hcd (fun h0=>?_) (fun h0=>?_)
 · refine w_6 ?_;refine m9 0 ?_;refine r9 1 true ?_;refine w_7 ?_;exact lpx (i + 1) ⟨⟨zy,zy,c9,trivial⟩,⟨⟨_,rfl,(po (fun h=>h) (fun j hj=>by obtain rfl:j = 0:=bos;exact ayc bos))⟩,trivial⟩⟩
 refine w_2 ?_;refine av 3 rfl rfl rfl ?_;refine w_4 ?_;exact hx8 rfl rfl rfl (⟨CoC.one (CoP.sl (by rw [acn];omega) (.inl rfl) (fun h=>h) fun a j ha hj=>CoP.refl _),trivial⟩)
theorem b72:goodFn Tryz.prog 130:=wgx Tryz.func130
theorem b60 (n:Int) (ps:List AS):a7 Tryz.prog 130 [pI n,pP (asl ps)] (ae [pT (gh n ps).1 (gh n ps).2.1,pI (gh n ps).2.2]):=by
 refine hpx (nt:=68) Tryz.func130 ?_;refine sx7 ?_;refine m9 0 ?_;refine w_8 ?_;refine am rfl rfl (fun r0=>?_) (fun r0=>?_)
 ·
  have h0:=tz1 r0;(iterate 2 refine k9 (gtf r0) ?_);refine rq rfl rfl rfl rfl rfl ?_ (hp:=r0);refine aq ?_;refine a8 _ rfl (fun _=>?_) (fun e=>by cases e);refine w_7 ?_;refine ⟨.inr rfl, ?_⟩
  have he:=a43 (n:=n) (ps:=ps) bos;exact f9 rfl rfl (by rw [he];exact ⟨CoC.agg ⟨CoP.refl _,bf,trivial⟩,CoC.refl _,trivial⟩)
 have h0:=tz2 r0;(iterate 2 refine qy ?_ (hg:=(gff r0)));refine w_2 ?_;refine a8 _ rfl (fun r1=>?_) (fun r1=>?_)
 · have h1:=tz1 (au r0 r1);refine w_7 ?_;refine ⟨.inr rfl, ?_⟩;have he:=a43 (n:=n) (ps:=ps) bos;exact f9 rfl rfl (by rw [he];exact ⟨CoC.agg ⟨CoP.refl _,bf,trivial⟩,CoC.refl _,trivial⟩)
 have h1:=tz2 (au r0 r1);refine w_8 ?_;refine hcd (fun h2=>?_) (fun h2=>?_)
 · refine w_7 ?_;refine ⟨.inr rfl, ?_⟩;have he:=ahn (n:=n) (ps:=ps) bos bos;exact f9 rfl rfl (by rw [he];exact ⟨CoC.agg ⟨CoP.refl _,bf,trivial⟩,CoC.refl _,trivial⟩)
 refine w_5 ?_;refine cj 6 900 true 1 84 (lf rC (bm n ps)) boz rfl (CoP.sl rfl (.inr rfl) (fun h=>h) (fun i j hi _=>absurd hi (bkp i))) (.inr rfl) rfl ?_;refine w_6 ?_;refine a6 (ι:=Nat) ⟨[(0,some _),(1,some _),(4,some _)],[(0,some _)]⟩ ⟨⟨c9,c9,c9,trivial⟩,⟨u9,trivial⟩⟩ (fun i=>⟨[(6,some (.v (.one (.ref 900 i)))),(7,some (vI i))],[(900,some (.arr true 1 84 i (lf rC (bm n ps))))]⟩) (fun i=>i <= ps.length /\ ∀ j,j < i -> (ps.getD j default) >>> n.toNat = 0) (fun i=>ps.length - i) (0) (⟨bkl _,bq⟩) ⟨⟨zy,zy,trivial⟩,⟨u9,trivial⟩⟩ ?_;rintro i ⟨hi,hI⟩;refine w_8 ?_;refine hcd (fun h3=>?_) (fun h3=>?_)
 ·
  have hin:=bde (n:=n) (i:=i) bos bos bos;refine cu ?_;refine qcx ol (oq n) ?_;refine qcx ny (w3 _ _) ?_;refine w_3 ?_;refine hcv (fun h4=>?_) (fun h4=>?_)
  · refine w_7 ?_;refine ⟨.inr rfl, ?_⟩;have he:=ajr (n:=n) (ps:=ps) (i:=i) bos bos bos (fun e=>by have:=(a3u (n:=n) bos bos).2 e;simp_all);exact f9 rfl rfl (by rw [he];exact ⟨CoC.agg ⟨CoP.refl _,bf,trivial⟩,CoC.refl _,trivial⟩)
  refine w_5 ?_;refine cj 8 901 true 1 3 (lf zC (stR n i (ps.getD i default))) boz rfl (CoP.sl rfl (.inr rfl) (fun h=>h) (fun i j hi _=>absurd hi (bkp i))) (.inr rfl) rfl ?_;refine w_6 ?_;refine a6 (ι:=Nat) ⟨[(0,some _),(1,some _),(4,some _),(6,some _),(7,some _)],[(900,some _),(0,some _)]⟩ ⟨⟨c9,c9,c9,c9,c9,trivial⟩,⟨u9,u9,trivial⟩⟩ (fun k=>⟨[(8,some (.v (.one (.ref 901 k)))),(9,some (vI k))],[(901,some (.arr true 1 3 k (lf zC (stR n i (ps.getD i default)))))]⟩) (fun k=>k <= n.toNat) (fun k=>n.toNat - k) (0) (bkl _) ⟨⟨zy,zy,trivial⟩,⟨u9,trivial⟩⟩ ?_;rintro k hk;refine w_7 ?_;refine hcd (fun h5=>?_) (fun h5=>?_)
  ·
   refine ce ?_;refine qcx vq (a9k (ps.getD i default) (k:Int)) ?_;refine aq ?_;refine hcb (fun h6=>?_) (fun h6=>?_)
   · refine w_3 ?_;refine m9 1 ?_;refine r9 2 true ?_;refine w_7 ?_;exact lpx (k + 1) ⟨⟨zy,zy,c9,c9,c9,c9,c9,trivial⟩,⟨⟨_,rfl,(by first | exact (po (fun h=>h) (fun j hj=>by obtain rfl:j = 0:=bos;exact apy bos bot)) | exact (po (fun h=>h) (fun j hj=>by obtain rfl:j = 0:=bos;exact apw bos bot)))⟩,u9,u9,trivial⟩⟩
   refine w_9 ?_;refine m9 3 ?_;refine r9 4 true ?_;refine w_7 ?_;exact lpx (k + 1) ⟨⟨zy,zy,c9,c9,c9,c9,c9,trivial⟩,⟨⟨_,rfl,(by first | exact (po (fun h=>h) (fun j hj=>by obtain rfl:j = 0:=bos;exact apy bos bot)) | exact (po (fun h=>h) (fun j hj=>by obtain rfl:j = 0:=bos;exact apw bos bot)))⟩,u9,u9,trivial⟩⟩
  refine dp ?_;refine av 8 rfl rfl rfl ?_;refine w_3 ?_;refine m9 5 ?_;refine r9 6 true ?_;refine w_7 ?_;refine lpz (i + 1) ⟨⟨zy,zy,c9,c9,c9,trivial⟩,⟨⟨_,rfl,(po (fun h=>h) (fun j hj=>by obtain rfl:j = 0:=bos;exact av7 bos bos))⟩,u9,trivial⟩⟩ ?_;exact ⟨by show i + 1 <= _;omega,az hI ((a3u bos bos).1 (by first | assumption | exact a1b bot))⟩
 obtain rfl:i = ps.length:=by omega
 refine w_2 ?_;refine av 6 rfl rfl rfl ?_;refine w_3 ?_;refine rc rfl rfl rfl rfl rfl rfl aes (a9o n (bm n ps) (by rw [pj];omega)) (⟨CoC.refl _,CoC.one (CoP.sl (by rw [pj]) (.inl rfl) (fun h=>h) fun a j ha hj=>CoP.refl _),trivial⟩) rfl rfl ?_;refine w_4 ?_;refine ⟨.inr rfl, ?_⟩;have he:=aaj (n:=n) (ps:=ps) bos bos (fun j hj=>hI j bos);exact f9 rfl rfl (by rw [he];exact CoL.refl _)
end
section
def Wel (n:Int) (l:List Rw):Prop:=∀ r,r ∈ l -> r.length = n.toNat /\ ∀ z,z ∈ r -> 0 <= z
section
variable {l:List Rw}
theorem a2d {i:Nat} (h:i < l.length):l.getD i default ∈ l:=by
 rw [bkk,bkj h];exact blh h
theorem y9 {n:Int} (h:tok n l = true):Wel n l:=by
 obtain ⟨h0,h1,h2,h3⟩:=jc h;unfold tok at h;rw [bkt,decide_eq_true_iff,decide_eq_true_iff] at h;rintro r hr;obtain ⟨i,hi,rfl⟩:=bla hr;have e:l.getD i default = l[i]:=by rw [bkk,bkj hi];rfl
 rw [<- e];refine ⟨h3 i hi,fun z hz=>?_⟩;have:=h.2 i hi;unfold o7 at this;rw [bkt,bkt] at this;have h4:=this.1.2;rw [blg,bmh] at h4;have:=h4 z hz;rw [decide_eq_true_iff] at this;omega
theorem b5w {n:Int} (h:tok n l = true):oj l:=by
 unfold tok at h;rw [bkt,decide_eq_true_iff,decide_eq_true_iff] at h
 have hs:∀ d i:Nat,i + d + 1 < l.length -> ltZ (l.getD i default) (l.getD (i + d + 1) default) = true:=by
  intro d
  induction d with
  | zero =>
   intro i hi;have:=h.2 (i + 1) hi;unfold o7 at this;rw [bkt,bmf,decide_eq_true_iff] at this
   rcases this.2 with h5 | h5
   · omega
   exact h5
  | succ d ih =>
   intro i hi;have h1:=ih i bos;have:=h.2 (i + d + 1 + 1) bos;unfold o7 at this;rw [bkt,bmf,decide_eq_true_iff] at this
   rcases this.2 with h5 | h5
   · omega
   exact k7 h1 h5
 unfold oj;rw [bmm];intro i j hi hj hij;obtain ⟨d,rfl⟩:∃ d,j = i + d + 1:=⟨j - i - 1,by omega⟩;have:=hs d i hj;rwa [bkk,bkj hi,bkk,bkj hj] at this
theorem bdz {n:Int} (h0:0 <= n) (h1:n <= 16) (h2:l.length <= 256) (hw:Wel n l) (ho:oj l):tok n l = true:=by
 refine aq8 h0 h1 h2 fun i hi=>?_;obtain ⟨h3,h4⟩:=hw _ (a2d hi);refine a5y bos ?_ ?_
 · rw [bmh]
   intro z hz;have:=h4 z hz;rw [decide_eq_true_iff];omega
 rcases bmj i with h | h
 · exact .inl h
 right;have:=bmm.1 ho (i - 1) i bos hi bos;rw [bkk,bkj bos,bkk,bkj hi];exact this
theorem a5u {n:Int} (h0:0 <= n) (h1:n <= 16) (h2:(ar l).length <= 256) (hw:Wel n l):tok n (ar l) = true :=
 bdz h0 h1 h2 (fun r hr=>hw r (gj.1 hr)) (ic l)
def inV (l:List Rw) (M:Nat -> Nat -> Int) (z:Int):Prop:=∃ i r,i < l.length /\ r < (l.getD i default).length /\ M i r = z
theorem ana {z:Int}:inV l (ci l) z <-> ∃ r,r ∈ l /\ z ∈ r:=by
 constructor
 · rintro ⟨i,r,hi,hr,rfl⟩
   refine ⟨_,a2d hi, ?_⟩;show (l.getD i default).getD r default ∈ _;rw [bkk (l:=l.getD i default),bkj hr];exact blh hr
 rintro ⟨r,hr,hz⟩;obtain ⟨i,hi,rfl⟩:=bla hr;obtain ⟨k,hk,rfl⟩:=bla hz;have e:l.getD i default = l[i]:=by rw [bkk,bkj hi];rfl
 refine ⟨i,k,hi,by rw [e];exact hk, ?_⟩;show (l.getD i default).getD k default = _;rw [e,bkk,bkj hk];rfl
theorem a9z {M:Nat -> Nat -> Int} {z:Int}:(∃ r,r ∈ dy l M /\ z ∈ r) <-> inV l M z:=by
 constructor
 · rintro ⟨r,hr,hz⟩
   unfold dy at hr;rw [blm] at hr;obtain ⟨i,hi,rfl⟩:=hr;rw [blm] at hz;obtain ⟨k,hk,rfl⟩:=hz;exact ⟨i,k,bl0.1 hi,bl0.1 hk,rfl⟩
 rintro ⟨i,k,hi,hk,rfl⟩;refine ⟨(List.range (l.getD i default).length).map (M i), ?_,blm.2 ⟨k,bl0.2 hk,rfl⟩⟩;unfold dy;exact blm.2 ⟨i,bl0.2 hi,rfl⟩
end
section
variable {l:List Rw} {a b:Nat} (ha:a < l.length) (hb:b < l.length)
theorem aqa (x y:Int):loI x y = x \/ loI x y = y:=by unfold loI;split <;> simp
theorem b3j (x y:Int):hiI x y = x \/ hiI x y = y:=by unfold hiI;split <;> simp
include ha hb in
theorem bfx {M:Nat -> Nat -> Int} {j:Nat} (hja:j < (l.getD a default).length) (hjb:j < (l.getD b default).length) {z:Int} (h:inV l (eqM M a b j) z):inV l M z:=by
 obtain ⟨i,r,hi,hr,he⟩:=h;unfold eqM at he;split at he
 · rcases aqa (M a j) (M b j) with h | h
   · exact ⟨a,j,ha,hja,by rw [<- he,h]⟩
   exact ⟨b,j,hb,hjb,by rw [<- he,h]⟩
 exact ⟨i,r,hi,hr,he⟩
include ha hb in
theorem al1:∀ {js:List Nat} {M:Nat -> Nat -> Int},(∀ j,j ∈ js -> j < (l.getD a default).length /\ j < (l.getD b default).length) -> ∀ {z:Int},inV l (eqMs M a b js) z -> inV l M z
 | [],_,_,_,h=>h
 | j :: js,M,hj,z,h=>bfx ha hb (hj j bow).1 (hj j bow).2 (al1 (js:=js) (M:=eqM M a b j) (fun k hk=>hj k (by simp [hk])) h)
include ha hb in
theorem ag2:∀ {js:List Nat} {M:Nat -> Nat -> Int},(∀ j,j ∈ js -> j < (l.getD a default).length /\ j < (l.getD b default).length) -> (∃ j,j ∈ js /\ ¬ M a j = M b j) -> ∃ z,inV l M z /\ ¬ inV l (eqMs M a b js) z
 | [],_,_,⟨_,h,_⟩=>by simp at h
 | j :: js,M,hj,⟨k,hk,hne⟩=>by
  by_cases e:M a j = M b j
  · have e2:eqMs M a b (j :: js) = eqMs M a b js:=by
     show eqMs (eqM M a b j) a b js = _;rw [ul e]
    rw [e2];refine ag2 (fun k hk=>hj k (by simp [hk])) ⟨k, ?_,hne⟩
    rcases bkx.1 hk with h | h
    · subst h;exact absurd e hne
    exact h
  refine ⟨hiI (M a j) (M b j), ?_,fun h=>?_⟩
  · rcases b3j (M a j) (M b j) with h | h
    · exact ⟨a,j,ha,(hj j bow).1,h.symm⟩
    exact ⟨b,j,hb,(hj j bow).2,h.symm⟩
  obtain ⟨i,r,hi,hr,he⟩:=al1 ha hb (fun k hk=>hj k (by simp [hk])) (show inV l (eqMs (eqM M a b j) a b js) _ from h);unfold eqM at he;split at he
  · unfold hiI loI at he
    split at he <;> split at he <;> omega
  rename_i h2;exact h2 he
end
def adz (Z:List Int) (l:List Rw):Nat:=Z.countP fun z=>l.any fun r=>decide (z ∈ r)
def muC (Z:List Int) (l:List Rw):Nat:=adz Z l * 300 + (300 - l.length)
def Cov (Z:List Int) (l:List Rw):Prop:=∀ r,r ∈ l -> ∀ z,z ∈ r -> z ∈ Z
theorem y4 {l:List Rw} {z:Int}:(l.any fun r=>decide (z ∈ r)) = true <-> ∃ r,r ∈ l /\ z ∈ r:=by
 rw [bll];exact ⟨fun ⟨r,h,h2⟩=>⟨r,h,of_decide_eq_true h2⟩,fun ⟨r,h,h2⟩=>⟨r,h,decide_eq_true h2⟩⟩
theorem countP_lt' {p q:Int -> Bool}:∀ {Z:List Int},(∀ z,p z = true -> q z = true) -> (∃ z,z ∈ Z /\ q z = true /\ p z = false) -> Z.countP p < Z.countP q
 | [],_,⟨_,h,_⟩=>by simp at h
 | x :: Z,h,⟨z,hz,hq,hp⟩=>by
  have hm:Z.countP p <= Z.countP q:=List.countP_mono_left fun z _=>h z;rw [bn8,bn8]
  rcases bkx.1 hz with rfl | hz
  · rw [hq,hp]
    simp only [if_true,bm2,if_false];omega
  have:=countP_lt' (Z:=Z) h ⟨z,hz,hq,hp⟩;by_cases e:p x = true
  · rw [e,h x e];omega
  rw [if_neg e];omega
theorem b4v {Z:List Int} {l l':List Rw} (h:∀ z,(∃ r,r ∈ l' /\ z ∈ r) -> ∃ r,r ∈ l /\ z ∈ r) (h2:∃ z,z ∈ Z /\ (∃ r,r ∈ l /\ z ∈ r) /\ ¬ ∃ r,r ∈ l' /\ z ∈ r):adz Z l' < adz Z l:=by
 refine countP_lt' (fun z hz=>y4.2 (h z (y4.1 hz))) ?_;obtain ⟨z,h3,h4,h5⟩:=h2;exact ⟨z,h3,y4.2 h4,by rw [bkv];exact fun e=>h5 (y4.1 e)⟩
theorem b7x {Z:List Int} {l l':List Rw} (h:∀ z,(∃ r,r ∈ l' /\ z ∈ r) -> ∃ r,r ∈ l /\ z ∈ r):adz Z l' <= adz Z l :=
 List.countP_mono_left fun z _ hz=>y4.2 (h z (y4.1 hz))
end
section
theorem ajg {r:Rw}:∀ {l:List Rw},r ∉ l -> (jr r l).length = l.length + 1
 | [],_=>rfl
 | y :: l,h=>by
  unfold jr;have h1:¬ r = y:=fun e=>h (by rw [e];simp);have h2:=ajg (l:=l) (r:=r) fun e=>h (by simp [e]);rw [if_neg h1];split
  · simp
  simp only [blf];omega
theorem asi {l:List Rw} {r:Rw} (ho:oj l):ar (l ++ [r]) = jr r l:=by
 have e:l = ar l:=ai2 ho fun _=>Iff.rfl
 have:ar (l ++ [r]) = jr r (ar l):=by
  unfold ar;rw [bm0];rfl
 rw [this,<- e]
section
variable {n:Int} {l:List Rw} {a b:Nat} {x:Fd}
abbrev fdL (l:List Rw) (a b:Nat) (x:Fd):List Rw:=ar (dy l (eqMs (ci l) a b (al x.rhs)))
theorem ar6 (hT:tok n l = true) (hu:inU n x = true) (ha:a < l.length) (hb:b < l.length) (hs:ey l x a b = true) :
 fdE n l a b x = (n,fdL l a b x,0) /\ tok n (fdL l a b x) = true /\ (∀ z,(∃ r,r ∈ fdL l a b x /\ z ∈ r) -> ∃ r,r ∈ l /\ z ∈ r) /\ ∀ Z,Cov Z l -> muC Z (fdL l a b x) < muC Z l:=by
 obtain ⟨h0,h1,h2,h3⟩:=jc hT;have hw:=y9 hT;unfold ey at hs;rw [bkt,blg] at hs;obtain ⟨hl,hr⟩:=hs
 have hj:∀ j,j ∈ al x.rhs -> j < (l.getD a default).length /\ j < (l.getD b default).length:=fun j hj=>by
  have:=a86 h0 h1 hu hj;exact ⟨by rw [h3 a ha];exact this,by rw [h3 b hb];exact this⟩
 have hV:∀ z,(∃ r,r ∈ fdL l a b x /\ z ∈ r) -> ∃ r,r ∈ l /\ z ∈ r:=fun z ⟨r,hr,hz⟩=>ana.1 (al1 ha hb hj (a9z.1 ⟨r,gj.1 hr,hz⟩));have hlen:(fdL l a b x).length <= l.length:=bky (zw _) (bnv (lr _ _));refine ⟨if_pos hl,a5u h0 h1 (bky hlen h2) (fun r hr=>⟨?_,fun z hz=>?_⟩),hV,fun Z hZ=>?_⟩
 · unfold dy at hr
   rw [blm] at hr;obtain ⟨i,hi,rfl⟩:=hr;rw [bl7,bn2];exact h3 i (bl0.1 hi)
 · obtain ⟨r2,h5,h6⟩:=hV z ⟨r,gj.2 hr,hz⟩
   exact (hw r2 h5).2 z h6
 have hne:∃ j,j ∈ al x.rhs /\ ¬ ci l a j = ci l b j:=by
  apply Classical.byContradiction;intro hno;rw [a1t] at hr
  · cases hr
  intro i hi hh;apply Classical.byContradiction;intro e
  have hi2:i < 32:=by
   have:=h3 a ha;omega
  rw [ja hi2] at hh;exact hno ⟨i,jg.2 ⟨hi2,hh⟩,e⟩
 obtain ⟨z,hz1,hz2⟩:=ag2 ha hb hj hne;have hz3:=ana.1 hz1;have:=b4v (Z:=Z) hV ⟨z,by obtain ⟨r,h7,h8⟩:=hz3;exact hZ r h7 z h8,hz3,fun ⟨r,h7,h8⟩=>hz2 (a9z.1 ⟨r,gj.1 h7,h8⟩)⟩;unfold muC;omega
abbrev mvL (l:List Rw) (a b:Nat) (x:Fd):List Rw:=ar (l ++ [dz (l.getD a default) (l.getD b default) (x.lhs ||| x.rhs)])
theorem bg6 (hT:tok n l = true) (ha:a < l.length) (hb:b < l.length) (hs:f8 l x a b = true) :
 mvE n l a b x = (0,[],3) \/ (mvE n l a b x = (n,mvL l a b x,0) /\ tok n (mvL l a b x) = true /\ (∀ z,(∃ r,r ∈ mvL l a b x /\ z ∈ r) -> ∃ r,r ∈ l /\ z ∈ r) /\ ∀ Z,Cov Z l -> muC Z (mvL l a b x) < muC Z l):=by
 obtain ⟨h0,h1,h2,h3⟩:=jc hT;have hw:=y9 hT;unfold f8 at hs;rw [bkt,blg] at hs;obtain ⟨hl,hr⟩:=hs;have hno:=aoy hr;have hE:mvE n l a b x = v8 n l (dz (l.getD a default) (l.getD b default) (x.lhs ||| x.rhs)):=if_pos hl;by_cases hbig:256 < (mvL l a b x).length
 · left
   rw [hE];exact if_pos hbig
 right
 have hmem:∀ z,z ∈ dz (l.getD a default) (l.getD b default) (x.lhs ||| x.rhs) -> z ∈ l.getD a default \/ z ∈ l.getD b default:=fun z hz=>by
  unfold dz at hz;rw [blm] at hz;obtain ⟨i,hi,rfl⟩:=hz;have hi:=bl0.1 hi;have hi2:i < (l.getD a default).length:=by rw [h3 a ha,<- h3 b hb];exact hi
  split
  · left
    rw [bkk (l:=l.getD a default),bkj hi2];exact blh hi2
  right;rw [bkk (l:=l.getD b default),bkj hi];exact blh hi
 have hV:∀ z,(∃ r,r ∈ mvL l a b x /\ z ∈ r) -> ∃ r,r ∈ l /\ z ∈ r:=fun z ⟨r,hr,hz⟩=>by
  rcases bl4.1 (gj.1 hr) with h | h
  · exact ⟨r,h,hz⟩
  rw [bl3] at h;subst h
  rcases hmem z hz with h | h
  · exact ⟨_,a2d ha,h⟩
  exact ⟨_,a2d hb,h⟩
 refine ⟨by rw [hE];exact if_neg hbig,a5u h0 h1 (bo9 fun e=>hbig e) (fun r hr=>⟨?_,fun z hz=>?_⟩),hV,fun Z hZ=>?_⟩
 · rcases bl4.1 hr with h | h
   · exact (hw r h).1
   rw [bl3] at h;subst h;rw [oi];exact h3 b hb
 · obtain ⟨r2,h5,h6⟩:=hV z ⟨r,gj.2 hr,hz⟩
   exact (hw r2 h5).2 z h6
 have e:(mvL l a b x).length = l.length + 1:=by
  show (ar _).length = _;rw [asi (b5w hT),ajg hno]
 have:=b7x (Z:=Z) hV;unfold muC;omega
end
theorem ata {α:Type} {f:Nat -> Option α}:∀ {n:Nat} {x:α},(List.range n).findSome? f = some x -> ∃ k,k < n /\ f k = some x:=fun {n x} h=>by
 obtain ⟨k,hk,e⟩:=bnm h;exact ⟨k,bl0.1 hk,e⟩
theorem a3h {P:Nat -> Nat -> Nat -> Bool} {I L i a b:Nat} (h:fl P I L = some (i,a,b)):i < I /\ a < L /\ b < L /\ P i a b = true:=by
 obtain ⟨i',hi,h⟩:=ata h;obtain ⟨a',ha,h⟩:=ata h;rw [Option.map_eq_some_iff] at h;obtain ⟨b',hb,e⟩:=h;simp only [bkr] at e;obtain ⟨rfl,rfl,rfl⟩:=e;exact ⟨hi,ha,bl0.1 (List.mem_of_find?_eq_some hb),by simpa using List.find?_some hb⟩
def xf (l:List Rw) (p m:List Fd) (s:St):Prop:=s.2.2.1 < l.length /\ s.2.2.2 < l.length /\ ((s.1 = false /\ s.2.1 < p.length /\ ey l (p.getD s.2.1 default) s.2.2.1 s.2.2.2 = true) \/ (s.1 = true /\ s.2.1 < m.length /\ f8 l (m.getD s.2.1 default) s.2.2.1 s.2.2.2 = true))
section
variable {l:List Rw} {m p:List Fd}
theorem a7e {s:St} (h:eu l p m = some s):xf l p m s:=by
 unfold eu at h;split at h
 · rename_i x e
   simp only [bki] at h;subst h;obtain ⟨i,a,b⟩:=x;obtain ⟨h1,h2,h3,h4⟩:=a3h e;exact ⟨h2,h3, .inl ⟨rfl,h1,h4⟩⟩
 rw [Option.map_eq_some_iff] at h;obtain ⟨⟨i,a,b⟩,e,rfl⟩:=h;obtain ⟨h1,h2,h3,h4⟩:=a3h e;exact ⟨h2,h3, .inr ⟨rfl,h1,h4⟩⟩
def dx (n:Int) (l:List Rw) (p m:List Fd) (s:St):Int × List Rw × Int:=if s.1 = true then mvE n l s.2.2.1 s.2.2.2 (m.getD s.2.1 default) else fdE n l s.2.2.1 s.2.2.2 (p.getD s.2.1 default)
theorem ajo {n:Int} {s:St} (hT:tok n l = true) (hp:p.all (inU n) = true) (h:xf l p m s):
 dx n l p m s = (0,[],3) \/ ∃ l',dx n l p m s = (n,l',0) /\ tok n l' = true /\ (∀ Z,Cov Z l -> Cov Z l' /\ muC Z l' < muC Z l):=by
 obtain ⟨ha,hb,h | h⟩:=h
 · obtain ⟨h1,h2,h3⟩:=h
   have hu:inU n (p.getD s.2.1 default) = true:=blo.1 hp _ (by rw [bkk,bkj h2];exact blh h2);obtain ⟨e,h4,h5,h6⟩:=ar6 hT hu ha hb h3;exact .inr ⟨_,by unfold dx;rw [if_neg (by rw [h1];decide)];exact e,h4,fun Z hZ=>⟨fun r hr z hz=>by obtain ⟨r2,h7,h8⟩:=h5 z ⟨r,hr,hz⟩;exact hZ r2 h7 z h8,h6 Z hZ⟩⟩
 obtain ⟨h1,h2,h3⟩:=h
 rcases bg6 hT ha hb h3 with e | ⟨e,h4,h5,h6⟩
 · exact .inl (by unfold dx;rw [if_pos h1];exact e)
 exact .inr ⟨_,by unfold dx;rw [if_pos h1];exact e,h4,fun Z hZ=>⟨fun r hr z hz=>by obtain ⟨r2,h7,h8⟩:=h5 z ⟨r,hr,hz⟩;exact hZ r2 h7 z h8,h6 Z hZ⟩⟩
def ig:Nat -> Int -> List Rw -> List Fd -> List Fd -> List St -> List St × (Int × List Rw) × Int
 | 0,_,_,_,_,_=>([],(0,[]),0)
 | f + 1,n,l,p,m,acc =>
  match eu l p m with
  | none=>(acc,(n,l),0)
  | some s=>match dx n l p m s with
   | (n',l',e)=>if e = 0 then ig f n' l' p m (acc ++ [s]) else ([],(0,[]),e)
variable {acc:List St}
theorem acl {f:Nat} {n:Int} (hf:0 < f) (h:eu l p m = none):ig f n l p m acc = (acc,(n,l),0):=by
 obtain ⟨g,rfl⟩:∃ g,f = g + 1:=⟨f - 1,by omega⟩;unfold ig;rw [h]
theorem abo {f:Nat} {n:Int} {s:St} (hf:0 < f) (h:eu l p m = some s) {n' e:Int} {l':List Rw} (h2:dx n l p m s = (n',l',e)) (he:¬ e = 0):ig f n l p m acc = ([],(0,[]),e):=by
 obtain ⟨g,rfl⟩:∃ g,f = g + 1:=⟨f - 1,by omega⟩;unfold ig;rw [h];simp only;rw [h2];simp only;rw [if_neg he]
theorem a10 {f:Nat} {n:Int} {s:St} (hf:0 < f) (h:eu l p m = some s) {n':Int} {l':List Rw} (h2:dx n l p m s = (n',l',0)):ig f n l p m acc = ig (f - 1) n' l' p m (acc ++ [s]):=by
 obtain ⟨g,rfl⟩:∃ g,f = g + 1:=⟨f - 1,by omega⟩;rw [Nat.add_sub_cancel]
 conv=>lhs;unfold ig
 rw [h];simp only;rw [h2];simp only;rw [if_pos trivial]
end
end
section
open Go.Proofs
theorem bbq (n:Int) (l:List Rw) (p m:List Fd) (s:St) (hT:tok n l = true) (hp:p.all (inU n) = true) (h:xf l p m s) :
 a7 Tryz.prog 176 [pT n l,pP (fdl p),pP (fdl m),s.pc] (ae [pT (dx n l p m s).1 (dx n l p m s).2.1,pI (dx n l p m s).2.2]):=by
 obtain ⟨mu,i,a,b⟩:=s;obtain ⟨ha,hb,h | h⟩:=h
 · obtain ⟨h1,h2,h3⟩:=h
   cases h1;exact aou n l p m i a b hT ha hb h2 (blo.1 hp _ (by rw [bkk,bkj h2];exact blh h2))
 obtain ⟨h1,h2,h3⟩:=h;cases h1;exact apq n l p m i a b hT ha hb h2
abbrev St.c (s:St):Nat -> PV:=fun j=>[.raw (.bool s.1), .raw (.int .i64 (s.2.1:Int)), .raw (.int .i64 (s.2.2.1:Int)), .raw (.int .i64 (s.2.2.2:Int))].getD j .any
abbrev stl (l:List St):PV:=psl 4 St.c l
abbrev ckE (n:Int) (l:List Rw) (p m:List Fd):Int:=if tok n l = true then c8 n p m else 1
section
variable {l:List Rw} {m p:List Fd} {n:Int}
theorem abx (h:ckE n l p m = 0):tok n l = true /\ c8 n p m = 0 /\ p.all (inU n) = true:=by
 unfold ckE at h;by_cases e:tok n l = true
 · rw [if_pos e] at h
   exact ⟨e,h,(kb h).2.2.2.1⟩
 rw [if_neg e] at h;omega
def j8 (F:Nat) (n:Int) (l:List Rw) (p m:List Fd):List St × (Int × List Rw) × Int:=if ckE n l p m = 0 then ig F n l p m [] else ([],(0,[]),ckE n l p m)
variable {F:Nat}
theorem a9a (h:¬ ckE n l p m = 0):j8 F n l p m = ([],(0,[]),ckE n l p m):=if_neg h
theorem up (h:ckE n l p m = 0):j8 F n l p m = ig F n l p m []:=if_pos h
theorem apg {α:Type} {o:Option α} (h:o.isSome = false):o = none:=by cases o <;> simp_all
theorem aoz {α:Type} {o:Option α} (d:α) (h:o.isSome = true):o = some (o.getD d):=by cases o <;> simp_all
theorem alf (l:List Rw):Cov l.flatten l:=fun r hr z hz=>List.mem_flatten.2 ⟨r,hr,hz⟩
structure StI (F:Nat) (n:Int) (l:List Rw) (p m:List Fd) (x:Nat × List Rw × List St):Prop where
 t:tok n x.2.1 = true
 c:Cov l.flatten x.2.1
 u:muC l.flatten x.2.1 < x.1
 b:x.2.2.length + x.1 <= F
 e:ig x.1 n x.2.1 p m x.2.2 = ig F n l p m []
theorem StI.start (hT:tok n l = true) (hF:muC l.flatten l < F):StI F n l p m (F,l,[]):=⟨hT,alf l,hF,by simp,rfl⟩
variable {x:Nat × List Rw × List St}
theorem StI.next {s:St} (h:StI F n l p m x) (hp:p.all (inU n) = true) (hS:eu x.2.1 p m = some s) (he:(dx n x.2.1 p m s).2.2 = 0):
 (dx n x.2.1 p m s).1 = n /\ StI F n l p m (x.1 - 1,(dx n x.2.1 p m s).2.1,x.2.2 ++ [s]):=by
 have hu:=h.u;have hb:=h.b
 rcases ajo h.t hp (a7e hS) with e | ⟨l',e,h1,h2⟩
 · rw [e] at he;exact absurd he boz
 have hq:=h2 _ h.c;refine ⟨by rw [e], ?_⟩;rw [e];exact ⟨h1,hq.1,by show muC _ l' < _;omega,by simp only [bkq,bm7];omega,by rw [<- h.e,a10 bos hS e]⟩
theorem StI.fin (h:StI F n l p m x) (hS:eu x.2.1 p m = none):ig F n l p m [] = (x.2.2,(n,x.2.1),0):=by
 have hu:=h.u;rw [<- h.e,acl bos hS]
theorem StI.err {s:St} (h:StI F n l p m x) (hS:eu x.2.1 p m = some s) (he:¬ (dx n x.2.1 p m s).2.2 = 0):ig F n l p m [] = ([],(0,[]),(dx n x.2.1 p m s).2.2):=by
 have hu:=h.u;rw [<- h.e];exact abo bos hS rfl he
end
end
section
open Go.Proofs
theorem b92:goodFn Tryz.prog 151:=wgx Tryz.func151
theorem be9 (F:Nat) (n:Int) (l:List Rw) (p m:List Fd) (hF:tok n l = true -> muC l.flatten l < F) (hFb:F <= 4000000000):a7 Tryz.prog 151 [pT n l,pP (fdl p),pP (fdl m)] (ae [pP (stl (j8 F n l p m).1),pT (j8 F n l p m).2.1.1 (j8 F n l p m).2.1.2,pI (j8 F n l p m).2.2]):=by
 refine hpx (nt:=53) Tryz.func151 ?_;refine sx7 ?_;refine m9 0 ?_;refine qy ?_;refine m9 1 ?_;refine w_8 ?_;refine qcx ads (a9g n l p m) ?_;refine w_7 ?_;refine hcn (fun h0=>?_) (fun h0=>?_)
 · refine w_9 ?_;refine ⟨.inr rfl, ?_⟩;have he:=a9a (F:=F) (n:=n) (l:=l) (p:=p) (m:=m) bot;exact f9 rfl rfl (by rw [he];exact ⟨CoC.one (CoP.sl rfl (.inr rfl) (fun _=>rfl) (fun i j hi _=>absurd hi (bkp i))),CoC.agg ⟨CoP.refl _,bf,trivial⟩,CoC.refl _,trivial⟩)
 have hck:ckE n l p m = 0:=by assumption
 obtain ⟨hT,hbe,hpa⟩:=abx hck;obtain ⟨hn0,hn16,hl256,hrow⟩:=jc hT;have hbig:∀ i,i < l.length -> (l.getD i default).length <= 17592186044416:=fun i hi=>by rw [hrow i hi];omega
 refine w_4 ?_;refine qcx aed (ayp n l hbig bos) ?_;refine w_6 ?_;refine cj 10 900 true 4 129 (lf St.c []) boz rfl (CoP.sl rfl (.inr rfl) (fun h=>h) (fun i j hi _=>absurd hi (bkp i))) (.inr rfl) rfl ?_;refine a47 ?_;refine a6 (ι:=Nat × List Rw × List St) ⟨[(1,some _),(2,some _),(3,some _),(7,some _)],[(1,some _)]⟩ ⟨⟨c9,c9,c9,c9,trivial⟩,⟨u9,trivial⟩⟩ (fun x=>⟨[(10,some (.v (.one (.ref 900 x.2.2.length))))],[(0,some (.box [.p (.raw (.int .i64 n)), .p (rl x.2.1)])),(900,some (.arr true 4 129 x.2.2.length (lf St.c x.2.2)))]⟩) (fun x=>StI F n l p m x) (fun x=>x.1) ((F,l,[])) (StI.start hT (hF hT)) ⟨⟨zy,trivial⟩,⟨u9,u9,trivial⟩⟩ ?_;rintro x hX;have hXu:=hX.u;have hXb:=hX.b;refine w_6 ?_;refine qcx b5j (bak n x.2.1 p m hX.t) ?_;refine w_3 ?_;refine m9 2 ?_;refine w_9 ?_;refine hcv (fun h1=>?_) (fun h1=>?_)
 · have hS:=apg (by simpa using h1);refine w_9 ?_;refine av 6 rfl rfl rfl ?_;refine jn ?_;refine ⟨.inr rfl, ?_⟩;have he:=(up hck).trans (hX.fin hS);exact f9 rfl rfl (by rw [he];exact CoL.refl _)
 have hS:=aoz (false,0,0,0) (by simpa using h1);refine w_7 ?_;refine qcx ael (bbq n x.2.1 p m ((eu x.2.1 p m).getD (false,0,0,0)) hX.t hpa (a7e hS)) ?_;refine w_3 ?_;refine m9 3 ?_;refine w_9 ?_;refine hcn (fun h2=>?_) (fun h2=>?_)
 · refine w_9 ?_;refine ⟨.inr rfl, ?_⟩;have he:=(up hck).trans (hX.err hS bot);exact f9 rfl rfl (by rw [he];exact ⟨CoC.one (CoP.sl rfl (.inr rfl) (fun _=>rfl) (fun i j hi _=>absurd hi (bkp i))),CoC.agg ⟨CoP.refl _,bf,trivial⟩,CoC.refl _,trivial⟩)
 have hnx:=hX.next hpa hS bot
 refine w_4 ?_;refine m9 4 ?_;refine r9 5 true ?_;refine w_5 ?_;refine ⟨(x.1 - 1,(dx n x.2.1 p m ((eu x.2.1 p m).getD (false,0,0,0))).2.1,x.2.2 ++ [((eu x.2.1 p m).getD (false,0,0,0))]), ?_, ?_, ?_⟩
 · exact hnx.2
 · show x.1 - 1 < x.1
   omega
 exact ⟨⟨⟨_,rfl,(c7 rfl)⟩,c9,c9,c9,c9,trivial⟩,⟨⟨_,rfl,⟨CoP.of_eq (by rw [hnx.1]),CoH.refl _,trivial⟩⟩,⟨_,rfl,(a7o rfl (fun j hj=>by match j,hj with | 0,_=>exact CoP.refl _ | 1,_=>exact CoP.refl _ | 2,_=>exact CoP.refl _ | 3,_=>exact CoP.refl _) rfl)⟩,u9,trivial⟩⟩
end
section
theorem alj:∀ {l:List Rw},(∀ r,r ∈ l -> r.length <= 16) -> l.flatten.length <= 16 * l.length
 | [],_=>by simp
 | r :: l,h=>by
  have h1:=h r bow;have h2:=alj (l:=l) fun r hr=>h r (by simp [hr]);simp only [List.flatten_cons,bkq,blf];omega
abbrev FU:Nat:=1300000
theorem ak5 {n:Int} {l:List Rw} (h:tok n l = true):muC l.flatten l < FU:=by
 obtain ⟨h0,h1,h2,h3⟩:=jc h;have h4:=alj (l:=l) fun r hr=>by have:=(y9 h r hr).1;omega
 have h5:adz l.flatten l <= l.flatten.length:=List.countP_le_length;unfold muC;show _ < 1300000;omega
theorem bbw {n:Int} {i:Nat} {p:AS} {k a N:Nat} (h:dq p (k:Int) = true) (hN:N = n.toNat) (ha:a = k) :
 CoO (.arr true 1 3 N (er (lf zC (stT n i p k)) a 0 [.raw (.int .i64 (k:Int))])) (.arr true 1 3 N (lf zC (stT n i p (k + 1)))):=by
 subst ha;refine ⟨fun h=>h,rfl,rfl,rfl,fun c j hc hj=>CoP.of_eq ?_⟩;obtain rfl:j = 0:=by omega
 show _ = PV.raw (.int .i64 ((stT n i p (a + 1)).getD c default));rw [a9f c bos];unfold er;by_cases e:c = a
 · rw [if_pos ⟨e,by omega,by simp⟩,if_pos e]
   unfold stV;rw [if_pos h];rfl
 rw [if_neg (fun x=>e x.1),if_neg e];rfl
theorem avi {k:Nat} (h:k < 32):dq (jw 32) (k:Int) = true:=by
 rw [ja h,p9 32 k h];exact decide_eq_true h
theorem axu {n:Int} {k:Nat} (h1:n <= 16) (hk:n.toNat <= k):stT n 0 (jw 32) k = dc n:=by
 rw [aor _ _ _ hk];unfold stR dc;refine bn1 fun c hc=>?_;have:=bl0.1 hc;unfold stV;rw [if_pos (avi bos)]
theorem ax0 {n:Int} {k:Nat} (h1:n <= 16) (hk:n.toNat <= k):CoC (.one (.sl n.toNat 1 false (lf zC (stT n 0 (jw 32) k)))) (pZ (dc n)):=by
 rw [axu h1 hk];exact aqi (acn n)
abbrev a0c (n:Int) (x:Fd):List AS:=[x.lhs ||| x.rhs,x.lhs ||| (aa n &&& ~~~x.rhs)]
def bjn (n:Int) (p m:List Fd) (x:Fd):Bool × Int :=
 if c8 n p m = 0 then
  if inU n x = true then
   if (gh n (a0c n x)).2.2 = 0 then
    if (j8 FU (gh n (a0c n x)).1 (gh n (a0c n x)).2.1 p m).2.2 = 0 then ((j8 FU (gh n (a0c n x)).1 (gh n (a0c n x)).2.1 p m).2.1.2.any (fun r=>decide (r = dc n)),0)
    else (false,(j8 FU (gh n (a0c n x)).1 (gh n (a0c n x)).2.1 p m).2.2)
   else (false,(gh n (a0c n x)).2.2)
  else (false,1)
 else (false,c8 n p m)
end
section
theorem bdr {r:Rw} {g f:Nat -> Nat -> PV} (hf:∀ i j,f i j = lf zC r i j):CoP (.sl (0 + r.length) 1 false (fh 0 g f)) (zl r) :=
 CoP.sl (blc _).symm (.inl rfl) (fun h=>h) fun i j hi hj=>CoP.of_eq (by simp [fh,hf])
theorem arq {l:List Rw} {i k:Nat} {g f:Nat -> Nat -> PV} {e et:TypeId} (hk:k = (l.getD i default).length) (hf:∀ a b,f a b = lf zC (l.getD i default) a b) :
 CoO (.nest e et 1 (i + 1) (qz (nM l) i k) (uf (mg (ci l)) i (fh 0 g f)) none) (.nest e et 1 (i + 1) (nM l) (mg (ci l)) none):=by
 have e:fh 0 g f = lf zC (l.getD i default):=by funext a b;simp [fh,hf]
 rw [e];exact af8 hk rfl
end
end Go.Hx
